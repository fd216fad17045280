/-
  CONTRACT of detect.Deadline.
-/
import Derived.Test.YtdflajgglgbphaaDet
set_option linter.unusedVariables false
set_option linter.unusedSimpArgs false
namespace Go.Proofs.Ytdflajgglgbphaa.K
open Go Go.RowKit Nj

set_option maxHeartbeats 2000000 in
theorem bdeadline_any (v : Value) (l : List Bt) (w : World) (h : Bts w v l) (hpos : 0 < l.length) (hle : l.length ≤ 1000) (hr : ∀ i (hi : i < l.length), 0 ≤ l[i].seq ∧ l[i].seq ≤ 1073741824) :
    Calls Try.prog 17 #[v] w fun e w' => e = .returned (.int .i64 (btDeadline l)) ∧ Below w.heap.size w w' := by
  have HS := Lib.hid h
  have HR := Lib.hid hr
  clear hr
  obtain ⟨hm, hl, p, cap, rfl, hcap, hc⟩ := h
  clear hc hl
  obtain ⟨b, o, rfl, _⟩ := HS.out.open hpos
  obtain ⟨y, hy⟩ : ∃ y, y = btLast l := ⟨_, rfl⟩
  have HY := Lib.hid hy
  have hyl : y = l[l.length - 1] := by rw [hy]; exact last_get l hpos
  have HE := Lib.hid (fun (w' : World) (hb : Below w.heap.size w w') i (hi : i < l.length) => (show w'.cell? ⟨b, o + (i * 2 + 0), none⟩ = some (.int .i64 l[i].seq) ∧ w'.cell? ⟨b, o + (i * 2 + 1), none⟩ = some (.int .i64 l[i].at_) from
    ⟨Sl.elem bt_two (HS.out.keep (by decide) hb) i 0 hi (by decide) _ rfl, Sl.elem bt_two (HS.out.keep (by decide) hb) i 1 hi (by decide) _ rfl⟩))
  have c0 : w.cell? ⟨b, o + (l.length - 1) * 2, none⟩ = some (.int .i64 y.seq) := by rw [hyl]; exact (HE.out w (Below.refl _ _) (l.length - 1) (by omega)).1
  have c1 : w.cell? ⟨b, o + (l.length - 1) * 2 + 1, none⟩ = some (.int .i64 y.at_) := by rw [hyl]; exact (HE.out w (Below.refl _ _) (l.length - 1) (by omega)).2
  obtain ⟨y0, y1⟩ : 0 ≤ y.seq ∧ y.seq ≤ 1073741824 := by rw [hyl]; exact HR.out _ _
  clear hy hyl
  have t1 : (1 : Int) ≤ (l.length : Int) := by omega
  go_enter Try.func17, Try.ntmps17
  go_wp2_with fail
  go_loopw [4, 16] (fun bv i wr => ∃ j : Nat, j ≤ l.length ∧ i = .int .i64 j ∧ OwnI 3 (w.heap.size + 1) wr bv ((btAwaited l).take j) ∧ Below w.heap.size w wr ∧ wr.heap[w.heap.size]? = some (.cells #[.int .i64 y.seq, .int .i64 y.at_] 30)) (fun _ i _ => l.length - (intOf i).toNat)
  case atStart => exact ⟨0, by omega, rfl, ownI_nil _ _ _, (Below.refl _ _).alloc (Nat.le_refl _) _, heap_new _ _ _ rfl⟩
  case round =>
    obtain ⟨j, hj, rfl, hown, hwb, hq⟩ := hrel
    have HW := Lib.hid hwb
    have HO := Lib.hid hown
    have HQ := Lib.hid hq
    clear hwb hown hq c0 c1
    by_cases hlt : j < l.length
    · obtain ⟨x, hx⟩ : ∃ x, x = l[j] := ⟨_, rfl⟩
      have c0 : wr.cell? ⟨b, o + j * 2, none⟩ = some (.int .i64 x.seq) := by rw [hx]; exact (HE.out wr HW.out j hlt).1
      have c1 : wr.cell? ⟨b, o + j * 2 + 1, none⟩ = some (.int .i64 x.at_) := by rw [hx]; exact (HE.out wr HW.out j hlt).2
      have t3 : (j : Int) < (l.length : Int) := by omega
      have t4 : (0 : Int) ≤ (j : Int) := by omega
      have HX := Lib.hid hx
      obtain ⟨x0, x1⟩ : 0 ≤ x.seq ∧ x.seq ≤ 1073741824 := by rw [hx]; exact HR.out _ _
      clear hx
      go_upto_region 6 with fail
      obtain ⟨wa, hwa⟩ : ∃ wa, wa = wr.alloc (.cells #[.int .i64 x.seq, .int .i64 x.at_] 30) := ⟨_, rfl⟩
      rw [← hwa]
      have HXa := Lib.hid (show wa.heap[wr.heap.size]? = some (.cells #[.int .i64 x.seq, .int .i64 x.at_] 30) by rw [hwa]; exact heap_new _ _ _ rfl)
      have HQa := Lib.hid (show wa.heap[w.heap.size]? = some (.cells #[.int .i64 y.seq, .int .i64 y.at_] 30) by rw [hwa]; exact keepa HQ.out _)
      have HBa := Lib.hid (show Below w.heap.size w wa by rw [hwa]; exact HW.out.alloc HW.out.size _)
      have HOa := Lib.hid (show Own 3 1 (w.heap.size + 1) wa u4 j (((btAwaited l).take j).map (Value.int .i64)) by
        have h := HO.out.alloc (.cells #[.int .i64 x.seq, .int .i64 x.at_] 30)
        rw [← hwa] at h
        have e : ((btAwaited l).take j).length = j := by simp [btAwaited]; omega
        unfold OwnI at h; rw [e] at h; exact h)
      have HN := Lib.hid (show ∀ k, u4.ownBlock = some k → wr.heap.size ≠ k ∧ w.heap.size ≠ k from fun k hk => by
        have h1 := Own.lt (show Own 3 1 (w.heap.size + 1) wr u4 _ _ from HO.out) k hk
        have h2 := HOa.out.block k hk
        omega)
      have hsz : w.heap.size + 1 ≤ wa.heap.size := by have := block_lt HQa.out; omega
      clear hwa c0 c1
      have d0 := cell_of_block HXa.out
      have d1 := cell_of_block HQa.out
      have hj2 : j ≤ 1000 := by omega
      go_region_held3 (fun w' => w'.cell? ⟨wr.heap.size, 0, none⟩ = some (.int .i64 x.seq) ∧ w'.cell? ⟨wr.heap.size, 1, none⟩ = some (.int .i64 x.at_) ∧ w'.cell? ⟨w.heap.size, 0, none⟩ = some (.int .i64 y.seq) ∧ w'.cell? ⟨w.heap.size, 1, none⟩ = some (.int .i64 y.at_))
        (go_keep)
        ((first
          | (go_at_call 24; refine (add_any _ _ _).mono ?_; rintro e w' ⟨rfl, rfl⟩) | (go_at_call 25; refine (mul_any _ _ _).mono ?_; rintro e w' ⟨rfl, rfl⟩)
          | (refine step_append_sl rfl (.tmp 20) (.tmp 30) 41 rfl (w.heap.size + 1) 3 (.int .i64 0) 1 8 Try.underlying41 (by kernel_rfl) rfl (by decide) _ j (((btAwaited l).take j).map (Value.int .i64)) rfl (HOa.out.alloc _) ⟨wa.heap.size, 0, none⟩ 1 1 rfl [.int .i64 (add x.at_ (mul 4 (IntKind.i64.wrap (y.seq - x.seq))))] rfl (news_new (w := (wa.alloc (.cells #[.int .i64 (add x.at_ (mul 4 (IntKind.i64.wrap (y.seq - x.seq))))] 3)).drew) (heap_new wa _ _ rfl)) (by simp [Value.oneCell']) (by omega) (by omega) (by simp; omega) ?_; intro v2 w4 hown2 hg2; have hc4 := cell_of_block (keepn (w := (wa.alloc (.cells #[.int .i64 (add x.at_ (mul 4 (IntKind.i64.wrap (y.seq - x.seq))))] 3)).drew) (keepa HXa.out _) hg2 (fun k hk => (HN.out k hk).1)); have hc5 := cell_of_block (keepn (w := (wa.alloc (.cells #[.int .i64 (add x.at_ (mul 4 (IntKind.i64.wrap (y.seq - x.seq))))] 3)).drew) (keepa HQa.out _) hg2 (fun k hk => (HN.out k hk).2)))))
      have hwr : IntKind.i64.wrap (y.seq - x.seq) = y.seq - x.seq := by unfold IntKind.wrap; simp [IntKind.bits, IntKind.signed]; omega
      have hlen : j < (btAwaited l).length := by simp [btAwaited]; omega
      have htk : (btAwaited l).take (j + 1) = (btAwaited l).take j ++ [add x.at_ (mul 4 (IntKind.i64.wrap (y.seq - x.seq)))] := by
        rw [hwr, List.take_add_one, List.getElem?_eq_getElem hlen]
        simp [btAwaited, HX.out, HY.out]
      have HT := Lib.hid htk
      have HO4 := Lib.hid hown2
      have HG := Lib.hid hg2
      clear htk hwr hown2 hg2 hlen
      go_wp2_with fail
      go_roundw
      case rel =>
        refine ⟨j + 1, by omega, by go_num, ?_, ?_, ?_⟩
        · rw [HT.out]
          unfold OwnI
          have e : ((btAwaited l).take j).length = j := by simp [btAwaited]; omega
          rw [List.length_append, e, List.map_append]
          exact HO4.out
        · exact (show Below w.heap.size w (wa.alloc _).drew from (HBa.out.alloc (by omega) _).drew).grown HG.out (by simp; omega) (fun k hk => by have := HOa.out.block k hk; omega)
        · exact keepn (w := (wa.alloc (.cells #[.int .i64 (add x.at_ (mul 4 (IntKind.i64.wrap (y.seq - x.seq))))] 3)).drew) (keepa HQa.out _) HG.out (fun k hk => (HN.out k hk).2)
      case measure => simp [intOf]; omega
    · have hke : j = l.length := by omega
      subst hke
      have t3 : decide ((l.length : Int) < (l.length : Int)) = false := by simp
      have hall : (btAwaited l).take l.length = btAwaited l := List.take_of_length_le (by simp [btAwaited])
      have hk1 := Lib.hid (show Ints wr u4 (btAwaited l) from by have h := HO.out.ints; rw [hall] at h; exact h)
      clear hall
      obtain ⟨m, hmn⟩ : ∃ m, m = mean (btAwaited l) := ⟨_, rfl⟩
      have HM := Lib.hid hmn
      have hmean := Lib.hid (show Calls Try.prog 27 #[u4] wr (fun e w' => e = .returned (.int .i64 m) ∧ wr = w') by rw [hmn]; exact mean_any _ _ _ hk1.out)
      clear hmn
      have hsum := Lib.hid (sum_any (.slice (some ⟨wr.heap.size, 0, none⟩) 3 3) [m, 4, 6] (wr.alloc (.cells #[.int .i64 m, .int .i64 4, .int .i64 6] 3)) (ints_alloc _ _ _ _ _ _ _ _ rfl rfl rfl (by decide) (by decide)))
      go_wp2_with (first | (go_at_call 27; refine hmean.out.mono ?_; rintro e w' ⟨rfl, rfl⟩) | (go_at_call 26; refine hsum.out.mono ?_; rintro e w' ⟨rfl, rfl⟩))
      obtain ⟨wb, hwb⟩ : ∃ wb, wb = wr.alloc (.cells #[.int .i64 m, .int .i64 4, .int .i64 6] 3) := ⟨_, rfl⟩
      rw [← hwb]
      have HQb := Lib.hid (show wb.heap[w.heap.size]? = some (.cells #[.int .i64 y.seq, .int .i64 y.at_] 30) by rw [hwb]; exact keepa HQ.out _)
      have HBb := Lib.hid (show Below w.heap.size w wb by rw [hwb]; exact HW.out.alloc HW.out.size _)
      clear hwb hsum hmean
      have c0 := fun d os => cell_of_block (keepb HQb.out (below_regrown wb d os))
      obtain ⟨s, hs⟩ : ∃ s, s = sum [m, 4, 6] := ⟨_, rfl⟩
      rw [← hs]
      have HD := Lib.hid (show btDeadline l = max (min s (add y.at_ 40)) (add y.at_ 1) by unfold btDeadline; rw [← HM.out, ← HY.out, ← hs])
      clear hs
      obtain ⟨a40, h40⟩ : ∃ a, a = add y.at_ 40 := ⟨_, rfl⟩
      obtain ⟨a1, h1⟩ : ∃ a, a = add y.at_ 1 := ⟨_, rfl⟩
      rw [← h40, ← h1] at HD
      refine wp_region_quiet_below (by kernel_rfl) (by kernel_rfl) ?_
      repeat (first | go_big_quiet_skip | (go_big_quiet_want; go_big_quiet_op; first | go_big_quiet_on | (apply Exists.intro; refine ⟨fun _ => ?_, ?_⟩; (focus ((first | (go_at_call 24; exact same_regrown (add_any _ _ _))))); go_big_quiet_on)))
      refine wpQuiet_nil ?_
      intro _ hw'
      obtain ⟨⟨dq, osq⟩, hw''⟩ := hw'
      subst hw''
      go_wp2_with fail
      all_goals go_ret
      all_goals refine ⟨ret_int ?_, chain HBb.out (below_regrown wb dq osq)⟩
      all_goals rw [HD.out]
      all_goals (first | (rw [h40, h1]; omega) | omega | (simp only [h40, h1]; omega) | (rw [h40, h1]))
end Go.Proofs.Ytdflajgglgbphaa.K

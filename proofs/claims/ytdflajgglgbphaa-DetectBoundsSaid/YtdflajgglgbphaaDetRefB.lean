/-
  CONTRACTS of the document's own answers Beat, Same, Deadline for package detect.
-/
import Derived.Test.YtdflajgglgbphaaDetRef
import Derived.Test.YtdflajgglgbphaaSatRef
set_option linter.unusedVariables false
set_option linter.unusedSimpArgs false
namespace Nj
theorem add_mul4 (a d : Int) (h : -1099511627776 ≤ d) (h2 : d ≤ 1099511627776) : add a (4 * d) = add a (mul 4 d) := by
  unfold add mul clamp
  rcases Int.le_total 0 d with h0 | h0
  · rw [show max d 0 = d by omega, show min d 1099511627776 = d by omega, show min (max 4 0) (1099511627776 : Int) = 4 from rfl]; omega
  · rw [show max d 0 = 0 by omega, show min (0 : Int) 1099511627776 = 0 from rfl, Int.mul_zero]; omega
end Nj
namespace Go.Proofs.Ytdflajgglgbphaa.K
open Go Go.RowKit Nj

set_option maxHeartbeats 2000000 in
theorem rbeat_any (v : Value) (l : List Bt) (seq now : Int) (w : World) (h : Bts w v l) (hr : btRight l = true) :
   
    Calls Try.prog 16 #[v, .int .i64 seq, .int .i64 now] w (RetBeat w (btBeat l seq now).1 (btBeat l seq now).2) := by
  obtain ⟨hpos, hle⟩ := right_pos hr
  have hlast := right_last hr
  clear hr
  have HS := Lib.hid h
  obtain ⟨hm, hl, p, cap, rfl, hcap, hc⟩ := h
  clear hc hl
  obtain ⟨b, o, rfl, _⟩ := HS.out.open hpos
  obtain ⟨y, hy⟩ : ∃ y, y = btLast l := ⟨_, rfl⟩
  have HY := Lib.hid hy
  have hyl : y = l[l.length - 1] := by rw [hy]; exact last_get l hpos
  have HE := Lib.hid (fun (w' : World) (hb : Below w.heap.size w w') => (show w'.cell? ⟨b, o + (l.length - 1) * 2, none⟩ = some (.int .i64 y.seq) ∧ w'.cell? ⟨b, o + (l.length - 1) * 2 + 1, none⟩ = some (.int .i64 y.at_) from by
    rw [hyl]
    exact ⟨Sl.elem bt_two (HS.out.keep (by decide) hb) (l.length - 1) 0 (by omega) (by decide) _ rfl, Sl.elem bt_two (HS.out.keep (by decide) hb) (l.length - 1) 1 (by omega) (by decide) _ rfl⟩))
  have HC := Lib.hid (Sl.news (by decide) (HS.out.keep (w' := w.alloc (.cells #[] 30)) (by decide) ((Below.refl _ _).alloc (Nat.le_refl _) _)))
  rw [← hy] at hlast
  clear hy hyl
  have t1 : (1 : Int) ≤ (l.length : Int) := by omega
  have HB0 := Lib.hid ((Below.refl w.heap.size w).alloc (Nat.le_refl _) (.cells #[] 30))
  have hbi := behind_iff ⟨seq, now⟩ y
  cases hbe : btBehind ⟨seq, now⟩ y
  · have HF := Lib.hid (show btBeat l seq now = (l, false) by unfold btBeat; rw [← HY.out, hbe]; rfl)
    rw [hbe] at hbi
    simp only [Bool.false_eq_true, false_iff] at hbi
    rcases (show (seq ≤ y.seq) ∨ (¬ seq ≤ y.seq ∧ 1073741824 < seq) ∨ (¬ seq ≤ y.seq ∧ ¬ 1073741824 < seq ∧ now < y.at_) ∨ (¬ seq ≤ y.seq ∧ ¬ 1073741824 < seq ∧ ¬ now < y.at_ ∧ 1099511627776 < now) by omega) with e1 | ⟨e1, e2⟩ | ⟨e1, e2, e3⟩ | ⟨e1, e2, e3, e4⟩
    all_goals clear hbi hbe hlast
    all_goals
      go_enter Try.func16, Try.ntmps16
      go_wp2_with (at_builtin; refine wpList_app rfl (.tmp 10) (.tmp 11) 22 rfl w.heap.size 30 (.agg #[.int .i64 0, .int .i64 0]) 2 16 Try.underlying22 (by kernel_rfl) rfl (by decide) w.heap.size w HB0 (Nat.le_refl _) (Lib.hid (own_empty _ _ _ _ _ rfl (Nat.le_refl _))) rfl ⟨b, o, none⟩ l.length cap rfl (flat Bt.cells l) (flat_length bt_two l) HC (cells_one l) (by omega) (by omega) (by simp) ?_; intro p1 cap1 w1 hc1 HO1 HB1 HK1; have c0 := (HE.out w1 HB1.out).1; have c1 := (HE.out w1 HB1.out).2; simp only [Nat.zero_add, List.nil_append] at HO1 hc1)
      go_ret2
      refine ⟨_, by rw [HF.out]; rfl, ?_, HB1.out.alloc HB1.out.size _⟩
      rw [HF.out]
      exact (HO1.out.alloc _).fresh
  · have HF := Lib.hid (show btBeat l seq now = ((l ++ [Bt.mk seq now]).drop (l.length + 1 - 8), true) by unfold btBeat; rw [← HY.out, hbe]; rfl)
    rw [hbe] at hbi
    simp only [true_iff] at hbi
    obtain ⟨e1, e2, e3, e4⟩ : ¬ seq ≤ y.seq ∧ ¬ 1073741824 < seq ∧ ¬ now < y.at_ ∧ ¬ 1099511627776 < now := by omega
    clear hbi hbe hlast
    go_enter Try.func16, Try.ntmps16
    go_wp2_with (first | (at_builtin; refine wpList_app rfl (.tmp 10) (.tmp 11) 22 rfl w.heap.size 30 (.agg #[.int .i64 0, .int .i64 0]) 2 16 Try.underlying22 (by kernel_rfl) rfl (by decide) w.heap.size w HB0 (Nat.le_refl _) (Lib.hid (own_empty _ _ _ _ _ rfl (Nat.le_refl _))) rfl ⟨b, o, none⟩ l.length cap rfl (flat Bt.cells l) (flat_length bt_two l) HC (cells_one l) (by omega) (by omega) (by simp) ?_; intro p1 cap1 w1 hc1 HO1 HB1 HK1; have c0 := (HE.out w1 HB1.out).1; have c1 := (HE.out w1 HB1.out).2; simp only [Nat.zero_add, List.nil_append] at HO1 hc1) | (at_builtin; refine wpList_app rfl (.tmp 38) (.tmp 42) 22 rfl w.heap.size 30 (.agg #[.int .i64 0, .int .i64 0]) 2 16 Try.underlying22 (by kernel_rfl) rfl (by decide) w.heap.size w (Lib.hid ((HB1.out.alloc HB1.out.size _).alloc (Nat.le_trans HB1.out.size (by simp)) _)) (Nat.le_refl _) (Lib.hid ((HO1.out.alloc _).alloc _)) rfl ⟨w1.heap.size + 1, 0, none⟩ 1 1 rfl [.int .i64 seq, .int .i64 now] rfl (Lib.hid (news_new (heap_new _ _ _ (by simp)))) (by simp [Value.oneCell']) (by omega) (by omega) (by have := HB1.out.size; simp; omega) ?_; intro p2 cap2 w2 hc2 HO2 HB2 HK2))
    all_goals go_ret2
    all_goals first
      | exact beat_fin0 HF.out HO2.out (Nat.le_refl _) HB2.out (by omega)
      | exact beat_fin HF.out HO2.out (Nat.le_refl _) HB2.out 1 (by omega)

theorem neq_bt (x y : Bt) (w : World) :
    (binOp .neq 30 (.agg #[.int .i64 x.seq, .int .i64 x.at_]) (.agg #[.int .i64 y.seq, .int .i64 y.at_])).run Try.prog w = .ok (.bool (!(decide (x = y)))) w := by
  go_simp
  have e : (x = y) ↔ x.seq = y.seq ∧ x.at_ = y.at_ := by cases x; cases y; simp
  simp only [e]
  (repeat' split) <;> simp_all
set_option maxHeartbeats 1000000 in
theorem rsame_any (v v' : Value) (l m : List Bt) (w : World) (h : Bts w v l) (h' : Bts w v' m) :
    Calls Try.prog 12 #[v, v'] w fun e w' => e = .returned (.bool (decide (l = m))) ∧ Below w.heap.size w w' := by
  have HS := Lib.hid h
  have HS' := Lib.hid h'
  obtain ⟨hm, hl, p, cap, rfl, hcap, hc⟩ := h
  obtain ⟨hm', hl', p', cap', rfl, hcap', hc'⟩ := h'
  clear hc hl hc' hl'
  by_cases hlen : l.length = m.length
  · have HL := Lib.hid hlen
    obtain ⟨n, hn⟩ : ∃ n, n = l.length := ⟨_, rfl⟩
    have hn' : n = m.length := by omega
    rw [← hn] at hm hcap
    rw [← hn'] at hm' hcap'
    have HN := Lib.hid hn
    have HN' := Lib.hid hn'
    rw [← hn, ← hn']
    clear hlen hn hn' hm'
    go_enter Try.func12, Try.ntmps12
    go_wp2_with fail
    go_loopw [5] (fun i wr => ∃ k : Nat, k ≤ n ∧ i = .int .i64 k ∧ l.take k = m.take k ∧ Below w.heap.size w wr) (fun i _ => n - (intOf i).toNat)
    case atStart => exact ⟨0, by omega, rfl, by simp, Below.refl _ _⟩
    case round =>
      obtain ⟨k, hk, rfl, hall, hwb⟩ := hrel
      have HA := Lib.hid hall
      have HW := Lib.hid hwb
      clear hall hwb
      by_cases hlt : k < n
      · have hltl : k < l.length := by rw [← HN.out]; exact hlt
        have hltm : k < m.length := by rw [← HN'.out]; exact hlt
        obtain ⟨b, o, rfl, _⟩ := HS.out.open (by omega)
        obtain ⟨b', o', rfl, _⟩ := HS'.out.open (by omega)
        obtain ⟨x, hx⟩ : ∃ x, x = l[k] := ⟨_, rfl⟩
        obtain ⟨y, hy⟩ : ∃ y, y = m[k] := ⟨_, rfl⟩
        have c0 : wr.cell? ⟨b, o + k * 2, none⟩ = some (.int .i64 x.seq) := by rw [hx]; exact Sl.elem bt_two (HS.out.keep (by decide) HW.out) k 0 hltl (by decide) _ rfl
        have c1 : wr.cell? ⟨b, o + k * 2 + 1, none⟩ = some (.int .i64 x.at_) := by rw [hx]; exact Sl.elem bt_two (HS.out.keep (by decide) HW.out) k 1 hltl (by decide) _ rfl
        have c2 : wr.cell? ⟨b', o' + k * 2, none⟩ = some (.int .i64 y.seq) := by rw [hy]; exact Sl.elem bt_two (HS'.out.keep (by decide) HW.out) k 0 hltm (by decide) _ rfl
        have c3 : wr.cell? ⟨b', o' + k * 2 + 1, none⟩ = some (.int .i64 y.at_) := by rw [hy]; exact Sl.elem bt_two (HS'.out.keep (by decide) HW.out) k 1 hltm (by decide) _ rfl
        have HX := Lib.hid hx
        have HY := Lib.hid hy
        have t1 : (k : Int) < (n : Int) := by omega
        have t2 : (0 : Int) ≤ (k : Int) := by omega
        clear hx hy
        by_cases hxy : x = y
        · have hne := fun w => neq_bt x y w
          simp only [hxy, decide_true, Bool.not_true] at hne
          have HT := Lib.hid (show l.take (k + 1) = m.take (k + 1) by
            rw [List.take_add_one, List.take_add_one, HA.out, List.getElem?_eq_getElem hltl, List.getElem?_eq_getElem hltm, ← HX.out, ← HY.out, hxy])
          subst hxy
          go_wp2_with fail
          go_quiet (fail)
          go_wp2_with fail
          go_roundw
          case rel => exact ⟨k + 1, by omega, by go_num, HT.out, bel_drewN HW.out _⟩
          case measure => simp [intOf]; omega
        · have hne := fun w => neq_bt x y w
          simp only [hxy, decide_false, Bool.not_false] at hne
          have HF := Lib.hid (show decide (l = m) = false by
            simp only [decide_eq_false_iff_not]
            rintro rfl
            exact hxy (by rw [HX.out, HY.out]))
          clear hxy
          go_wp2_with fail
          go_quiet (fail)
          go_wp2_with fail
          go_ret
          exact ⟨ret_bool HF.out.symm, bel_drewN HW.out _⟩
      · have hke : k = n := by omega
        subst hke
        have HF := Lib.hid (show decide (l = m) = true by
          have := HA.out
          rw [List.take_of_length_le (by rw [← HN.out]; exact Nat.le_refl _), List.take_of_length_le (by rw [← HN'.out]; exact Nat.le_refl _)] at this
          simpa using this)
        have t1 : decide ((k : Int) < (k : Int)) = false := by simp
        go_wp2_with fail
        go_ret
        exact ⟨ret_bool HF.out.symm, HW.out⟩
  · have HF := Lib.hid (show decide (l = m) = false by
      simp only [decide_eq_false_iff_not]
      rintro rfl
      exact hlen rfl)
    have t1 : ((l.length : Int) != (m.length : Int)) = true := by simp; omega
    go_enter Try.func12, Try.ntmps12
    go_wp2_with fail
    go_ret
    exact ⟨ret_bool HF.out.symm, Below.refl _ _⟩

set_option maxHeartbeats 2000000 in
theorem rdeadline_any (v : Value) (l : List Bt) (w : World) (h : Bts w v l) (hr : btRight l = true) :
    Calls Try.prog 18 #[v] w fun e w' => e = .returned (.int .i64 (btDeadline l)) ∧ Below w.heap.size w w' := by
  have HS := Lib.hid h
  obtain ⟨hpos, hle⟩ := right_pos hr
  have HR := Lib.hid (fun i hi => (may_iff _).1 (right_all hr i hi))
  have hlast := right_last hr
  clear hr
  obtain ⟨hm, hl, p, cap, rfl, hcap, hc⟩ := h
  clear hc hl
  obtain ⟨b, o, rfl, _⟩ := HS.out.open hpos
  obtain ⟨y, hy⟩ : ∃ y, y = btLast l := ⟨_, rfl⟩
  have HY := Lib.hid hy
  have hyl : y = l[l.length - 1] := by rw [hy]; exact last_get l hpos
  have HE := Lib.hid (fun (w' : World) (hb : Below w.heap.size w w') i (hi : i < l.length) => (show w'.cell? ⟨b, o + (i * 2 + 0), none⟩ = some (.int .i64 l[i].seq) ∧ w'.cell? ⟨b, o + (i * 2 + 1), none⟩ = some (.int .i64 l[i].at_) from
    ⟨Sl.elem bt_two (HS.out.keep (by decide) hb) i 0 hi (by decide) _ rfl, Sl.elem bt_two (HS.out.keep (by decide) hb) i 1 hi (by decide) _ rfl⟩))
  have c0 : w.cell? ⟨b, o + (l.length - 1) * 2, none⟩ = some (.int .i64 y.seq) := by rw [hyl]; exact (HE.out w (Below.refl _ _) (l.length - 1) (by omega)).1
  have c1 : w.cell? ⟨b, o + (l.length - 1) * 2 + 1, none⟩ = some (.int .i64 y.at_) := by rw [hyl]; exact (HE.out w (Below.refl _ _) (l.length - 1) (by omega)).2
  rw [← hy] at hlast
  obtain ⟨y0, y1, y2, y3⟩ := hlast
  clear hy hyl
  have t1 : (1 : Int) ≤ (l.length : Int) := by omega
  go_enter Try.func18, Try.ntmps18
  go_wp2_with fail
  go_loopw [4, 5] (fun bv i wr => ∃ j : Nat, j ≤ l.length ∧ i = .int .i64 j ∧ OwnI 3 (w.heap.size + 1) wr bv ((btAwaited l).take j) ∧ Below w.heap.size w wr ∧ wr.heap[w.heap.size]? = some (.cells #[.int .i64 y.seq, .int .i64 y.at_] 30)) (fun _ i _ => l.length - (intOf i).toNat)
  case atStart => exact ⟨0, by omega, rfl, ownI_nil _ _ _, (Below.refl _ _).alloc (Nat.le_refl _) _, heap_new _ _ _ rfl⟩
  case round =>
    obtain ⟨j, hj, rfl, hown, hwb, hq⟩ := hrel
    have HW := Lib.hid hwb
    have HO := Lib.hid hown
    have HQ := Lib.hid hq
    clear hwb hown hq c0 c1
    by_cases hlt : j < l.length
    · obtain ⟨x, hx⟩ : ∃ x, x = l[j] := ⟨_, rfl⟩
      have c0 : wr.cell? ⟨b, o + j * 2, none⟩ = some (.int .i64 x.seq) := by rw [hx]; exact (HE.out wr HW.out j hlt).1
      have c1 : wr.cell? ⟨b, o + j * 2 + 1, none⟩ = some (.int .i64 x.at_) := by rw [hx]; exact (HE.out wr HW.out j hlt).2
      have t3 : (j : Int) < (l.length : Int) := by omega
      have t4 : (0 : Int) ≤ (j : Int) := by omega
      have HX := Lib.hid hx
      obtain ⟨x0, x1, x2, x3⟩ : 0 ≤ x.seq ∧ x.seq ≤ 1073741824 ∧ 0 ≤ x.at_ ∧ x.at_ ≤ 1099511627776 := by rw [hx]; exact HR.out _ _
      clear hx
      go_upto_region 6 with fail
      have HQc := Lib.hid (show ∀ W : World, Below wr.heap.size wr W → W.heap[w.heap.size]? = some (.cells #[.int .i64 y.seq, .int .i64 y.at_] 30) from fun W hW => keepb HQ.out hW)
      have HOa := Lib.hid (show Own 3 1 (w.heap.size + 1) wr u4 j (((btAwaited l).take j).map (Value.int .i64)) by
        have h := HO.out
        have e : ((btAwaited l).take j).length = j := by simp [btAwaited]; omega
        unfold OwnI at h; rw [e] at h; exact h)
      have HBw := Lib.hid (show Below w.heap.size w (wr.alloc (.cells #[.int .i64 (add x.at_ (IntKind.i64.wrap (4 * IntKind.i64.wrap (y.seq - x.seq))))] 3)).drew from (HW.out.alloc HW.out.size _).drew)
      have hsz : w.heap.size + 1 ≤ wr.heap.size := by have := block_lt HQ.out; omega
      have d1 := cell_of_block HQ.out
      have hj2 : j ≤ 1000 := by omega
      go_region_held3 (fun w' => w'.cell? ⟨b, o + j * 2, none⟩ = some (.int .i64 x.seq) ∧ w'.cell? ⟨b, o + j * 2 + 1, none⟩ = some (.int .i64 x.at_) ∧ w'.cell? ⟨w.heap.size, 0, none⟩ = some (.int .i64 y.seq) ∧ w'.cell? ⟨w.heap.size, 1, none⟩ = some (.int .i64 y.at_))
        (go_keep)
        ((first
          | (go_at_call 28; refine (radd_any _ _ _).mono ?_; rintro e w' ⟨rfl, rfl⟩)
          | (refine step_app rfl (.tmp 19) (.tmp 35) 41 rfl (w.heap.size + 1) 3 (.int .i64 0) 1 8 Try.underlying41 (by kernel_rfl) rfl (by decide) w.heap.size w HBw (by omega) (Lib.hid (HOa.out.alloc _)) rfl ⟨wr.heap.size, 0, none⟩ 1 1 rfl [.int .i64 (add x.at_ (IntKind.i64.wrap (4 * IntKind.i64.wrap (y.seq - x.seq))))] rfl (Lib.hid (news_new (w := (wr.alloc (.cells #[.int .i64 (add x.at_ (IntKind.i64.wrap (4 * IntKind.i64.wrap (y.seq - x.seq))))] 3)).drew) (heap_new wr _ _ rfl))) (by simp [Value.oneCell']) (by omega) (by omega) (by simp; omega) ?_; intro p2 cap2 w4 hc2 HO4 HB4 HK4; have hq4 := HE.out w4 HB4.out j hlt; rw [← HX.out] at hq4; have hc4 : w4.cell? ⟨b, o + j * 2, none⟩ = some (.int .i64 x.seq) := hq4.1; have hc5 : w4.cell? ⟨b, o + j * 2 + 1, none⟩ = some (.int .i64 x.at_) := hq4.2; have hc6 := cell_of_block (HK4.out _ _ (keepa HQ.out _) (fun k hk => by have := HOa.out.block k hk; omega)))))
      have hwr : (add x.at_ (IntKind.i64.wrap (4 * IntKind.i64.wrap (y.seq - x.seq)))) = add x.at_ (mul 4 (y.seq - x.seq)) := by
        have e1 : IntKind.i64.wrap (y.seq - x.seq) = y.seq - x.seq := by unfold IntKind.wrap; simp [IntKind.bits, IntKind.signed]; omega
        have e2 : IntKind.i64.wrap (4 * (y.seq - x.seq)) = 4 * (y.seq - x.seq) := by unfold IntKind.wrap; simp [IntKind.bits, IntKind.signed]; omega
        rw [e1, e2, add_mul4 _ _ (by omega) (by omega)]
      have hlen : j < (btAwaited l).length := by simp [btAwaited]; omega
      have HT := Lib.hid (show (btAwaited l).take (j + 1) = (btAwaited l).take j ++ [(add x.at_ (IntKind.i64.wrap (4 * IntKind.i64.wrap (y.seq - x.seq))))] by
        rw [hwr, List.take_add_one, List.getElem?_eq_getElem hlen]
        simp [btAwaited, HX.out, HY.out])
      clear hwr hlen hq4 hc4 hc5 hc6
      go_wp2_with fail
      go_roundw
      case rel =>
        refine ⟨j + 1, by omega, by go_num, ?_, HB4.out, HK4.out _ _ (keepa HQ.out _) (fun k hk => by have := HOa.out.block k hk; omega)⟩
        rw [HT.out]
        unfold OwnI
        have e : ((btAwaited l).take j).length = j := by simp [btAwaited]; omega
        rw [List.length_append, e, List.map_append]
        exact HO4.out
      case measure => simp [intOf]; omega
    · have hke : j = l.length := by omega
      subst hke
      have t3 : decide ((l.length : Int) < (l.length : Int)) = false := by simp
      have hall : (btAwaited l).take l.length = btAwaited l := List.take_of_length_le (by simp [btAwaited])
      have hk1 := Lib.hid (show Ints wr u4 (btAwaited l) from by have h := HO.out.ints; rw [hall] at h; exact h)
      clear hall
      obtain ⟨m, hmn⟩ : ∃ m, m = mean (btAwaited l) := ⟨_, rfl⟩
      have HM := Lib.hid hmn
      have hmean := Lib.hid (show Calls Try.prog 29 #[u4] wr (fun e w' => e = .returned (.int .i64 m) ∧ wr = w') by rw [hmn]; exact rmean_any _ _ _ hk1.out)
      clear hmn
      obtain ⟨s, hs⟩ : ∃ s, s = add m 10 := ⟨_, rfl⟩
      have hadd := fun W => radd_any m 10 W
      rw [← hs] at hadd
      have HADD := Lib.hid hadd
      have HSS := Lib.hid hs
      clear hadd hs
      go_wp2_with (first | (go_at_call 29; refine hmean.out.mono ?_; rintro e w' ⟨rfl, rfl⟩) | (go_at_call 28; refine (HADD.out _).mono ?_; rintro e w' ⟨rfl, rfl⟩))
      have c0 := fun d os => cell_of_block (keepb HQ.out (below_regrown wr d os))
      have HD := Lib.hid (show btDeadline l = max (min s (add y.at_ 40)) (add y.at_ 1) by
        unfold btDeadline; rw [← HM.out, ← HY.out, HSS.out]
        congr 2
        show add (add (add 0 m) 4) 6 = add m 10
        unfold add clamp; omega)
      obtain ⟨a40, h40⟩ : ∃ a, a = add y.at_ 40 := ⟨_, rfl⟩
      obtain ⟨a1, h1⟩ : ∃ a, a = add y.at_ 1 := ⟨_, rfl⟩
      rw [← h40, ← h1] at HD
      have HB0 := Lib.hid HW.out
      refine wp_region_quiet_below (by kernel_rfl) (by kernel_rfl) ?_
      repeat (first | go_big_quiet_skip | (go_big_quiet_want; go_big_quiet_op; first | go_big_quiet_on | (apply Exists.intro; refine ⟨fun _ => ?_, ?_⟩; (focus ((first | (go_at_call 28; exact same_regrown (radd_any _ _ _))))); go_big_quiet_on)))
      refine wpQuiet_nil ?_
      intro _ hw'
      obtain ⟨⟨dq, osq⟩, hw''⟩ := hw'
      subst hw''
      go_wp2_with fail
      all_goals go_ret
      all_goals refine ⟨ret_int ?_, chain HB0.out (below_regrown wr dq osq)⟩
      all_goals rw [HD.out]
      all_goals (first | (rw [h40, h1]; omega) | omega | (simp only [h40, h1]; omega) | (rw [h40, h1]))
end Go.Proofs.Ytdflajgglgbphaa.K

/-
  THE STATEMENT 'Rows.DetectBoundsSaid': nightjarlaw14.DetectBounds returns true for every input, and its arguments read afterwards as they read before. No condition.
-/
import Derived.Test.YtdflajgglgbphaaDetSmall
import Derived.Test.YtdflajgglgbphaaRows
import Derived.StillTailTactics
import Derived.ProofKit
import Derived.OpenShut
import Derived.ShutString
import Derived.ChangeOld
import Derived.Below
set_option linter.unusedVariables false
set_option linter.unusedSimpArgs false
namespace Go.Proofs.Ytdflajgglgbphaa.lawDetectBounds
open Go Go.RowKit Nj K

theorem bts_shape {w : World} {v : Value} {l : List Bt} (h : Bts w v l) : ∃ p cap, v = .slice p l.length cap ∧ l.length ≤ cap := by
  obtain ⟨_, _, p, cap, rfl, hcap, _⟩ := h
  exact ⟨p, cap, rfl, hcap⟩
/-- element i's two cells, in a later world -/
theorem bts_at {w w' : World} {b o cap : Nat} {l : List Bt} {n : Nat} (h : Hid (Bts w (.slice (some ⟨b, o, none⟩) n cap) l)) (hb : Below w.heap.size w w') (i : Nat) (hi : i < l.length) :
    w'.cell? ⟨b, o + i * 2, none⟩ = some (.int .i64 l[i].seq) ∧ w'.cell? ⟨b, o + i * 2 + 1, none⟩ = some (.int .i64 l[i].at_) :=
  ⟨Sl.elem bt_two (h.out.keep (by decide) hb) i 0 hi (by decide) _ rfl, Sl.elem bt_two (h.out.keep (by decide) hb) i 1 hi (by decide) _ rfl⟩

set_option maxRecDepth 100000 in
set_option maxHeartbeats 2000000 in
theorem walk (v : Value) (l : List Bt) (v' : Value) (more : List Bt) (w : World) (hw : Bts w v l) (hw' : Bts w v' more) :
    Calls Try.prog 4 #[v, v'] w fun e w' => e = .returned (.bool true) ∧ Below w.heap.size w w' := by
  have S0 := Lib.hid hw
  have M0 := Lib.hid hw'
  obtain ⟨hm, _, p, cap, rfl, hcap, _⟩ := hw
  obtain ⟨hm', _, p', cap', rfl, hcap', _⟩ := hw'
  by_cases hout : 200 < more.length ∨ btRight l = false
  · rcases (show 200 < more.length ∨ (¬ 200 < more.length ∧ btRight l = false) from by by_cases h : 200 < more.length; exact .inl h; exact .inr ⟨h, by rcases hout with h2 | h2; exact absurd h2 h; exact h2⟩) with h1 | ⟨h1, hr⟩
    · have d1 : decide ((200 : Int) < (more.length : Int)) = true := by simp; omega
      go_enter Try.func4, Try.ntmps4
      go_big_wp2_with fail
      refine (small_at _).mono ?_; rintro e w1 ⟨rfl, B1⟩
      go_big_wp2_with fail
      go_ret
      exact ⟨rfl, B1.out⟩
    · have d1 : decide ((200 : Int) < (more.length : Int)) = false := by simp; omega
      have HR := Lib.hid hr
      clear hr hout
      go_enter Try.func4, Try.ntmps4
      go_big_wp2_with fail
      refine (small_at _).mono ?_; rintro e w1 ⟨rfl, B1⟩
      go_big_wp2_with fail
      refine (right_at _ _ _ _ (bts_keep S0 B1).out HR.out).mono ?_; rintro e w2 ⟨rfl, B2⟩
      go_big_wp2_with fail
      go_ret
      exact ⟨rfl, chain B1.out B2.out⟩
  · have HR := Lib.hid (show btRight l = true by cases h : btRight l <;> simp_all)
    have d1 : decide ((200 : Int) < (more.length : Int)) = false := by simp; omega
    have h200 : more.length ≤ 200 := by omega
    clear hout
    obtain ⟨N, hN⟩ : ∃ N, N = more.length := ⟨_, rfl⟩
    rw [← hN] at M0 d1 h200 ⊢
    have HN := Lib.hid hN
    clear hN hm' hcap'
    go_enter Try.func4, Try.ntmps4
    go_big_wp2_with fail
    refine (small_at _).mono ?_; rintro e w1 ⟨rfl, B1⟩
    go_big_wp2_with fail
    refine (right_at _ _ _ _ (bts_keep S0 B1).out HR.out).mono ?_; rintro e w2 ⟨rfl, B2⟩
    have B02 := Lib.hid (chain B1.out B2.out)
    go_big_wp2_with fail
    go_loopw [0, 6] (fun lv i wr => ∃ (k : Nat) (L : List Bt), k ≤ N ∧ i = .int .i64 k ∧ Bts wr lv L ∧ btRight L = true ∧ Below w.heap.size w wr) (fun _ i _ => N - (intOf i).toNat)
    case atStart => exact ⟨0, l, by omega, rfl, (bts_keep S0 B02).out, HR.out, B02.out⟩
    case round =>
      obtain ⟨k, L, hk, rfl, hs, hLr, hwb⟩ := hrel
      have HW := Lib.hid hwb
      have HS := Lib.hid hs
      have HL := Lib.hid hLr
      have hp := right_pos hLr
      have HP := Lib.hid hp
      obtain ⟨p1, cap1, rfl, hcap1⟩ := bts_shape hs
      clear hs hwb hLr
      by_cases hlt : k < N
      · have hkm : k < more.length := by rw [← HN.out]; exact hlt
        obtain ⟨pb, po, rfl, _⟩ := M0.out.open (by omega)
        obtain ⟨lb, lo, rfl, _⟩ := HS.out.open hp.1
        obtain ⟨x, hx⟩ : ∃ x, x = more[k] := ⟨_, rfl⟩
        obtain ⟨y, hy⟩ : ∃ y, y = btLast L := ⟨_, rfl⟩
        have HX := Lib.hid hx
        have HY := Lib.hid hy
        have hy2 : y = L[L.length - 1] := by rw [hy]; exact last_get L hp.1
        obtain ⟨c0, c1⟩ := bts_at HS (Below.refl _ _) (L.length - 1) (by omega)
        rw [← hy2] at c0 c1
        have t1 : (1 : Int) ≤ (L.length : Int) := by omega
        have t2 : (k : Int) < (N : Int) := by omega
        have t3 : (0 : Int) ≤ (k : Int) := by omega
        have hsz : 0 < L.length := hp.1
        have h8 : L.length ≤ 8 := hp.2
        clear hx hy hy2 hp
        go_upto_region 8 with fail
        obtain ⟨wa, hwa⟩ : ∃ wa, wa = wr.alloc (.cells #[.int .i64 y.seq, .int .i64 y.at_] 30) := ⟨_, rfl⟩
        rw [← hwa]
        have BA := Lib.hid (show Below wr.heap.size wr wa by rw [hwa]; exact (Below.refl _ _).alloc (Nat.le_refl _) _)
        have QA := Lib.hid (show wa.heap[wr.heap.size]? = some (.cells #[.int .i64 y.seq, .int .i64 y.at_] 30) by rw [hwa]; exact heap_new _ _ _ rfl)
        clear hwa c0 c1
        obtain ⟨c2, c3⟩ := bts_at M0 (chain HW.out BA.out) k hkm
        rw [← HX.out] at c2 c3
        obtain ⟨L', ok, hbe⟩ : ∃ L' ok, btBeat L x.seq x.at_ = (L', ok) := ⟨_, _, rfl⟩
        have EB := Lib.hid hbe
        have HR' := Lib.hid (show btRight L' = true by have := beat_right x.seq x.at_ HL.out; rw [hbe] at this; exact this)
        have hlast := beat_last (s := x.seq) (n := x.at_) HP.out.1 HP.out.2
        rw [hbe, ← HY.out] at hlast
        have HLast := Lib.hid hlast
        clear hbe hlast
        have BW := Lib.hid (show Below w.heap.size w wa.drew from (chain HW.out BA.out).drew)
        go_region_held3 (fun w' => w'.cell? ⟨pb, po + k * 2, none⟩ = some (.int .i64 x.seq) ∧ w'.cell? ⟨pb, po + k * 2 + 1, none⟩ = some (.int .i64 x.at_)) (go_keep)
          ((first
            | (go_at_call 15; refine (beat_at _ _ _ _ _ _ wa.drew (bts_keep HS (Lib.hid BA.out.drew)).out HP.out.1 (by have := HP.out.2; omega) EB.out).mono ?_; rintro e w3 ⟨p3, cap3, rfl, F3, B3⟩; have c4 := (bts_at M0 (chain BW.out B3.out) k hkm).1; have c5 := (bts_at M0 (chain BW.out B3.out) k hkm).2; rw [← HX.out] at c4 c5)))
        have S3 : Hid (Bts w3 _ _) := Lib.hid F3.out.1
        have HP3 := Lib.hid (right_pos HR'.out)
        obtain ⟨zb, zo, rfl, _⟩ := S3.out.open HP3.out.1
        have t4 : (1 : Int) ≤ (L'.length : Int) := by have := HP3.out.1; omega
        have h8' : L'.length ≤ 8 := HP3.out.2
        have B3' := Lib.hid (chain BW.out B3.out)
        clear c2 c3 c4 c5
        go_big_wp2_with fail
        refine (right_at _ _ _ _ S3.out HR'.out).mono ?_; rintro e w4 ⟨rfl, B4⟩
        obtain ⟨z, hz⟩ : ∃ z, z = btLast L' := ⟨_, rfl⟩
        have hz2 : z = L'[L'.length - 1] := by rw [hz]; exact last_get L' HP3.out.1
        obtain ⟨c0, c1⟩ := bts_at S3 B4.out (L'.length - 1) (by have := HP3.out.1; omega)
        rw [← hz2] at c0 c1
        have HZ := Lib.hid hz
        clear hz hz2
        obtain ⟨D, hD⟩ : ∃ D, btDeadline L' = D := ⟨_, rfl⟩
        have HD := Lib.hid hD
        clear hD
        have hsz3 : 0 < L'.length := HP3.out.1
        go_big_wp2_with fail
        obtain ⟨wb, hwb⟩ : ∃ wb, wb = w4.alloc (.cells #[.int .i64 z.seq, .int .i64 z.at_] 30) := ⟨_, rfl⟩
        rw [← hwb]
        have BB := Lib.hid (show Below w4.heap.size w4 wb by rw [hwb]; exact (Below.refl _ _).alloc (Nat.le_refl _) _)
        have QB := Lib.hid (show wb.heap[w4.heap.size]? = some (.cells #[.int .i64 z.seq, .int .i64 z.at_] 30) by rw [hwb]; exact heap_new _ _ _ rfl)
        have QA2 := Lib.hid (show wb.heap[wr.heap.size]? = some (.cells #[.int .i64 y.seq, .int .i64 y.at_] 30) from keepb (keepb (keepb (show wa.drew.heap[wr.heap.size]? = _ from QA.out) B3.out) B4.out) BB.out)
        clear hwb c0 c1
        have S5 := bts_keep (bts_keep S3 B4) BB
        refine (dl_at _ _ _ _ S5.out HR'.out HD.out).mono ?_; rintro e w6 ⟨rfl, B6⟩
        have Q6 := Lib.hid (keepb QB.out B6.out)
        have Q7 := Lib.hid (keepb QA2.out B6.out)
        have B06 := Lib.hid (chain B3'.out (chain B4.out (chain BB.out B6.out)))
        go_upto_region 13 with fail
        have c0 := fun d os => cell_of_block (keepb Q6.out (below_regrown w6 d os))
        have c1 := fun d os => cell_of_block (keepb Q7.out (below_regrown w6 d os))
        have c2 := fun d os => (bts_at M0 (chain B06.out (below_regrown w6 d os)) k hkm).1
        have c3 := fun d os => (bts_at M0 (chain B06.out (below_regrown w6 d os)) k hkm).2
        rw [← HX.out] at c2 c3
        have hl := right_last HR'.out
        rw [← HZ.out] at hl
        obtain ⟨l0, l1, l2, l3⟩ := hl
        have hd1 := deadline_bd HR'.out
        have hd2 := deadline_le HR'.out
        rw [HD.out, ← HZ.out] at hd1 hd2
        obtain ⟨hd3, hd4, hd5⟩ := hd2
        have e1 := dec_f (show ¬ 1099511627776 < D by omega)
        have e2 := dec_f (show ¬ z.at_ + 40 < D by omega)
        have hw1 : IntKind.i64.wrap (z.at_ + 1) = z.at_ + 1 := IntWalk.i64_in _ (by omega)
        have hw2 : IntKind.i64.wrap (z.at_ + 40) = z.at_ + 40 := IntWalk.i64_in _ (by omega)
        have HO := Lib.hid (show z = (if ok = true then x else y) by rw [HZ.out, HLast.out])
        have e5 : (1099511627776 < z.at_ + 1 ∧ decide (D < 1099511627776) = false) ∨ (¬ 1099511627776 < z.at_ + 1 ∧ decide (D < z.at_ + 1) = false) := by
          by_cases hm : 1099511627776 < z.at_ + 1
          · exact .inl ⟨hm, by simp; omega⟩
          · exact .inr ⟨hm, by simp; omega⟩
        cases ok
        all_goals simp only [Bool.false_eq_true, if_true, if_false] at HO
        · have hzy := HO.out
          have hne := fun w => neq_bt z y w
          simp only [hzy, decide_true, Bool.not_true] at hne
          subst hzy
          rcases e5 with ⟨e3, e4⟩ | ⟨e3, e4⟩
          all_goals
            refine wp_region_quiet_below (by kernel_rfl) (by kernel_rfl) ?_
            repeat (first | go_big_quiet_skip | (go_big_quiet_want; go_big_quiet_op; first | go_big_quiet_on | (apply Exists.intro; refine ⟨fun _ => ?_, ?_⟩; (focus ((first | fail))); go_big_quiet_on)))
            refine wpQuiet_nil ?_
            intro _ hw'
            obtain ⟨⟨dq, osq⟩, hw''⟩ := hw'
            subst hw''
            have HBq := Lib.hid (chain B06.out (below_regrown w6 dq osq))
            have HSq := Lib.hid ((bts_keep S5 B6).out.regrown (by decide) dq osq)
            clear c0 c1 c2 c3 hw1 hw2 hne
            go_big_wp2_with fail
            go_roundw
            case rel => exact ⟨k + 1, L', by omega, by go_num, HSq.out, HR'.out, HBq.out⟩
            case measure => simp [intOf]; omega
        · have hzy := HO.out
          have hne := fun w => neq_bt z x w
          simp only [hzy, decide_true, Bool.not_true] at hne
          subst hzy
          rcases e5 with ⟨e3, e4⟩ | ⟨e3, e4⟩
          all_goals
            refine wp_region_quiet_below (by kernel_rfl) (by kernel_rfl) ?_
            repeat (first | go_big_quiet_skip | (go_big_quiet_want; go_big_quiet_op; first | go_big_quiet_on | (apply Exists.intro; refine ⟨fun _ => ?_, ?_⟩; (focus ((first | fail))); go_big_quiet_on)))
            refine wpQuiet_nil ?_
            intro _ hw'
            obtain ⟨⟨dq, osq⟩, hw''⟩ := hw'
            subst hw''
            have HBq := Lib.hid (chain B06.out (below_regrown w6 dq osq))
            have HSq := Lib.hid ((bts_keep S5 B6).out.regrown (by decide) dq osq)
            clear c0 c1 c2 c3 hw1 hw2 hne
            go_big_wp2_with fail
            go_roundw
            case rel => exact ⟨k + 1, L', by omega, by go_num, HSq.out, HR'.out, HBq.out⟩
            case measure => simp [intOf]; omega
      · have hke : k = N := by omega
        have t1 : decide ((k : Int) < (N : Int)) = false := by simp; omega
        clear hlt
        go_big_wp2_with fail
        go_ret
        exact ⟨rfl, HW.out⟩

end Go.Proofs.Ytdflajgglgbphaa.lawDetectBounds
namespace Go.Proofs.Ytdflajgglgbphaa.lawDetectBounds
open Go.ChangeShapes Go.WideShapes Go.RowKit
set_option linter.unusedVariables false
theorem own : ownKnob Try.prog.godebug = none := by kernel_rfl
theorem laidOut : laidOutB Try.prog = true := by kernel_rfl
set_option maxRecDepth 100000 in
theorem lifted (os : Os) (started : os.Started) (H : Type) (enc : TypeId × Value → H) :
    ReturnsInHanded {} Try.checked os 4 .any (Rows.detectBoundsSpec.pre6 enc Try.prog Try.f4 Rows.detectBoundsRow.domain false) (Rows.detectBoundsSpec.post enc Try.prog Try.f4 false true false false) := by
  refine returnsInHanded_of_change (C := Try.checked) own started (by kernel_rfl) Try.func4
    (ChangeSpec.witness6 (enc := enc) (C := Try.checked) false ⟨#[], #[.slice none 0 0, .slice none 0 0], []⟩ 8 (by kernel_rfl) (by kernel_rfl) (by kernel_rfl) (by kernel_rfl)) ?_
  intro W base args ds gs before hval0 hW hcnd _
  have hval : ∀ (j : Nat) t v, Try.f4.params[j]? = some t → args[j]? = some v → Value.okWide Try.prog W .any base t v := hval0
  have hW' := hW
  obtain ⟨p, q, hA0, hV, rfl, hfz, hnd⟩ := hW
  have hA : DataW.TrodAll enc Try.prog W 0 (fun _ => true) true Try.f4.params.toList args.toList ds p := hA0
  rw [Try.params4] at hA hval
  obtain ⟨v0, vs0, d0, ds0, p0, q0, hargs, rfl, rfl, h0, r0⟩ := trodAll_cons hA
  obtain ⟨v1, vs1, d1, ds1, p1, q1, rfl, rfl, rfl, h1, r1⟩ := trodAll_cons r0
  obtain ⟨rfl, rfl, rfl⟩ := trodAll_nil r1
  obtain rfl : args = #[v0, v1] := by cases args; simp_all
  obtain ⟨rfl, rfl⟩ := trodVars_none hV
  obtain ⟨a0, len0, cap0, rfl⟩ := okWide_slice Try.underlying22 (hval 0 22 v0 rfl rfl)
  have k0 := h0
  have lt0 : ∀ x ∈ p0, x.block < W.heap.size := by obtain ⟨m, hm⟩ := k0; exact DataW.trod_lt m _ _ _ hm
  obtain ⟨z0, _, w0, y0⟩ : ∃ l : List Nj.Bt, l.length = len0 ∧ Nj.Bts W (.slice a0 len0 cap0) l ∧ ∀ b ∈ l, (Lit.int .i64 b.seq).wf = true ∧ (Lit.int .i64 b.at_).wf = true := by
    obtain ⟨fuel, hf⟩ := h0
    exact K.open_bts hf
  obtain ⟨a1, len1, cap1, rfl⟩ := okWide_slice Try.underlying22 (hval 1 22 v1 rfl rfl)
  have k1 := h1
  have lt1 : ∀ x ∈ p1, x.block < W.heap.size := by obtain ⟨m, hm⟩ := k1; exact DataW.trod_lt m _ _ _ hm
  obtain ⟨z1, _, w1, y1⟩ : ∃ l : List Nj.Bt, l.length = len1 ∧ Nj.Bts W (.slice a1 len1 cap1) l ∧ ∀ b ∈ l, (Lit.int .i64 b.seq).wf = true ∧ (Lit.int .i64 b.at_).wf = true := by
    obtain ⟨fuel, hf⟩ := h1
    exact K.open_bts hf
  clear hA0 hval0
  refine (walk _ z0 _ z1 W w0 w1).mono fun e W' ⟨he, bel⟩ => ?_
  subst he
  exact ⟨_, rfl, _, _, _, [], _, [], hW', trodAll_mk1 (shut_bool Try.underlying4 _), (trodAll_cons_mk (Below.trod laidOut (by kernel_rfl) (of_decide_eq_true (by kernel_rfl)) k0 bel lt0) (trodAll_cons_mk (Below.trod laidOut (by kernel_rfl) (of_decide_eq_true (by kernel_rfl)) k1 bel lt1) trodAll_mk0)), rfl, bel.frame _, fun h => by cases h⟩
theorem over : Rows.detectBoundsRow.holds Try.pinned (OpenSpec.ofChange Rows.detectBoundsSpec) :=
  OpenClaim.holds_of_wide 4 Try.f4 rfl rfl rfl rfl rfl rfl rfl ⟨rfl, rfl, rfl, rfl, rfl⟩ rfl rfl rfl rfl rfl (by kernel_rfl) Try.func4 (by kernel_rfl)
    (of_decide_eq_true (by kernel_rfl)) (by unfold Func.isWrapper; first | (rw [if_pos (by decide +kernel)]; kernel_rfl) | (rw [if_neg (by decide +kernel)]; exact ⟨rfl, rfl⟩))
    (fun os started H enc _ => lifted os started H enc)
/-- THE STATEMENT -/
theorem proved : Rows.DetectBoundsSaid := over
end Go.Proofs.Ytdflajgglgbphaa.lawDetectBounds
#print axioms Go.Proofs.Ytdflajgglgbphaa.lawDetectBounds.proved

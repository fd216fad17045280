/-
  CONTRACTS of the functions of package rtt. They write nothing that was there.
-/
import Derived.Test.YteilgibfmljoeaaProg
import Derived.Test.YteilgibfmljoeaaRttFns
import Derived.Test.YteilgibfmljoeaaFloat
import Derived.Test.YteilgibfmljoeaaMem
set_option linter.unusedVariables false
set_option linter.unusedSimpArgs false
namespace Nj
open Go Go.RowKit
/-- an Rtt as the program holds it -/
def Rt.val (e : Rt) : Value := .agg #[.int .i64 e.s, .int .i64 e.v, .int .i64 e.rto, .int .i64 e.fails, .bool e.has]
end Nj
namespace Go.Proofs.Yteilgibfmljoeaa.K
open Go Go.RowKit Nj

theorem within_any (n lo hi : Int) (w : World) :
    Calls Try.prog 49 #[.int .i64 n, .int .i64 lo, .int .i64 hi] w fun e w' => e = .returned (.bool (within n lo hi)) ∧ w = w' := by
  go_enter Try.func49, Try.ntmps49
  go_wp2
  all_goals go_ret
  · exact ⟨ret_bool (by unfold within; simp [*]), rfl⟩
  · exact ⟨ret_bool (by unfold within; simp; omega), rfl⟩

theorem rttRight_any (s v rto fails : Int) (has : Bool) (w : World) :
    Calls Try.prog 25 #[.agg #[.int .i64 s, .int .i64 v, .int .i64 rto, .int .i64 fails, .bool has]] w fun e w' => e = .returned (.bool (rttRight ⟨s, v, rto, fails, has⟩)) ∧ Below w.heap.size w w' := by
  go_enter Try.func25, Try.ntmps25
  go_wp2_with (go_at_call 49; refine (within_any _ _ _ _).mono ?_; rintro e w' ⟨rfl, rfl⟩)
  all_goals go_ret
  all_goals exact ⟨ret_bool (by simp_all [rttRight, rttKnown]), (Below.refl _ _).alloc (Nat.le_refl _) _⟩

theorem rttStart_any (w : World) :
    Calls Try.prog 36 #[] w fun e w' => e = .returned rttStart.val ∧ Below w.heap.size w w' := by
  go_enter Try.func36, Try.ntmps36
  go_wp2
  exact bodyPost_ret (v := rttStart.val) (by simp [results, Try.results36, go_sem, Rt.val, rttStart]) rfl ⟨rfl, (Below.refl _ _).alloc (Nat.le_refl _) _⟩

theorem move_any (s v n : Int) (w : World) (s0 : 0 ≤ s) (s1 : s ≤ 32768) (v0 : 0 ≤ v) (v1 : v ≤ 16384) (n0 : 0 ≤ n) (n1 : n ≤ 4096) :
    Calls Try.prog 55 #[.complex .f64 (enc s) (enc v), .int .i64 n] w fun e w' => e = .returned (.complex .f64 (enc (s + (n - s / 8))) (enc (v + (max (n - s / 8) (-(n - s / 8)) - v / 4)))) ∧ w = w' := by
  have c1 : ∀ w, (convert 77 3 (.float .f64 (enc s))).run Try.prog w = .ok (.int .i64 s) w := fun w => run_convert_float_int w _ _ _ _ _ _ (by rw [Try.underlying77]; rfl) Try.underlying3 (int_enc s (by omega))
  have c2 : ∀ w, (convert 77 3 (.float .f64 (enc v))).run Try.prog w = .ok (.int .i64 v) w := fun w => run_convert_float_int w _ _ _ _ _ _ (by rw [Try.underlying77]; rfl) Try.underlying3 (int_enc v (by omega))
  by_cases hd : 0 ≤ n - s / 8
  · have h1 : max (n - s / 8) (-(n - s / 8)) = n - s / 8 := by omega
    rw [h1]
    have c3 : ∀ w, (binOp .add 76 (.complex .f64 (enc s) (enc v)) (.complex .f64 (enc (n - s / 8)) (enc (n - s / 8 - v / 4)))).run Try.prog w = .ok (.complex .f64 (enc (s + (n - s / 8))) (enc (v + (n - s / 8 - v / 4)))) w := fun w =>
      run_complex_sum w .add (.inl rfl) _ _ _ _ _ _ _ _ (by unfold cSumBits; rw [add_enc s _ (by omega) (by omega) (by omega), add_enc v _ (by omega) (by omega) (by omega)]; rfl)
    go_enter Try.func55, Try.ntmps55
    go_wp2
    go_ret
    exact ⟨rfl, rfl⟩
  · have h1 : max (n - s / 8) (-(n - s / 8)) = -(n - s / 8) := by omega
    rw [h1]
    have c3 : ∀ w, (binOp .add 76 (.complex .f64 (enc s) (enc v)) (.complex .f64 (enc (n - s / 8)) (enc (-(n - s / 8) - v / 4)))).run Try.prog w = .ok (.complex .f64 (enc (s + (n - s / 8))) (enc (v + (-(n - s / 8) - v / 4)))) w := fun w =>
      run_complex_sum w .add (.inl rfl) _ _ _ _ _ _ _ _ (by unfold cSumBits; rw [add_enc s _ (by omega) (by omega) (by omega), add_enc v _ (by omega) (by omega) (by omega)]; rfl)
    go_enter Try.func55, Try.ntmps55
    go_wp2
    go_ret
    exact ⟨rfl, rfl⟩

/-- the end of Sample, in numbers -/
theorem out_eq {e : Rt} {r n S V m1 m2 m3 : Int} (hc : rttCut r = n) (hS : rttS (rttNorm e) n = S) (hV : rttV (rttNorm e) n = V) (h3 : (if V < 1 then 1 else V) = m1) (h4 : (if S / 8 + m1 < 2 then 2 else S / 8 + m1) = m2) (h5 : (if 64 < m2 then 64 else m2) = m3) :
    (rttSample e r).val = .agg #[.int .i64 S, .int .i64 V, .int .i64 m3, .int .i64 0, .bool true] := by
  have e1 : max V 1 = m1 := by omega
  have e2 : max (S / 8 + m1) 2 = m2 := by omega
  have e3 : min m2 64 = m3 := by omega
  unfold rttSample rttOut Rt.val
  rw [hc, hS, hV]
  simp only [e1, e2, e3]

theorem below_sample {w w1 : World} {o1 o2 : Obj} {b : Nat} {x1 x2 x3 x4 x5 : Value} (hB : Below ((w.alloc o1).alloc o2).heap.size ((w.alloc o1).alloc o2) w1) (hb : w.heap.size ≤ b) (o : Obj) :
    Below w.heap.size w ((((((w1.setCell ⟨b, 0, none⟩ x1).setCell ⟨b, 1, none⟩ x2).setCell ⟨b, 2, none⟩ x3).setCell ⟨b, 3, none⟩ x4).setCell ⟨b, 4, none⟩ x5).alloc o) := by
  have h0 : Below w.heap.size w w1 := (((Below.refl _ _).alloc (Nat.le_refl _) o1).alloc (by simp) o2).trans (hB.mono (by simp; omega))
  refine Below.alloc (((((h0.setCell hb _).setCell hb _).setCell hb _).setCell hb _).setCell hb _) ?_ o
  have := h0.size
  simpa using this
theorem below_sample' {w w1 : World} {o1 o2 : Obj} {b b' : Nat} {x1 x2 x3 x4 x5 y1 y2 y3 y4 y5 : Value} (hB : Below ((w.alloc o1).alloc o2).heap.size ((w.alloc o1).alloc o2) w1) (hb : w.heap.size ≤ b) (hb' : w.heap.size ≤ b') (o : Obj) :
    Below w.heap.size w (((((((((((w1.setCell ⟨b', 0, none⟩ y1).setCell ⟨b', 1, none⟩ y2).setCell ⟨b', 2, none⟩ y3).setCell ⟨b', 3, none⟩ y4).setCell ⟨b', 4, none⟩ y5).setCell ⟨b, 0, none⟩ x1).setCell ⟨b, 1, none⟩ x2).setCell ⟨b, 2, none⟩ x3).setCell ⟨b, 3, none⟩ x4).setCell ⟨b, 4, none⟩ x5).alloc o) := by
  have h0 : Below w.heap.size w w1 := (((Below.refl _ _).alloc (Nat.le_refl _) o1).alloc (by simp) o2).trans (hB.mono (by simp; omega))
  refine Below.alloc ((((((((((h0.setCell hb' _).setCell hb' _).setCell hb' _).setCell hb' _).setCell hb' _).setCell hb _).setCell hb _).setCell hb _).setCell hb _).setCell hb _) ?_ o
  have := h0.size
  simpa using this

set_option maxHeartbeats 1000000 in
theorem rttSample_any (s v rto fails : Int) (has : Bool) (r : Int) (w : World) :
    Calls Try.prog 27 #[.agg #[.int .i64 s, .int .i64 v, .int .i64 rto, .int .i64 fails, .bool has], .int .i64 r] w fun e w' => e = .returned (rttSample ⟨s, v, rto, fails, has⟩ r).val ∧ Below w.heap.size w w' := by
  obtain ⟨m, hm⟩ : ∃ m, m = max r 0 := ⟨_, rfl⟩
  obtain ⟨n, hn⟩ : ∃ n, n = min m 4096 := ⟨_, rfl⟩
  have h1 : (if r < 0 then (0 : Int) else r) = m := by omega
  have h2 : (if 4096 < m then (4096 : Int) else m) = n := by omega
  have hc : rttCut r = n := by unfold rttCut; omega
  have n0 : 0 ≤ n := by omega
  have n1 : n ≤ 4096 := by omega
  have HC := Lib.hid hc
  clear hm hn hc
  obtain ⟨S, hS⟩ : ∃ S, S = rttS (rttNorm ⟨s, v, rto, fails, has⟩) n := ⟨_, rfl⟩
  obtain ⟨V, hV⟩ : ∃ V, V = rttV (rttNorm ⟨s, v, rto, fails, has⟩) n := ⟨_, rfl⟩
  have hs := s_bd (norm_ok ⟨s, v, rto, fails, has⟩) n0 n1
  have hv := v_bd (norm_ok ⟨s, v, rto, fails, has⟩) n0 n1
  rw [← hS] at hs
  rw [← hV] at hv
  obtain ⟨S0, S1⟩ := hs
  obtain ⟨V0, V1⟩ := hv
  obtain ⟨m1, h3⟩ : ∃ m1, (if V < 1 then (1 : Int) else V) = m1 := ⟨_, rfl⟩
  obtain ⟨m2, h4⟩ : ∃ m2, (if S / 8 + m1 < 2 then (2 : Int) else S / 8 + m1) = m2 := ⟨_, rfl⟩
  obtain ⟨m3, h5⟩ : ∃ m3, (if 64 < m2 then (64 : Int) else m2) = m3 := ⟨_, rfl⟩
  have HF := Lib.hid (out_eq (e := ⟨s, v, rto, fails, has⟩) (r := r) HC.out hS.symm hV.symm h3 h4 h5)
  have m0 : 1 ≤ m1 := by omega
  have m9 : m1 ≤ 16384 := by omega
  have k1 : ∀ w, (convert 77 3 (.float .f64 (enc S))).run Try.prog w = .ok (.int .i64 S) w := fun w => run_convert_float_int w _ _ _ _ _ _ (by rw [Try.underlying77]; rfl) Try.underlying3 (int_enc _ (by omega))
  have k2 : ∀ w, (convert 77 3 (.float .f64 (enc V))).run Try.prog w = .ok (.int .i64 V) w := fun w => run_convert_float_int w _ _ _ _ _ _ (by rw [Try.underlying77]; rfl) Try.underlying3 (int_enc _ (by omega))
  by_cases hr : rttRight ⟨s, v, rto, fails, has⟩ = true
  · have HN := Lib.hid (norm_of_right hr)
    have hok := (right_iff _).1 hr
    have q1 := hok.s0; have q2 := hok.s1; have q3 := hok.v0; have q4 := hok.v1
    simp only at q1 q2 q3 q4
    rw [HN.out] at hS hV
    cases has
    · have eS : 8 * n = S := by rw [hS]; rfl
      have eV : 2 * n = V := by rw [hV]; rfl
      clear hS hV
      go_enter Try.func27, Try.ntmps27
      go_wp2_with fail
      refine (rttRight_any _ _ _ _ _ _).mono ?_; rintro e w1 ⟨rfl, hb⟩
      have hz : w.heap.size + 1 < w1.heap.size := by have := hb.size; simp at this; omega
      have HB := Lib.hid hb
      rw [size2] at hb
      obtain ⟨hc, hf, hc', hf'⟩ := kept2 hb
      clear hb hok
      go_wp2_with fail
      exact bodyPost_ret (v := .agg #[.int .i64 S, .int .i64 V, .int .i64 m3, .int .i64 0, .bool true]) (by simp [results, Try.results27, go_sem, hc', hz]) rfl ⟨by rw [HF.out], below_sample HB.out (by omega) _⟩
    · have hmv := Lib.hid (fun w => move_any s v n w q1 q2 q3 q4 n0 n1)
      rw [show s + (n - s / 8) = S by rw [hS]; rfl, show v + (max (n - s / 8) (-(n - s / 8)) - v / 4) = V by rw [hV]; rfl] at hmv
      clear hS hV
      go_enter Try.func27, Try.ntmps27
      go_wp2_with fail
      refine (rttRight_any _ _ _ _ _ _).mono ?_; rintro e w1 ⟨rfl, hb⟩
      have hz : w.heap.size + 1 < w1.heap.size := by have := hb.size; simp at this; omega
      have HB := Lib.hid hb
      rw [size2] at hb
      obtain ⟨hc, hf, hc', hf'⟩ := kept2 hb
      clear hb hok
      go_wp2_with fail
      refine (hmv.out _).mono ?_; rintro e w' ⟨rfl, rfl⟩
      go_wp2_with fail
      exact bodyPost_ret (v := .agg #[.int .i64 S, .int .i64 V, .int .i64 m3, .int .i64 0, .bool true]) (by simp [results, Try.results27, go_sem, hc', hz]) rfl ⟨by rw [HF.out], below_sample HB.out (by omega) _⟩
  · have hr : rttRight ⟨s, v, rto, fails, has⟩ = false := by simpa using hr
    have HN := Lib.hid (show rttNorm ⟨s, v, rto, fails, has⟩ = rttStart by unfold rttNorm; rw [if_neg (by simp [hr])])
    rw [HN.out] at hS hV
    have eS : 8 * n = S := by rw [hS]; rfl
    have eV : 2 * n = V := by rw [hV]; rfl
    clear hS hV
    go_enter Try.func27, Try.ntmps27
    go_wp2_with fail
    refine (rttRight_any _ _ _ _ _ _).mono ?_; rintro e w1 ⟨rfl, hb⟩
    have hz : w.heap.size + 1 < w1.heap.size := by have := hb.size; simp at this; omega
    have HB := Lib.hid hb
    clear hb
    go_wp2_with fail
    refine (rttStart_any _).mono ?_; rintro e w2 ⟨rfl, hb⟩
    have HB2 := Lib.hid (HB.out.trans (hb.mono HB.out.size))
    have hz2 : w.heap.size + 1 < w2.heap.size := by have := hb.size; omega
    have hb2 := HB2.out
    rw [size2] at hb2
    obtain ⟨hc, hf, hc', hf'⟩ := kept2 hb2
    clear hb hb2 hz
    simp only [Rt.val, rttStart]
    go_wp2_with fail
    exact bodyPost_ret (v := .agg #[.int .i64 S, .int .i64 V, .int .i64 m3, .int .i64 0, .bool true]) (by simp [results, Try.results27, go_sem, hc', hz2]) rfl ⟨by rw [HF.out], below_sample' HB2.out (by omega) (by omega) _⟩

theorem back_eq {e : Rt} {m1 m2 : Int} (h1 : (if 64 < (rttNorm e).rto * 2 then 64 else (rttNorm e).rto * 2) = m1) (h2 : (if 100 < (rttNorm e).fails + 1 then 100 else (rttNorm e).fails + 1) = m2) :
    (rttBackoff e).val = .agg #[.int .i64 (rttNorm e).s, .int .i64 (rttNorm e).v, .int .i64 m1, .int .i64 m2, .bool (rttNorm e).has] := by
  have e1 : min ((rttNorm e).rto * 2) 64 = m1 := by omega
  have e2 : min ((rttNorm e).fails + 1) 100 = m2 := by omega
  unfold rttBackoff rttFail Rt.val
  simp only [e1, e2]

/-- a box of an Rtt, and a box for the result -/
def Boxes (w wx : World) (e : Rt) : Prop :=
  wx.heap[w.heap.size]? = some (.cells #[.int .i64 e.s, .int .i64 e.v, .int .i64 e.rto, .int .i64 e.fails, .bool e.has] 26) ∧ wx.heap[w.heap.size + 1]? = some (.cells #[.int .i64 0, .int .i64 0, .int .i64 0, .int .i64 0, .bool false] 26) ∧ w.heap.size + 1 < wx.heap.size ∧ Below w.heap.size w wx

set_option maxHeartbeats 1000000 in
theorem rttBackoff_any (s v rto fails : Int) (has : Bool) (w : World) :
    Calls Try.prog 31 #[.agg #[.int .i64 s, .int .i64 v, .int .i64 rto, .int .i64 fails, .bool has]] w fun e w' => e = .returned (rttBackoff ⟨s, v, rto, fails, has⟩).val ∧ Below w.heap.size w w' := by
  obtain ⟨e', he⟩ : ∃ e', rttNorm ⟨s, v, rto, fails, has⟩ = e' := ⟨_, rfl⟩
  have hok := norm_ok ⟨s, v, rto, fails, has⟩
  rw [he] at hok
  obtain ⟨m1, h1⟩ : ∃ m1, (if 64 < e'.rto * 2 then (64 : Int) else e'.rto * 2) = m1 := ⟨_, rfl⟩
  obtain ⟨m2, h2⟩ : ∃ m2, (if 100 < e'.fails + 1 then (100 : Int) else e'.fails + 1) = m2 := ⟨_, rfl⟩
  have hf : (rttBackoff ⟨s, v, rto, fails, has⟩).val = .agg #[.int .i64 e'.s, .int .i64 e'.v, .int .i64 m1, .int .i64 m2, .bool e'.has] := by
    have := back_eq (e := ⟨s, v, rto, fails, has⟩) (m1 := m1) (m2 := m2) (by rw [he]; first | exact h1 | done) (by rw [he]; first | exact h2 | done)
    rwa [he] at this
  have q1 := hok.r0; have q2 := hok.r1; have q3 := hok.f0; have q4 := hok.f1
  have HF := Lib.hid hf
  have HE := Lib.hid he
  clear hf hok he
  go_enter Try.func31, Try.ntmps31
  go_upto_if 5 with (go_at_call 25; refine (rttRight_any _ _ _ _ _ _).mono ?_; rintro e w1 ⟨rfl, hb⟩)
  have hb1 := Lib.hid (blocks2 hb)
  clear hb
  go_cut [] (fun wx => Boxes w wx e')
  case first =>
    by_cases hr : rttRight ⟨s, v, rto, fails, has⟩ = true
    · go_wp2_with fail
      all_goals first
        | (exfalso; simp_all; done)
        | (go_meet
           case rel => rw [← HE.out, norm_of_right hr]; exact hb1.out)
    · have hr : rttRight ⟨s, v, rto, fails, has⟩ = false := by simpa using hr
      have hN := Lib.hid (show e' = rttStart by rw [← HE.out]; unfold rttNorm; rw [if_neg (by simp [hr])])
      go_wp2_with fail
      rotate_left
      · exfalso; simp_all
      refine (rttStart_any _).mono ?_; rintro e w2 ⟨rfl, hb⟩
      have hq1 : w2.heap[w.heap.size]? = some (.cells #[.int .i64 s, .int .i64 v, .int .i64 rto, .int .i64 fails, .bool has] 26) := by rw [hb.block _ (by have := hb1.out.2.2.1; omega)]; exact hb1.out.1
      have hq2 : w2.heap[w.heap.size + 1]? = some (.cells #[.int .i64 0, .int .i64 0, .int .i64 0, .int .i64 0, .bool false] 26) := by rw [hb.block _ (by have := hb1.out.2.2.1; omega)]; exact hb1.out.2.1
      have hq3 : w.heap.size + 1 < w2.heap.size := by have := hb.size; have := hb1.out.2.2.1; omega
      have HB := Lib.hid (hb1.out.2.2.2.trans (hb.mono hb1.out.2.2.2.size))
      have hc := cell_of_block hq1
      have hf := frozen_of_block hq1
      have HQ1 := Lib.hid hq1
      have HQ2 := Lib.hid hq2
      clear hb hq1 hq2
      simp only [Rt.val, rttStart]
      go_wp2_with fail
      go_meet
      case rel =>
        rw [hN.out]
        refine ⟨?_, ?_, by simp; omega, (by have hbsz := Below.size (HB.out); (repeat (first | (with_reducible exact HB.out) | (with_reducible refine bel_set (by first | omega | (simp; done) | (simp; omega)) ?_) | (with_reducible refine bel_alloc (by first | omega | (simp; done) | (simp; omega)) ?_) | (with_reducible refine bel_drew ?_) | (with_reducible refine bel_drewN ?_ _))); first | done | fail "left")⟩
        · rw [heap_set_same (heap_set_same (heap_set_same (heap_set_same (heap_set_same HQ1.out 0 _) 1 _) 2 _) 3 _) 4 _]; rfl
        · rw [heap_set_other (by omega), heap_set_other (by omega), heap_set_other (by omega), heap_set_other (by omega), heap_set_other (by omega)]; exact HQ2.out
  case rest =>
    obtain ⟨hq1, hq2, hq3, hq4⟩ := hcut
    have hc := cell_of_block hq1
    have hf := frozen_of_block hq1
    have hc' := cell_of_block hq2
    have hf' := frozen_of_block hq2
    have HB := Lib.hid hq4
    clear hq1 hq2 hq4
    go_wp2_with fail
    exact bodyPost_ret (v := .agg #[.int .i64 e'.s, .int .i64 e'.v, .int .i64 m1, .int .i64 m2, .bool e'.has]) (by simp [results, Try.results31, go_sem, hc', hq3]) rfl ⟨by rw [HF.out], (by have hbsz := Below.size (HB.out); (repeat (first | (with_reducible exact HB.out) | (with_reducible refine bel_set (by first | omega | (simp; done) | (simp; omega)) ?_) | (with_reducible refine bel_alloc (by first | omega | (simp; done) | (simp; omega)) ?_) | (with_reducible refine bel_drew ?_) | (with_reducible refine bel_drewN ?_ _))); first | done | fail "left")⟩
end Go.Proofs.Yteilgibfmljoeaa.K

/-
  CONTRACTS of the functions of package nightjarref09: they return what those of rtt return.
-/
import Derived.Test.YteilgibfmljoeaaRtt
set_option linter.unusedVariables false
set_option linter.unusedSimpArgs false
namespace Go.Proofs.Yteilgibfmljoeaa.K
open Go Go.RowKit Nj

theorem rrttRight_any (s v rto fails : Int) (has : Bool) (w : World) :
    Calls Try.prog 39 #[.agg #[.int .i64 s, .int .i64 v, .int .i64 rto, .int .i64 fails, .bool has]] w fun e w' => e = .returned (.bool (rttRight ⟨s, v, rto, fails, has⟩)) ∧ Below w.heap.size w w' := by
  go_enter Try.func39, Try.ntmps39
  go_wp2
  all_goals go_ret
  all_goals refine ⟨ret_bool ?_, (Below.refl _ _).alloc (Nat.le_refl _) _⟩
  all_goals (rw [Bool.eq_iff_iff]; simp_all [rttRight, rttKnown, within])
  all_goals omega

theorem rrttStart_any (w : World) :
    Calls Try.prog 69 #[] w fun e w' => e = .returned rttStart.val ∧ Below w.heap.size w w' := by
  go_enter Try.func69, Try.ntmps69
  go_wp2
  exact bodyPost_ret (v := rttStart.val) (by simp [results, Try.results69, go_sem, Rt.val, rttStart]) rfl ⟨rfl, (Below.refl _ _).alloc (Nat.le_refl _) _⟩

set_option maxHeartbeats 1000000 in
theorem ror_any (s v rto fails : Int) (has : Bool) (w : World) :
    Calls Try.prog 68 #[.agg #[.int .i64 s, .int .i64 v, .int .i64 rto, .int .i64 fails, .bool has]] w fun e w' => e = .returned (rttNorm ⟨s, v, rto, fails, has⟩).val ∧ Below w.heap.size w w' := by
  by_cases hr : rttRight ⟨s, v, rto, fails, has⟩ = true
  · have HF := Lib.hid (norm_of_right hr)
    go_enter Try.func68, Try.ntmps68
    go_wp2_with fail
    refine (rrttRight_any _ _ _ _ _ _).mono ?_; rintro e w1 ⟨rfl, hb⟩
    obtain ⟨hq1, hq2, hq3, hq4⟩ := blocks2 hb
    have hc := cell_of_block hq1
    have hc' := cell_of_block hq2
    have hf' := frozen_of_block hq2
    have HB := Lib.hid hq4
    clear hb hq1 hq2 hq4
    go_wp2_with fail
    exact bodyPost_ret (v := .agg #[.int .i64 s, .int .i64 v, .int .i64 rto, .int .i64 fails, .bool has]) (by simp [results, Try.results68, go_sem, hc', hq3]) rfl ⟨by rw [HF.out]; rfl, (by have hbsz := Below.size (HB.out); (repeat (first | (with_reducible exact HB.out) | (with_reducible refine bel_set (by first | omega | (simp; done) | (simp; omega)) ?_) | (with_reducible refine bel_alloc (by first | omega | (simp; done) | (simp; omega)) ?_) | (with_reducible refine bel_drew ?_) | (with_reducible refine bel_drewN ?_ _))); first | done | fail "left")⟩
  · have hr : rttRight ⟨s, v, rto, fails, has⟩ = false := by simpa using hr
    have HF := Lib.hid (show rttNorm ⟨s, v, rto, fails, has⟩ = rttStart by unfold rttNorm; rw [if_neg (by simp [hr])])
    go_enter Try.func68, Try.ntmps68
    go_wp2_with fail
    refine (rrttRight_any _ _ _ _ _ _).mono ?_; rintro e w1 ⟨rfl, hb⟩
    have HQ := Lib.hid (blocks2 hb)
    clear hb
    go_wp2_with fail
    refine (rrttStart_any _).mono ?_; rintro e w2 ⟨rfl, hb⟩
    have hq2 : w2.heap[w.heap.size + 1]? = some (.cells #[.int .i64 0, .int .i64 0, .int .i64 0, .int .i64 0, .bool false] 26) := by rw [hb.block _ (by have := HQ.out.2.2.1; omega)]; exact HQ.out.2.1
    have hq3 : w.heap.size + 1 < w2.heap.size := by have := hb.size; have := HQ.out.2.2.1; omega
    have HB := Lib.hid (HQ.out.2.2.2.trans (hb.mono HQ.out.2.2.2.size))
    have hc' := cell_of_block hq2
    have hf' := frozen_of_block hq2
    clear hb hq2
    simp only [Rt.val, rttStart]
    go_wp2_with fail
    exact bodyPost_ret (v := .agg #[.int .i64 0, .int .i64 0, .int .i64 8, .int .i64 0, .bool false]) (by simp [results, Try.results68, go_sem, hc', hq3]) rfl ⟨by rw [HF.out]; rfl, (by have hbsz := Below.size (HB.out); (repeat (first | (with_reducible exact HB.out) | (with_reducible refine bel_set (by first | omega | (simp; done) | (simp; omega)) ?_) | (with_reducible refine bel_alloc (by first | omega | (simp; done) | (simp; omega)) ?_) | (with_reducible refine bel_drew ?_) | (with_reducible refine bel_drewN ?_ _))); first | done | fail "left")⟩

set_option maxHeartbeats 1000000 in
theorem rrttBackoff_any (s v rto fails : Int) (has : Bool) (w : World) :
    Calls Try.prog 65 #[.agg #[.int .i64 s, .int .i64 v, .int .i64 rto, .int .i64 fails, .bool has]] w fun e w' => e = .returned (rttBackoff ⟨s, v, rto, fails, has⟩).val ∧ Below w.heap.size w w' := by
  have hor := ror_any s v rto fails has
  obtain ⟨e', he⟩ : ∃ e', rttNorm ⟨s, v, rto, fails, has⟩ = e' := ⟨_, rfl⟩
  have hok := norm_ok ⟨s, v, rto, fails, has⟩
  rw [he] at hok hor
  obtain ⟨m1, h1⟩ : ∃ m1, (if 64 < e'.rto * 2 then (64 : Int) else e'.rto * 2) = m1 := ⟨_, rfl⟩
  obtain ⟨m2, h2⟩ : ∃ m2, (if 100 < e'.fails + 1 then (100 : Int) else e'.fails + 1) = m2 := ⟨_, rfl⟩
  have hf : (rttBackoff ⟨s, v, rto, fails, has⟩).val = .agg #[.int .i64 e'.s, .int .i64 e'.v, .int .i64 m1, .int .i64 m2, .bool e'.has] := by
    have := back_eq (e := ⟨s, v, rto, fails, has⟩) (m1 := m1) (m2 := m2) (by rw [he]; first | exact h1 | done) (by rw [he]; first | exact h2 | done)
    rwa [he] at this
  have q1 := hok.r0; have q2 := hok.r1; have q3 := hok.f0; have q4 := hok.f1
  have h1' : (if 64 < 2 * e'.rto then (64 : Int) else 2 * e'.rto) = m1 := by rw [Int.mul_comm 2]; exact h1
  have HF := Lib.hid hf
  have HO := Lib.hid hor
  clear hf hok he hor h1
  go_enter Try.func65, Try.ntmps65
  go_wp2_with fail
  refine (HO.out _).mono ?_; rintro e w1 ⟨rfl, hb⟩
  obtain ⟨hq1, hq2, hq3, hq4⟩ := blocks2 hb
  have hc' := cell_of_block hq2
  have hf' := frozen_of_block hq2
  have HB := Lib.hid hq4
  clear hb hq1 hq2 hq4
  simp only [Rt.val]
  go_wp2_with fail
  exact bodyPost_ret (v := .agg #[.int .i64 e'.s, .int .i64 e'.v, .int .i64 m1, .int .i64 m2, .bool e'.has]) (by simp [results, Try.results65, go_sem, hc', hq3]) rfl ⟨by rw [HF.out], (by have hbsz := Below.size (HB.out); (repeat (first | (with_reducible exact HB.out) | (with_reducible refine bel_set (by first | omega | (simp; done) | (simp; omega)) ?_) | (with_reducible refine bel_alloc (by first | omega | (simp; done) | (simp; omega)) ?_) | (with_reducible refine bel_drew ?_) | (with_reducible refine bel_drewN ?_ _))); first | done | fail "left")⟩

set_option maxHeartbeats 1000000 in
theorem rrttSample_any (s v rto fails : Int) (has : Bool) (r : Int) (w : World) :
    Calls Try.prog 61 #[.agg #[.int .i64 s, .int .i64 v, .int .i64 rto, .int .i64 fails, .bool has], .int .i64 r] w fun e w' => e = .returned (rttSample ⟨s, v, rto, fails, has⟩ r).val ∧ Below w.heap.size w w' := by
  obtain ⟨m, hm⟩ : ∃ m, m = min r 4096 := ⟨_, rfl⟩
  obtain ⟨n, hn⟩ : ∃ n, n = max m 0 := ⟨_, rfl⟩
  have h1 : (if 4096 < r then (4096 : Int) else r) = m := by omega
  have h2 : (if 0 < m then m else (0 : Int)) = n := by omega
  have hc : rttCut r = n := by unfold rttCut; omega
  have n0 : 0 ≤ n := by omega
  have n1 : n ≤ 4096 := by omega
  have HC := Lib.hid hc
  clear hm hn hc
  have hor := ror_any s v rto fails has
  obtain ⟨S, hS⟩ : ∃ S, rttS (rttNorm ⟨s, v, rto, fails, has⟩) n = S := ⟨_, rfl⟩
  obtain ⟨V, hV⟩ : ∃ V, rttV (rttNorm ⟨s, v, rto, fails, has⟩) n = V := ⟨_, rfl⟩
  have hs := s_bd (norm_ok ⟨s, v, rto, fails, has⟩) n0 n1
  have hv := v_bd (norm_ok ⟨s, v, rto, fails, has⟩) n0 n1
  rw [hS] at hs
  rw [hV] at hv
  obtain ⟨S0, S1⟩ := hs
  obtain ⟨V0, V1⟩ := hv
  obtain ⟨m1, h3⟩ : ∃ m1, (if V < 1 then (1 : Int) else V) = m1 := ⟨_, rfl⟩
  obtain ⟨m2, h4⟩ : ∃ m2, (if 64 < S / 8 + m1 then (64 : Int) else S / 8 + m1) = m2 := ⟨_, rfl⟩
  obtain ⟨m3, h5⟩ : ∃ m3, (if 2 < m2 then m2 else (2 : Int)) = m3 := ⟨_, rfl⟩
  have m0 : 1 ≤ m1 := by omega
  have m9 : m1 ≤ 16384 := by omega
  have hf : (rttSample ⟨s, v, rto, fails, has⟩ r).val = .agg #[.int .i64 S, .int .i64 V, .int .i64 m3, .int .i64 0, .bool true] :=
    out_eq (m1 := m1) (m2 := if S / 8 + m1 < 2 then 2 else S / 8 + m1) HC.out hS hV h3 rfl (by omega)
  have HF := Lib.hid hf
  have g1 := int_rule h1
  have g2 := int_rule h2
  have g3 := int_rule h3
  have g4 := int_rule h4
  have g5 := int_rule h5
  clear h1 h2 h3 h4 h5
  have hok := norm_ok ⟨s, v, rto, fails, has⟩
  obtain ⟨⟨s', v', rto', fails', has'⟩, he⟩ : ∃ e', rttNorm ⟨s, v, rto, fails, has⟩ = e' := ⟨_, rfl⟩
  rw [he] at hok hor hS hV
  have q1 := hok.s0; have q2 := hok.s1; have q3 := hok.v0; have q4 := hok.v1
  simp only at q1 q2 q3 q4
  have HO := Lib.hid hor
  clear hf hok he hor
  cases has'
  · have eS := int_rule (show 8 * n = S from hS)
    have eV := int_rule (show 2 * n = V from hV)
    clear hS hV
    go_enter Try.func61, Try.ntmps61
    go_wp2_with fail
    refine (HO.out _).mono ?_; rintro e w1 ⟨rfl, hb⟩
    obtain ⟨hq1, hq2, hq3, hq4⟩ := blocks2 hb
    have hc' := cell_of_block hq2
    have hf' := frozen_of_block hq2
    have HB := Lib.hid hq4
    clear hb hq1 hq2 hq4
    simp only [Rt.val]
    go_wp2_with fail
    exact bodyPost_ret (v := .agg #[.int .i64 S, .int .i64 V, .int .i64 m3, .int .i64 0, .bool true]) (by simp [results, Try.results61, go_sem, hc', hq3]) rfl ⟨by rw [HF.out], (by have hbsz := Below.size (HB.out); (repeat (first | (with_reducible exact HB.out) | (with_reducible refine bel_set (by first | omega | (simp; done) | (simp; omega)) ?_) | (with_reducible refine bel_alloc (by first | omega | (simp; done) | (simp; omega)) ?_) | (with_reducible refine bel_drew ?_) | (with_reducible refine bel_drewN ?_ _))); first | done | fail "left")⟩
  · have eS := int_rule (show s' + (n - s' / 8) = S from hS)
    by_cases hd : 0 ≤ n - s' / 8
    · have eV := int_rule (show v' - v' / 4 + (n - s' / 8) = V by rw [← hV]; show _ = v' + (max (n - s' / 8) (-(n - s' / 8)) - v' / 4); omega)
      have eM := int_rule (show (if n - s' / 8 < -(n - s' / 8) then -(n - s' / 8) else n - s' / 8) = n - s' / 8 by omega)
      clear hS hV
      go_enter Try.func61, Try.ntmps61
      go_wp2_with fail
      refine (HO.out _).mono ?_; rintro e w1 ⟨rfl, hb⟩
      obtain ⟨hq1, hq2, hq3, hq4⟩ := blocks2 hb
      have hc' := cell_of_block hq2
      have hf' := frozen_of_block hq2
      have HB := Lib.hid hq4
      clear hb hq1 hq2 hq4
      simp only [Rt.val]
      go_wp2_with fail
      exact bodyPost_ret (v := .agg #[.int .i64 S, .int .i64 V, .int .i64 m3, .int .i64 0, .bool true]) (by simp [results, Try.results61, go_sem, hc', hq3]) rfl ⟨by rw [HF.out], (by have hbsz := Below.size (HB.out); (repeat (first | (with_reducible exact HB.out) | (with_reducible refine bel_set (by first | omega | (simp; done) | (simp; omega)) ?_) | (with_reducible refine bel_alloc (by first | omega | (simp; done) | (simp; omega)) ?_) | (with_reducible refine bel_drew ?_) | (with_reducible refine bel_drewN ?_ _))); first | done | fail "left")⟩
    · have eV := int_rule (show v' - v' / 4 + -(n - s' / 8) = V by rw [← hV]; show _ = v' + (max (n - s' / 8) (-(n - s' / 8)) - v' / 4); omega)
      clear hS hV
      go_enter Try.func61, Try.ntmps61
      go_wp2_with fail
      refine (HO.out _).mono ?_; rintro e w1 ⟨rfl, hb⟩
      obtain ⟨hq1, hq2, hq3, hq4⟩ := blocks2 hb
      have hc' := cell_of_block hq2
      have hf' := frozen_of_block hq2
      have HB := Lib.hid hq4
      clear hb hq1 hq2 hq4
      simp only [Rt.val]
      go_wp2_with fail
      exact bodyPost_ret (v := .agg #[.int .i64 S, .int .i64 V, .int .i64 m3, .int .i64 0, .bool true]) (by simp [results, Try.results61, go_sem, hc', hq3]) rfl ⟨by rw [HF.out], (by have hbsz := Below.size (HB.out); (repeat (first | (with_reducible exact HB.out) | (with_reducible refine bel_set (by first | omega | (simp; done) | (simp; omega)) ?_) | (with_reducible refine bel_alloc (by first | omega | (simp; done) | (simp; omega)) ?_) | (with_reducible refine bel_drew ?_) | (with_reducible refine bel_drewN ?_ _))); first | done | fail "left")⟩
end Go.Proofs.Yteilgibfmljoeaa.K

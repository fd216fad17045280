/-
  THE STATEMENT 'Rows.RttNearSaid': nightjarlaw09.RttNear returns true for every input, and its arguments read afterwards as they read before. No condition.
-/
import Derived.Test.YtnpgpdkkjbljpaaRows
import Derived.Test.YtnpgpdkkjbljpaaRttLaw
import Derived.ProofKit
import Derived.OpenShut
import Derived.ShutString
import Derived.ChangeOld
import Derived.Below
set_option linter.unusedVariables false
set_option linter.unusedSimpArgs false
namespace Go.Proofs.Ytnpgpdkkjbljpaa.lawRttNear
open Go Go.RowKit Nj Go.Proofs.Ytnpgpdkkjbljpaa.K

set_option maxHeartbeats 1000000 in
theorem walk_out (s v rto fails : Int) (has : Bool) (r : Int) (w : World) (hno : rttRight ⟨s, v, rto, fails, has⟩ = false ∨ has = false ∨ r < 0 ∨ 4096 < r) :
    Calls Try.prog 7 #[.agg #[.int .i64 s, .int .i64 v, .int .i64 rto, .int .i64 fails, .bool has], .int .i64 r] w fun e w' => e = .returned (.bool true) ∧ Below w.heap.size w w' := by
  cases hr : rttRight ⟨s, v, rto, fails, has⟩
  all_goals cases has
  all_goals first
    | (go_enter Try.func7, Try.ntmps7
       go_wp2_with fail
       refine (small09_any _).mono ?_; rintro e w1 ⟨rfl, hb⟩
       obtain ⟨hq, _, hb1⟩ := blocks1 hb
       have HB := Lib.hid hb1
       have HQ := Lib.hid hq
       have hc := cell_of_block hq
       clear hb hb1 hq
       go_wp2_with fail
       refine (rttRight_any _ _ _ _ _ _).mono ?_; rintro e w2 ⟨rfl, hb⟩
       have HB2 := Lib.hid (chain HB.out hb)
       have hc2 := cell_of_block (keepb HQ.out hb)
       clear hb hc
       go_wp2_with fail
       all_goals first
         | (go_ret; exact ⟨rfl, HB2.out⟩)
         | (exfalso; simp_all; done)
         | (exfalso; simp_all; omega))

set_option maxHeartbeats 1000000 in
theorem walk_in (s v rto fails : Int) (r : Int) (w : World) (hr : rttRight ⟨s, v, rto, fails, true⟩ = true) (r0 : 0 ≤ r) (r1 : r ≤ 4096) :
    Calls Try.prog 7 #[.agg #[.int .i64 s, .int .i64 v, .int .i64 rto, .int .i64 fails, .bool true], .int .i64 r] w fun e w' => e = .returned (.bool true) ∧ Below w.heap.size w w' := by
  have hok := (right_iff _).1 hr
  have s0 := hok.s0; have s1 := hok.s1; have v0 := hok.v0; have v1 := hok.v1
  simp only at s0 s1 v0 v1
  obtain ⟨n1, n2, n3, n4⟩ := near s0 s1 v0 v1 r0 r1
  have hS : rttSample ⟨s, v, rto, fails, true⟩ r = rttOut (s + (r - s / 8)) (v + (max (r - s / 8) (-(r - s / 8)) - v / 4)) := by
    unfold rttSample; rw [norm_of_right hr, cut_id r0 r1]; rfl
  obtain ⟨S, eS⟩ : ∃ S, s + (r - s / 8) = S := ⟨_, rfl⟩
  obtain ⟨V, eV⟩ : ∃ V, v + (max (r - s / 8) (-(r - s / 8)) - v / 4) = V := ⟨_, rfl⟩
  have hs' := s_bd hok (n := r) r0 r1
  have hv' := v_bd hok (n := r) r0 r1
  rw [show rttS ⟨s, v, rto, fails, true⟩ r = S from eS] at hs'
  rw [show rttV ⟨s, v, rto, fails, true⟩ r = V from eV] at hv'
  obtain ⟨S0, S1⟩ := hs'
  obtain ⟨V0, V1⟩ := hv'
  rw [eS] at n1 n2 n3 hS
  rw [eV] at n4 hS
  clear eS eV
  obtain ⟨T, hT⟩ : ∃ T, (rttOut S V).rto = T := ⟨_, rfl⟩
  have hval : (rttSample ⟨s, v, rto, fails, true⟩ r).val = .agg #[.int .i64 S, .int .i64 V, .int .i64 T, .int .i64 0, .bool true] := by
    rw [hS, ← hT]; rfl
  have HV := Lib.hid hval
  obtain ⟨a, ha⟩ : ∃ a, s / 8 = a := ⟨_, rfl⟩
  obtain ⟨b, hb⟩ : ∃ b, S / 8 = b := ⟨_, rfl⟩
  obtain ⟨lo, hlo⟩ : ∃ lo, (if r < a then r else a) = lo := ⟨_, rfl⟩
  obtain ⟨hi, hhi⟩ : ∃ hi, (if a < r then r else a) = hi := ⟨_, rfl⟩
  obtain ⟨dd, hdd⟩ : ∃ dd, (if r - a < a - r then a - r else r - a) = dd := ⟨_, rfl⟩
  obtain ⟨mx, hmx⟩ : ∃ mx, (if v < 4 * dd + 3 then 4 * dd + 3 else v) = mx := ⟨_, rfl⟩
  have t1 : decide (lo ≤ b) = true := by simp; omega
  have t2 : decide (b ≤ hi) = true := by simp; omega
  have t3 : decide (V ≤ mx) = true := by simp; omega
  have a0 : 0 ≤ a := by omega
  have a1 : a ≤ 4096 := by omega
  have d0 : 0 ≤ dd := by omega
  have d1 : dd ≤ 8192 := by omega
  have g1 := int_rule ha
  have g2 := int_rule hb
  have g3 := int_rule hlo
  have g4 := int_rule hhi
  have g5 := int_rule hdd
  have g6 := int_rule hmx
  have HN3 := Lib.hid n3
  rw [ha] at HN3
  clear hok hS hT hval n1 n2 n3 n4 ha hb hlo hhi hdd hmx
  by_cases hne : a = r
  · have t4 : (a != r) = false := by simpa using hne
    have t5 : (S == s) = true := by simpa using HN3.out hne
    clear hne
    go_enter Try.func7, Try.ntmps7
    go_wp2_with fail
    refine (small09_any _).mono ?_; rintro e w1 ⟨rfl, hb⟩
    obtain ⟨hq, _, hb1⟩ := blocks1 hb
    have HB := Lib.hid hb1
    have HQ := Lib.hid hq
    have hc := cell_of_block hq
    clear hb hb1 hq
    go_wp2_with fail
    refine (rttRight_any _ _ _ _ _ _).mono ?_; rintro e w2 ⟨rfl, hb⟩
    have HB2 := Lib.hid (chain HB.out hb)
    have HQ2 := Lib.hid (keepb HQ.out hb)
    have hc2 := cell_of_block HQ2.out
    clear hb hc
    go_wp2_with fail
    refine (rttSample_any _ _ _ _ _ _ _).mono ?_; rintro e w3 ⟨rfl, hb⟩
    rw [HV.out]
    have HB3 := Lib.hid (chain HB2.out hb)
    have HQ3 := Lib.hid (keepb HQ2.out hb)
    have hc3 := cell_of_block (keepa HQ3.out (.cells #[.int .i64 S, .int .i64 V, .int .i64 T, .int .i64 0, .bool true] 23))
    clear hb hc2
    go_wp2_with fail
    go_ret
    exact ⟨rfl, chaina HB3.out _⟩
  · have t4 : (a != r) = true := by simpa using hne
    clear hne
    go_enter Try.func7, Try.ntmps7
    go_wp2_with fail
    refine (small09_any _).mono ?_; rintro e w1 ⟨rfl, hb⟩
    obtain ⟨hq, _, hb1⟩ := blocks1 hb
    have HB := Lib.hid hb1
    have HQ := Lib.hid hq
    have hc := cell_of_block hq
    clear hb hb1 hq
    go_wp2_with fail
    refine (rttRight_any _ _ _ _ _ _).mono ?_; rintro e w2 ⟨rfl, hb⟩
    have HB2 := Lib.hid (chain HB.out hb)
    have HQ2 := Lib.hid (keepb HQ.out hb)
    have hc2 := cell_of_block HQ2.out
    clear hb hc
    go_wp2_with fail
    refine (rttSample_any _ _ _ _ _ _ _).mono ?_; rintro e w3 ⟨rfl, hb⟩
    rw [HV.out]
    have HB3 := Lib.hid (chain HB2.out hb)
    have HQ3 := Lib.hid (keepb HQ2.out hb)
    have hc3 := cell_of_block (keepa HQ3.out (.cells #[.int .i64 S, .int .i64 V, .int .i64 T, .int .i64 0, .bool true] 23))
    clear hb hc2
    go_wp2_with fail
    go_ret
    exact ⟨rfl, chaina HB3.out _⟩

theorem walk (s v rto fails : Int) (has : Bool) (r : Int) (w : World) (_h : (Lit.int .i64 r).wf = true) :
    Calls Try.prog 7 #[.agg #[.int .i64 s, .int .i64 v, .int .i64 rto, .int .i64 fails, .bool has], .int .i64 r] w fun e w' => e = .returned (.bool true) ∧ Below w.heap.size w w' := by
  by_cases h : rttRight ⟨s, v, rto, fails, has⟩ = false ∨ has = false ∨ r < 0 ∨ 4096 < r
  · exact walk_out s v rto fails has r w h
  · cases has
    · simp at h
    · exact walk_in s v rto fails r w (by simpa using fun h' => h (.inl h')) (by omega) (by omega)

end Go.Proofs.Ytnpgpdkkjbljpaa.lawRttNear
namespace Go.Proofs.Ytnpgpdkkjbljpaa.lawRttNear
open Go.ChangeShapes Go.WideShapes Go.RowKit
set_option linter.unusedVariables false
theorem own : ownKnob Try.prog.godebug = none := by kernel_rfl
theorem laidOut : laidOutB Try.prog = true := by kernel_rfl
set_option maxRecDepth 100000 in
theorem lifted (os : Os) (started : os.Started) (H : Type) (enc : TypeId × Value → H) :
    ReturnsInHanded {} Try.checked os 7 .any (Rows.rttNearSpec.pre6 enc Try.prog Try.f7 Rows.rttNearRow.domain false) (Rows.rttNearSpec.post enc Try.prog Try.f7 false true false false) := by
  refine returnsInHanded_of_change (C := Try.checked) own started (by kernel_rfl) Try.func7
    (ChangeSpec.witness6 (enc := enc) (C := Try.checked) false ⟨#[], #[.agg #[.int .i64 0, .int .i64 0, .int .i64 0, .int .i64 0, .bool false], .int .i64 0], []⟩ 8 (by kernel_rfl) (by kernel_rfl) (by kernel_rfl) (by kernel_rfl)) ?_
  intro W base args ds gs before hval0 hW hcnd _
  have hval : ∀ (j : Nat) t v, Try.f7.params[j]? = some t → args[j]? = some v → Value.okWide Try.prog W .any base t v := hval0
  have hW' := hW
  obtain ⟨p, q, hA0, hV, rfl, hfz, hnd⟩ := hW
  have hA : DataW.TrodAll enc Try.prog W 0 (fun _ => true) true Try.f7.params.toList args.toList ds p := hA0
  rw [Try.params7] at hA hval
  obtain ⟨v0, vs0, d0, ds0, p0, q0, hargs, rfl, rfl, h0, r0⟩ := trodAll_cons hA
  obtain ⟨v1, vs1, d1, ds1, p1, q1, rfl, rfl, rfl, h1, r1⟩ := trodAll_cons r0
  obtain ⟨rfl, rfl, rfl⟩ := trodAll_nil r1
  obtain rfl : args = #[v0, v1] := by cases args; simp_all
  obtain ⟨rfl, rfl⟩ := trodVars_none hV
  obtain ⟨s0, x0, y0, z0, b0, rfl⟩ := K.open_rtt (hval 0 23 v0 rfl rfl) h0
  have k0 := h0
  have lt0 : ∀ x ∈ p0, x.block < W.heap.size := by obtain ⟨m, hm⟩ := k0; exact DataW.trod_lt m _ _ _ hm
  obtain ⟨a1, rfl, rfl, rfl, w1⟩ := open_int Try.underlying3 (hval 1 3 v1 rfl rfl) h1
  clear hA0 hval0
  refine (walk s0 x0 y0 z0 b0 a1 W w1).mono fun e W' ⟨he, bel⟩ => ?_
  subst he
  exact ⟨_, rfl, _, _, _, [], _, [], hW', trodAll_mk1 (shut_bool Try.underlying4 _), (trodAll_cons_mk (Below.trod laidOut (by kernel_rfl) (of_decide_eq_true (by kernel_rfl)) k0 bel lt0) (trodAll_cons_mk (shut_int Try.underlying3 w1) trodAll_mk0)), rfl, bel.frame _, fun h => by cases h⟩
theorem over : Rows.rttNearRow.holds Try.pinned (OpenSpec.ofChange Rows.rttNearSpec) :=
  OpenClaim.holds_of_wide 7 Try.f7 rfl rfl rfl rfl rfl rfl rfl ⟨rfl, rfl, rfl, rfl, rfl⟩ rfl rfl rfl rfl rfl (by kernel_rfl) Try.func7 (by kernel_rfl)
    (of_decide_eq_true (by kernel_rfl)) (by unfold Func.isWrapper; first | (rw [if_pos (by decide +kernel)]; kernel_rfl) | (rw [if_neg (by decide +kernel)]; exact ⟨rfl, rfl⟩))
    (fun os started H enc _ => lifted os started H enc)
/-- THE STATEMENT -/
theorem proved : Rows.RttNearSaid := over
end Go.Proofs.Ytnpgpdkkjbljpaa.lawRttNear
#print axioms Go.Proofs.Ytnpgpdkkjbljpaa.lawRttNear.proved

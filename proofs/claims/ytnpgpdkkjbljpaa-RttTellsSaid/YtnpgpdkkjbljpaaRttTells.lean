/-
  THE STATEMENT 'Rows.RttTellsSaid': nightjarlaw09.RttTells returns true for every input, and its arguments read afterwards as they read before. No condition.
-/
import Derived.Test.YtnpgpdkkjbljpaaRows
import Derived.Test.YtnpgpdkkjbljpaaRttLaw
import Derived.ProofKit
import Derived.OpenShut
import Derived.ShutString
import Derived.ChangeOld
import Derived.Below
set_option linter.unusedVariables false
set_option linter.unusedSimpArgs false
namespace Go.Proofs.Ytnpgpdkkjbljpaa.lawRttTells
open Go Go.RowKit Nj Go.Proofs.Ytnpgpdkkjbljpaa.K

set_option maxHeartbeats 1000000 in
theorem walk (s v rto fails : Int) (has : Bool) (r : Int) (w : World) (_h : (Lit.int .i64 r).wf = true) :
    Calls Try.prog 3 #[.agg #[.int .i64 s, .int .i64 v, .int .i64 rto, .int .i64 fails, .bool has], .int .i64 r] w fun e w' => e = .returned (.bool true) ∧ Below w.heap.size w w' := by
  clear _h
  have f0 := val_guard
  have f1 := val_eq (rttSample ⟨s, v, rto, fails, has⟩ r)
  have f2 := val_eq (rttBackoff ⟨s, v, rto, fails, has⟩)
  go_enter Try.func3, Try.ntmps3
  go_wp2_with fail
  refine (small09_any _).mono ?_; rintro e w1 ⟨rfl, hb⟩
  obtain ⟨hq, _, hb1⟩ := blocks1 hb
  have HB := Lib.hid hb1
  have hc := fun d os => cell_of_block (keepb hq (below_regrown w1 d os))
  clear hb hb1 hq
  go_wp2_with fail
  refine wp_region_quiet_below (by kernel_rfl) (by kernel_rfl) ?_
  repeat (first | go_big_quiet_skip | (go_big_quiet_want; go_big_quiet_op; first | go_big_quiet_on | (apply Exists.intro; refine ⟨fun _ => ?_, ?_⟩; (focus ((first | (go_at_call 11; exact Calls.regrown_of (rttRight_any _ _ _ _ _ _)) | (go_at_call 12; exact Calls.regrown_of (rrttRight_any _ _ _ _ _ _)) | (go_at_call 13; exact Calls.regrown_of (rttSample_any _ _ _ _ _ _ _)) | (go_at_call 14; exact Calls.regrown_of (rrttSample_any _ _ _ _ _ _ _)) | (go_at_call 15; exact Calls.regrown_of (rttBackoff_any _ _ _ _ _ _)) | (go_at_call 16; exact Calls.regrown_of (rrttBackoff_any _ _ _ _ _ _))))); go_big_quiet_on)))
  refine wpQuiet_nil ?_
  intro _ hw'
  obtain ⟨⟨dq, osq⟩, hw''⟩ := hw'
  subst hw''
  go_wp2_with fail
  go_ret
  exact ⟨rfl, chain HB.out (below_regrown _ _ _)⟩

end Go.Proofs.Ytnpgpdkkjbljpaa.lawRttTells
namespace Go.Proofs.Ytnpgpdkkjbljpaa.lawRttTells
open Go.ChangeShapes Go.WideShapes Go.RowKit
set_option linter.unusedVariables false
theorem own : ownKnob Try.prog.godebug = none := by kernel_rfl
theorem laidOut : laidOutB Try.prog = true := by kernel_rfl
set_option maxRecDepth 100000 in
theorem lifted (os : Os) (started : os.Started) (H : Type) (enc : TypeId × Value → H) :
    ReturnsInHanded {} Try.checked os 3 .any (Rows.rttTellsSpec.pre6 enc Try.prog Try.f3 Rows.rttTellsRow.domain false) (Rows.rttTellsSpec.post enc Try.prog Try.f3 false true false false) := by
  refine returnsInHanded_of_change (C := Try.checked) own started (by kernel_rfl) Try.func3
    (ChangeSpec.witness6 (enc := enc) (C := Try.checked) false ⟨#[], #[.agg #[.int .i64 0, .int .i64 0, .int .i64 0, .int .i64 0, .bool false], .int .i64 0], []⟩ 8 (by kernel_rfl) (by kernel_rfl) (by kernel_rfl) (by kernel_rfl)) ?_
  intro W base args ds gs before hval0 hW hcnd _
  have hval : ∀ (j : Nat) t v, Try.f3.params[j]? = some t → args[j]? = some v → Value.okWide Try.prog W .any base t v := hval0
  have hW' := hW
  obtain ⟨p, q, hA0, hV, rfl, hfz, hnd⟩ := hW
  have hA : DataW.TrodAll enc Try.prog W 0 (fun _ => true) true Try.f3.params.toList args.toList ds p := hA0
  rw [Try.params3] at hA hval
  obtain ⟨v0, vs0, d0, ds0, p0, q0, hargs, rfl, rfl, h0, r0⟩ := trodAll_cons hA
  obtain ⟨v1, vs1, d1, ds1, p1, q1, rfl, rfl, rfl, h1, r1⟩ := trodAll_cons r0
  obtain ⟨rfl, rfl, rfl⟩ := trodAll_nil r1
  obtain rfl : args = #[v0, v1] := by cases args; simp_all
  obtain ⟨rfl, rfl⟩ := trodVars_none hV
  obtain ⟨s0, x0, y0, z0, b0, rfl⟩ := K.open_rtt (hval 0 23 v0 rfl rfl) h0
  have k0 := h0
  have lt0 : ∀ x ∈ p0, x.block < W.heap.size := by obtain ⟨m, hm⟩ := k0; exact DataW.trod_lt m _ _ _ hm
  obtain ⟨a1, rfl, rfl, rfl, w1⟩ := open_int Try.underlying3 (hval 1 3 v1 rfl rfl) h1
  clear hA0 hval0
  refine (walk s0 x0 y0 z0 b0 a1 W w1).mono fun e W' ⟨he, bel⟩ => ?_
  subst he
  exact ⟨_, rfl, _, _, _, [], _, [], hW', trodAll_mk1 (shut_bool Try.underlying4 _), (trodAll_cons_mk (Below.trod laidOut (by kernel_rfl) (of_decide_eq_true (by kernel_rfl)) k0 bel lt0) (trodAll_cons_mk (shut_int Try.underlying3 w1) trodAll_mk0)), rfl, bel.frame _, fun h => by cases h⟩
theorem over : Rows.rttTellsRow.holds Try.pinned (OpenSpec.ofChange Rows.rttTellsSpec) :=
  OpenClaim.holds_of_wide 3 Try.f3 rfl rfl rfl rfl rfl rfl rfl ⟨rfl, rfl, rfl, rfl, rfl⟩ rfl rfl rfl rfl rfl (by kernel_rfl) Try.func3 (by kernel_rfl)
    (of_decide_eq_true (by kernel_rfl)) (by unfold Func.isWrapper; first | (rw [if_pos (by decide +kernel)]; kernel_rfl) | (rw [if_neg (by decide +kernel)]; exact ⟨rfl, rfl⟩))
    (fun os started H enc _ => lifted os started H enc)
/-- THE STATEMENT -/
theorem proved : Rows.RttTellsSaid := over
end Go.Proofs.Ytnpgpdkkjbljpaa.lawRttTells
#print axioms Go.Proofs.Ytnpgpdkkjbljpaa.lawRttTells.proved

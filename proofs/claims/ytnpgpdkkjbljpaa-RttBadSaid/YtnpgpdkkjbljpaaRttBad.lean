/-
  THE STATEMENT 'Rows.RttBadSaid': nightjarlaw09.RttBad returns true for every input, and its arguments read afterwards as they read before. No condition.
-/
import Derived.Test.YtnpgpdkkjbljpaaRows
import Derived.Test.YtnpgpdkkjbljpaaRttLaw
import Derived.ProofKit
import Derived.OpenShut
import Derived.ShutString
import Derived.ChangeOld
import Derived.Below
set_option linter.unusedVariables false
set_option linter.unusedSimpArgs false
namespace Go.Proofs.Ytnpgpdkkjbljpaa.lawRttBad
open Go Go.RowKit Nj Go.Proofs.Ytnpgpdkkjbljpaa.K

set_option maxHeartbeats 1000000 in
theorem walk (s v rto fails : Int) (has : Bool) (r : Int) (w : World) (_h : (Lit.int .i64 r).wf = true) :
    Calls Try.prog 8 #[.agg #[.int .i64 s, .int .i64 v, .int .i64 rto, .int .i64 fails, .bool has], .int .i64 r] w fun e w' => e = .returned (.bool true) ∧ Below w.heap.size w w' := by
  clear _h
  have f0 := val_guard
  have f1 := val_eq (rttSample ⟨s, v, rto, fails, has⟩ r)
  have f2 := val_eq (rttBackoff ⟨s, v, rto, fails, has⟩)
  obtain ⟨m, hm⟩ : ∃ m, m = min r 4096 := ⟨_, rfl⟩
  obtain ⟨n, hn⟩ : ∃ n, n = max m 0 := ⟨_, rfl⟩
  have g1 := int_rule (show (if 4096 < r then (4096 : Int) else r) = m by omega)
  have g2 := int_rule (show (if 0 < m then m else (0 : Int)) = n by omega)
  have HC := Lib.hid (show rttCut r = n by unfold rttCut; omega)
  have HS := Lib.hid (sample_norm ⟨s, v, rto, fails, has⟩ r)
  have HK := Lib.hid (backoff_norm ⟨s, v, rto, fails, has⟩)
  clear hm hn
  by_cases hr : rttRight ⟨s, v, rto, fails, has⟩ = true
  · rw [norm_of_right hr, HC.out] at HS
    have f3 := congrArg Rt.val HS.out
    clear HS HK
    go_enter Try.func8, Try.ntmps8
    go_wp2_with fail
    refine (small09_any _).mono ?_; rintro e w1 ⟨rfl, hb⟩
    obtain ⟨hq, _, hb1⟩ := blocks1 hb
    have HB := Lib.hid hb1
    have HQ := Lib.hid hq
    have hc := cell_of_block hq
    clear hb hb1 hq
    go_wp2_with fail
    refine (rttRight_any _ _ _ _ _ _).mono ?_; rintro e w2 ⟨rfl, hb⟩
    have HB2 := Lib.hid (chain (chaina HB.out _) hb)
    have HX := Lib.hid (keepb (keepa HQ.out _) hb)
    have HY := Lib.hid (keepb (heap_new _ _ _ rfl) hb)
    have hx := fun d os => cell_of_block (keepb HX.out (below_regrown w2 d os))
    have hy := fun d os => cell_of_block (keepb HY.out (below_regrown w2 d os))
    clear hb hc
    go_wp2_with fail
    refine wp_region_quiet_below (by kernel_rfl) (by kernel_rfl) ?_
    repeat (first | go_big_quiet_skip | (go_big_quiet_want; go_big_quiet_op; first | go_big_quiet_on | (apply Exists.intro; refine ⟨fun _ => ?_, ?_⟩; (focus ((first | (go_at_call 13; exact Calls.regrown_of (rttSample_any _ _ _ _ _ _ _)) | (go_at_call 15; exact Calls.regrown_of (rttBackoff_any _ _ _ _ _ _))))); go_big_quiet_on)))
    refine wpQuiet_nil ?_
    intro _ hw'
    obtain ⟨⟨dq, osq⟩, hw''⟩ := hw'
    subst hw''
    go_wp2_with fail
    go_ret
    exact ⟨rfl, chain HB2.out (below_regrown _ _ _)⟩
  · have hr : rttRight ⟨s, v, rto, fails, has⟩ = false := by simpa using hr
    rw [norm_of_wrong hr, HC.out] at HS
    rw [norm_of_wrong hr] at HK
    have f3 := congrArg Rt.val HS.out
    have f4 := congrArg Rt.val HK.out
    simp only [rttStart] at f3 f4
    have hst : rttStart.val = .agg #[.int .i64 0, .int .i64 0, .int .i64 8, .int .i64 0, .bool false] := rfl
    clear HS HK
    go_enter Try.func8, Try.ntmps8
    go_wp2_with fail
    refine (small09_any _).mono ?_; rintro e w1 ⟨rfl, hb⟩
    obtain ⟨hq, _, hb1⟩ := blocks1 hb
    have HB := Lib.hid hb1
    have HQ := Lib.hid hq
    have hc := cell_of_block hq
    clear hb hb1 hq
    go_wp2_with fail
    refine (rttRight_any _ _ _ _ _ _).mono ?_; rintro e w2 ⟨rfl, hb⟩
    have HB2 := Lib.hid (chain (chaina HB.out _) hb)
    have HX := Lib.hid (keepb (keepa HQ.out _) hb)
    have HY := Lib.hid (keepb (heap_new _ _ _ rfl) hb)
    clear hb hc
    go_wp2_with fail
    refine (rttStart_any _).mono ?_; rintro e w3 ⟨rfl, hb⟩
    rw [hst]
    have HB3 := Lib.hid (chain HB2.out hb)
    have HX3 := Lib.hid (keepb HX.out hb)
    have HY3 := Lib.hid (keepb HY.out hb)
    have hy := cell_of_block HY3.out
    have hyf := frozen_of_block HY3.out
    clear hb
    go_upto_region 5 with fail
    obtain ⟨W4, hW4⟩ : ∃ W4, W4 = (((((w3.setCell ⟨w1.heap.size, 0, none⟩ (.int .i64 0)).setCell ⟨w1.heap.size, 1, none⟩ (.int .i64 0)).setCell ⟨w1.heap.size, 2, none⟩ (.int .i64 8)).setCell ⟨w1.heap.size, 3, none⟩ (.int .i64 0)).setCell ⟨w1.heap.size, 4, none⟩ (.bool false)) := ⟨_, rfl⟩
    rw [← hW4]
    have HY4 : W4.heap[w1.heap.size]? = some (.cells #[.int .i64 0, .int .i64 0, .int .i64 8, .int .i64 0, .bool false] 23) := by
      rw [hW4, heap_set_same (heap_set_same (heap_set_same (heap_set_same (heap_set_same HY3.out 0 _) 1 _) 2 _) 3 _) 4 _]; rfl
    have hne : w.heap.size ≠ w1.heap.size := by have := block_lt HQ.out; omega
    have HX4 : W4.heap[w.heap.size]? = some (.cells #[.int .i64 s, .int .i64 v, .int .i64 rto, .int .i64 fails, .bool has] 23) := by
      rw [hW4, heap_set_other hne, heap_set_other hne, heap_set_other hne, heap_set_other hne, heap_set_other hne]; exact HX3.out
    have HB4 := Lib.hid (show Below w.heap.size w W4 by
      have hle : w.heap.size ≤ w1.heap.size := HB.out.size
      rw [hW4]; exact ((((HB3.out.setCell hle _).setCell hle _).setCell hle _).setCell hle _).setCell hle _)
    have hx := fun d os => cell_of_block (keepb HX4 (below_regrown W4 d os))
    have hy := fun d os => cell_of_block (keepb HY4 (below_regrown W4 d os))
    clear hW4 hyf HX4 HY4 hne
    refine wp_region_quiet_below (by kernel_rfl) (by kernel_rfl) ?_
    repeat (first | go_big_quiet_skip | (go_big_quiet_want; go_big_quiet_op; first | go_big_quiet_on | (apply Exists.intro; refine ⟨fun _ => ?_, ?_⟩; (focus ((first | (go_at_call 13; exact Calls.regrown_of (rttSample_any _ _ _ _ _ _ _)) | (go_at_call 15; exact Calls.regrown_of (rttBackoff_any _ _ _ _ _ _))))); go_big_quiet_on)))
    refine wpQuiet_nil ?_
    intro _ hw'
    obtain ⟨⟨dq, osq⟩, hw''⟩ := hw'
    subst hw''
    go_wp2_with fail
    go_ret
    exact ⟨rfl, chain HB4.out (below_regrown _ _ _)⟩

end Go.Proofs.Ytnpgpdkkjbljpaa.lawRttBad
namespace Go.Proofs.Ytnpgpdkkjbljpaa.lawRttBad
open Go.ChangeShapes Go.WideShapes Go.RowKit
set_option linter.unusedVariables false
theorem own : ownKnob Try.prog.godebug = none := by kernel_rfl
theorem laidOut : laidOutB Try.prog = true := by kernel_rfl
set_option maxRecDepth 100000 in
theorem lifted (os : Os) (started : os.Started) (H : Type) (enc : TypeId × Value → H) :
    ReturnsInHanded {} Try.checked os 8 .any (Rows.rttBadSpec.pre6 enc Try.prog Try.f8 Rows.rttBadRow.domain false) (Rows.rttBadSpec.post enc Try.prog Try.f8 false true false false) := by
  refine returnsInHanded_of_change (C := Try.checked) own started (by kernel_rfl) Try.func8
    (ChangeSpec.witness6 (enc := enc) (C := Try.checked) false ⟨#[], #[.agg #[.int .i64 0, .int .i64 0, .int .i64 0, .int .i64 0, .bool false], .int .i64 0], []⟩ 8 (by kernel_rfl) (by kernel_rfl) (by kernel_rfl) (by kernel_rfl)) ?_
  intro W base args ds gs before hval0 hW hcnd _
  have hval : ∀ (j : Nat) t v, Try.f8.params[j]? = some t → args[j]? = some v → Value.okWide Try.prog W .any base t v := hval0
  have hW' := hW
  obtain ⟨p, q, hA0, hV, rfl, hfz, hnd⟩ := hW
  have hA : DataW.TrodAll enc Try.prog W 0 (fun _ => true) true Try.f8.params.toList args.toList ds p := hA0
  rw [Try.params8] at hA hval
  obtain ⟨v0, vs0, d0, ds0, p0, q0, hargs, rfl, rfl, h0, r0⟩ := trodAll_cons hA
  obtain ⟨v1, vs1, d1, ds1, p1, q1, rfl, rfl, rfl, h1, r1⟩ := trodAll_cons r0
  obtain ⟨rfl, rfl, rfl⟩ := trodAll_nil r1
  obtain rfl : args = #[v0, v1] := by cases args; simp_all
  obtain ⟨rfl, rfl⟩ := trodVars_none hV
  obtain ⟨s0, x0, y0, z0, b0, rfl⟩ := K.open_rtt (hval 0 23 v0 rfl rfl) h0
  have k0 := h0
  have lt0 : ∀ x ∈ p0, x.block < W.heap.size := by obtain ⟨m, hm⟩ := k0; exact DataW.trod_lt m _ _ _ hm
  obtain ⟨a1, rfl, rfl, rfl, w1⟩ := open_int Try.underlying3 (hval 1 3 v1 rfl rfl) h1
  clear hA0 hval0
  refine (walk s0 x0 y0 z0 b0 a1 W w1).mono fun e W' ⟨he, bel⟩ => ?_
  subst he
  exact ⟨_, rfl, _, _, _, [], _, [], hW', trodAll_mk1 (shut_bool Try.underlying4 _), (trodAll_cons_mk (Below.trod laidOut (by kernel_rfl) (of_decide_eq_true (by kernel_rfl)) k0 bel lt0) (trodAll_cons_mk (shut_int Try.underlying3 w1) trodAll_mk0)), rfl, bel.frame _, fun h => by cases h⟩
theorem over : Rows.rttBadRow.holds Try.pinned (OpenSpec.ofChange Rows.rttBadSpec) :=
  OpenClaim.holds_of_wide 8 Try.f8 rfl rfl rfl rfl rfl rfl rfl ⟨rfl, rfl, rfl, rfl, rfl⟩ rfl rfl rfl rfl rfl (by kernel_rfl) Try.func8 (by kernel_rfl)
    (of_decide_eq_true (by kernel_rfl)) (by unfold Func.isWrapper; first | (rw [if_pos (by decide +kernel)]; kernel_rfl) | (rw [if_neg (by decide +kernel)]; exact ⟨rfl, rfl⟩))
    (fun os started H enc _ => lifted os started H enc)
/-- THE STATEMENT -/
theorem proved : Rows.RttBadSaid := over
end Go.Proofs.Ytnpgpdkkjbljpaa.lawRttBad
#print axioms Go.Proofs.Ytnpgpdkkjbljpaa.lawRttBad.proved

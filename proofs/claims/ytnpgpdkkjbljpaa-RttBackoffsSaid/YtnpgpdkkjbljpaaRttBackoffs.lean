/-
  THE STATEMENT 'Rows.RttBackoffsSaid': nightjarlaw09.RttBackoffs returns true for every input, and its arguments read afterwards as they read before. No condition.
-/
import Derived.Test.YtnpgpdkkjbljpaaRows
import Derived.Test.YtnpgpdkkjbljpaaRttLaw
import Derived.ProofKit
import Derived.OpenShut
import Derived.ShutString
import Derived.ChangeOld
import Derived.Below
set_option linter.unusedVariables false
set_option linter.unusedSimpArgs false
namespace Go.Proofs.Ytnpgpdkkjbljpaa.lawRttBackoffs
open Go Go.RowKit Nj Go.Proofs.Ytnpgpdkkjbljpaa.K

set_option maxHeartbeats 1000000 in
theorem walk_out (s v rto fails : Int) (has : Bool) (n : Int) (w : World) (hno : rttRight ⟨s, v, rto, fails, has⟩ = false ∨ n < 0 ∨ 200 < n) :
    Calls Try.prog 9 #[.agg #[.int .i64 s, .int .i64 v, .int .i64 rto, .int .i64 fails, .bool has], .int .i64 n] w fun e w' => e = .returned (.bool true) ∧ Below w.heap.size w w' := by
  cases hr : rttRight ⟨s, v, rto, fails, has⟩
  all_goals
    go_enter Try.func9, Try.ntmps9
    go_wp2_with fail
    refine (small09_any _).mono ?_; rintro e w1 ⟨rfl, hb⟩
    obtain ⟨hq, _, hb1⟩ := blocks1 hb
    have HB := Lib.hid hb1
    have HQ := Lib.hid hq
    have hc := cell_of_block hq
    clear hb hb1 hq
    go_wp2_with fail
    refine (rttRight_any _ _ _ _ _ _).mono ?_; rintro e w2 ⟨rfl, hb⟩
    have HB2 := Lib.hid (chain HB.out hb)
    have hc2 := cell_of_block (keepb HQ.out hb)
    clear hb hc
    go_upto_region 4 with fail
    all_goals first
      | (exfalso; simp_all; done)
      | (exfalso; simp_all; omega)
      | (go_ret; exact ⟨rfl, HB2.out⟩)

set_option maxHeartbeats 2000000 in
theorem walk_in (s v rto fails : Int) (has : Bool) (n : Nat) (w : World) (hr : rttRight ⟨s, v, rto, fails, has⟩ = true) (n1 : n ≤ 200) :
    Calls Try.prog 9 #[.agg #[.int .i64 s, .int .i64 v, .int .i64 rto, .int .i64 fails, .bool has], .int .i64 n] w fun e w' => e = .returned (.bool true) ∧ Below w.heap.size w w' := by
  have hok := Lib.hid ((right_iff _).1 hr)
  have d1 : decide ((n : Int) < 0) = false := by simp
  have d2 : decide ((200 : Int) < (n : Int)) = false := by simp; omega
  go_enter Try.func9, Try.ntmps9
  go_wp2_with fail
  refine (small09_any _).mono ?_; rintro e w1 ⟨rfl, hb⟩
  obtain ⟨hq, _, hb1⟩ := blocks1 hb
  have HB := Lib.hid hb1
  have HQ := Lib.hid hq
  have hc := cell_of_block hq
  clear hb hb1 hq
  go_wp2_with fail
  refine (rttRight_any _ _ _ _ _ _).mono ?_; rintro e w2 ⟨rfl, hb⟩
  have HB2 := Lib.hid (chain HB.out hb)
  have HQ2 := Lib.hid (keepb HQ.out hb)
  have hne := Lib.hid (show w.heap.size < w2.heap.size from block_lt HQ2.out)
  have hc2 := cell_of_block HQ2.out
  have hc3 := cell_of_block (keepa HQ2.out (.cells #[.int .i64 s, .int .i64 v, .int .i64 rto, .int .i64 fails, .bool has] 23))
  clear hb hc
  go_wp2_with fail
  clear hc2 hc3
  go_loopw [7, 8] (fun wv i wr => ∃ (k : Nat) (W F : Int), k ≤ n ∧ i = .int .i64 k ∧ wv = .int .i64 W ∧ 2 ≤ W ∧ W ≤ 64 ∧ F = min (fails + (k : Int)) 100 ∧ wr.heap[w.heap.size]? = some (.cells #[.int .i64 s, .int .i64 v, .int .i64 rto, .int .i64 fails, .bool has] 23) ∧ wr.heap[w2.heap.size]? = some (.cells #[.int .i64 s, .int .i64 v, .int .i64 W, .int .i64 F, .bool has] 23) ∧ Below w.heap.size w wr) (fun _ i _ => n - (intOf i).toNat)
  case atStart => exact ⟨0, rto, fails, by omega, rfl, rfl, hok.out.r0, hok.out.r1, by have := hok.out.f1; simp only at this; omega, keepa HQ2.out _, heap_new _ _ _ rfl, chaina HB2.out _⟩
  case round =>
    obtain ⟨k, W, F, hk, rfl, rfl, W0, W1, hF, hq1, hq2, hwb⟩ := hrel
    have HX := Lib.hid hq1
    have HY := Lib.hid hq2
    have HWB := Lib.hid hwb
    have hc := cell_of_block hq2
    have F1 : F ≤ 100 := by omega
    have F0 : 0 ≤ F := by have := hok.out.f0; simp only at this; omega
    have HF := Lib.hid hF
    clear hq1 hq2 hwb hF
    by_cases hlt : k < n
    · have hd : (k : Int) < (n : Int) := by omega
      obtain ⟨W', hW'⟩ : ∃ W', (if 64 < 2 * W then (64 : Int) else 2 * W) = W' := ⟨_, rfl⟩
      obtain ⟨F', hF'⟩ : ∃ F', F' = min (F + 1) 100 := ⟨_, rfl⟩
      have HV := Lib.hid (show (rttBackoff ⟨s, v, W, F, has⟩).val = .agg #[.int .i64 s, .int .i64 v, .int .i64 W', .int .i64 F', .bool has] by
        have ho : RtOk ⟨s, v, W, F, has⟩ := ⟨hok.out.s0, hok.out.s1, hok.out.v0, hok.out.v1, W0, W1, F0, F1, hok.out.known⟩
        unfold rttBackoff rttFail Rt.val
        rw [norm_of_right ((right_iff _).2 ho)]
        have e1 : min (W * 2) 64 = W' := by omega
        simp only [e1, hF'])
      have HW1 := Lib.hid (show 2 ≤ W' ∧ W' ≤ 64 by omega)
      have HF1 := Lib.hid (show F' = min (fails + ((k + 1 : Nat) : Int)) 100 by have := HF.out; omega)
      have g1 := int_rule hW'
      clear hW' hF'
      go_wp2_with fail
      refine (rttBackoff_any _ _ _ _ _ _).mono ?_; rintro e wx ⟨rfl, hb⟩
      rw [HV.out]
      have HX2 := Lib.hid (keepb HX.out hb)
      have HY2 := Lib.hid (keepb HY.out hb)
      have hc2 := cell_of_block HY2.out
      have hf2 := frozen_of_block HY2.out
      have HB3 := Lib.hid (chain HWB.out hb)
      clear hb hc
      go_wp2_with fail
      go_roundw
      case rel => exact ⟨k + 1, W', F', by omega, by go_num, rfl, HW1.out.1, HW1.out.2, HF1.out, by rw [store5_other (Nat.ne_of_lt hne.out)]; exact HX2.out, store5 HY2.out _ _ _ _ _, store5_below HB3.out (Nat.le_of_lt hne.out) _ _ _ _ _⟩
      case measure => simp [intOf]; omega
    · obtain rfl : k = n := by omega
      have hx := cell_of_block HX.out
      obtain ⟨q, hq⟩ : ∃ q, (if 100 < fails + (k : Int) then (100 : Int) else fails + (k : Int)) = q := ⟨_, rfl⟩
      have t1 : (F == q) = true := by have := HF.out; simp; omega
      have b1 := hok.out.f0
      have b2 := hok.out.f1
      simp only at b1 b2
      have g1 := int_rule hq
      clear hq
      go_wp2_with fail
      go_ret
      exact ⟨rfl, HWB.out⟩

theorem walk (s v rto fails : Int) (has : Bool) (n : Int) (w : World) (_h : (Lit.int .i64 n).wf = true) :
    Calls Try.prog 9 #[.agg #[.int .i64 s, .int .i64 v, .int .i64 rto, .int .i64 fails, .bool has], .int .i64 n] w fun e w' => e = .returned (.bool true) ∧ Below w.heap.size w w' := by
  by_cases h : rttRight ⟨s, v, rto, fails, has⟩ = false ∨ n < 0 ∨ 200 < n
  · exact walk_out s v rto fails has n w h
  · obtain ⟨m, rfl⟩ : ∃ m : Nat, n = m := ⟨n.toNat, by omega⟩
    exact walk_in s v rto fails has m w (by simpa using fun h' => h (.inl h')) (by omega)

end Go.Proofs.Ytnpgpdkkjbljpaa.lawRttBackoffs
namespace Go.Proofs.Ytnpgpdkkjbljpaa.lawRttBackoffs
open Go.ChangeShapes Go.WideShapes Go.RowKit
set_option linter.unusedVariables false
theorem own : ownKnob Try.prog.godebug = none := by kernel_rfl
theorem laidOut : laidOutB Try.prog = true := by kernel_rfl
set_option maxRecDepth 100000 in
theorem lifted (os : Os) (started : os.Started) (H : Type) (enc : TypeId × Value → H) :
    ReturnsInHanded {} Try.checked os 9 .any (Rows.rttBackoffsSpec.pre6 enc Try.prog Try.f9 Rows.rttBackoffsRow.domain false) (Rows.rttBackoffsSpec.post enc Try.prog Try.f9 false true false false) := by
  refine returnsInHanded_of_change (C := Try.checked) own started (by kernel_rfl) Try.func9
    (ChangeSpec.witness6 (enc := enc) (C := Try.checked) false ⟨#[], #[.agg #[.int .i64 0, .int .i64 0, .int .i64 0, .int .i64 0, .bool false], .int .i64 0], []⟩ 8 (by kernel_rfl) (by kernel_rfl) (by kernel_rfl) (by kernel_rfl)) ?_
  intro W base args ds gs before hval0 hW hcnd _
  have hval : ∀ (j : Nat) t v, Try.f9.params[j]? = some t → args[j]? = some v → Value.okWide Try.prog W .any base t v := hval0
  have hW' := hW
  obtain ⟨p, q, hA0, hV, rfl, hfz, hnd⟩ := hW
  have hA : DataW.TrodAll enc Try.prog W 0 (fun _ => true) true Try.f9.params.toList args.toList ds p := hA0
  rw [Try.params9] at hA hval
  obtain ⟨v0, vs0, d0, ds0, p0, q0, hargs, rfl, rfl, h0, r0⟩ := trodAll_cons hA
  obtain ⟨v1, vs1, d1, ds1, p1, q1, rfl, rfl, rfl, h1, r1⟩ := trodAll_cons r0
  obtain ⟨rfl, rfl, rfl⟩ := trodAll_nil r1
  obtain rfl : args = #[v0, v1] := by cases args; simp_all
  obtain ⟨rfl, rfl⟩ := trodVars_none hV
  obtain ⟨s0, x0, y0, z0, b0, rfl⟩ := K.open_rtt (hval 0 23 v0 rfl rfl) h0
  have k0 := h0
  have lt0 : ∀ x ∈ p0, x.block < W.heap.size := by obtain ⟨m, hm⟩ := k0; exact DataW.trod_lt m _ _ _ hm
  obtain ⟨a1, rfl, rfl, rfl, w1⟩ := open_int Try.underlying3 (hval 1 3 v1 rfl rfl) h1
  clear hA0 hval0
  refine (walk s0 x0 y0 z0 b0 a1 W w1).mono fun e W' ⟨he, bel⟩ => ?_
  subst he
  exact ⟨_, rfl, _, _, _, [], _, [], hW', trodAll_mk1 (shut_bool Try.underlying4 _), (trodAll_cons_mk (Below.trod laidOut (by kernel_rfl) (of_decide_eq_true (by kernel_rfl)) k0 bel lt0) (trodAll_cons_mk (shut_int Try.underlying3 w1) trodAll_mk0)), rfl, bel.frame _, fun h => by cases h⟩
theorem over : Rows.rttBackoffsRow.holds Try.pinned (OpenSpec.ofChange Rows.rttBackoffsSpec) :=
  OpenClaim.holds_of_wide 9 Try.f9 rfl rfl rfl rfl rfl rfl rfl ⟨rfl, rfl, rfl, rfl, rfl⟩ rfl rfl rfl rfl rfl (by kernel_rfl) Try.func9 (by kernel_rfl)
    (of_decide_eq_true (by kernel_rfl)) (by unfold Func.isWrapper; first | (rw [if_pos (by decide +kernel)]; kernel_rfl) | (rw [if_neg (by decide +kernel)]; exact ⟨rfl, rfl⟩))
    (fun os started H enc _ => lifted os started H enc)
/-- THE STATEMENT -/
theorem proved : Rows.RttBackoffsSaid := over
end Go.Proofs.Ytnpgpdkkjbljpaa.lawRttBackoffs
#print axioms Go.Proofs.Ytnpgpdkkjbljpaa.lawRttBackoffs.proved

/-
  THE STATEMENT 'Rows.SatSumsSaid': nightjarlaw01.SatSums returns true for every input, and its arguments read afterwards as they read before. No condition.
-/
import Derived.Test.YtnmaipmfmafcmaaRows
import Derived.Test.YtnmaipmfmafcmaaSatSmall
import Derived.ProofKit
import Derived.OpenShut
import Derived.ShutString
import Derived.ChangeOld
import Derived.Below
namespace Go.Proofs.Ytnmaipmfmafcmaa.lawSatSums
open Go Go.RowKit Nj Go.Proofs.Ytnmaipmfmafcmaa.K

theorem walk (v : Value) (xs : List Int) (k : Int) (w : World) (h : Ints w v xs) (_hz : ∀ n ∈ xs, (Lit.int .i64 n).wf = true) (_h0 : (Lit.int .i64 k).wf = true) :
    Calls Try.prog 9 #[v, .int .i64 k] w fun e w' => e = .returned (.bool true) ∧ Below w.heap.size w w' := by
  clear _h0 _hz
  have hk := Lib.hid h
  obtain ⟨hm, p, cap, rfl, hcap, hc⟩ := h
  clear hc
  by_cases hl : 1000 < xs.length ∨ k < 0 ∨ (xs.length : Int) < k
  · rcases hl with hl | hl | hl
    all_goals
      go_enter Try.func9, Try.ntmps9
      go_wp2_with fail
      refine (small01_any _).mono ?_; rintro e w1 ⟨rfl, hb⟩
      have HB := Lib.hid hb
      clear hb
      go_wp2
      all_goals go_ret
      all_goals exact ⟨rfl, HB.out⟩
  · obtain ⟨n, rfl⟩ : ∃ n : Nat, k = n := ⟨k.toNat, by omega⟩
    have h1 : decide ((1000 : Int) < (xs.length : Int)) = false := by simp; omega
    have h2 : decide ((n : Int) < 0) = false := by simp
    have h3 : decide ((xs.length : Int) < (n : Int)) = false := by simp; omega
    have h4 : n ≤ xs.length := by omega
    have h5 : (n : Int) ≤ (xs.length : Int) := by omega
    have h6 : (n : Int) ≤ (cap : Int) := by omega
    have f1 : sum xs = add (sum (xs.take n)) (sum (xs.drop n)) := by rw [← sum_append, List.take_append_drop]
    have f2 : decide (mean (xs.take n) ≤ sum (xs.take n)) = true := by simpa using mean_le_sum _
    clear hl
    go_enter Try.func9, Try.ntmps9
    go_wp2_with fail
    refine (small01_any _).mono ?_; rintro e w1 ⟨rfl, hb⟩
    have hk1 := Lib.hid (hk.out.keep hb)
    have HT := Lib.hid (hk1.out.take n h4)
    have HD := Lib.hid (hk1.out.drop n h4)
    have HB := Lib.hid hb
    clear hb h4
    go_wp2_with fail
    refine wp_region_quiet_below (by kernel_rfl) (by kernel_rfl) ?_
    repeat (first | go_big_quiet_skip | (go_big_quiet_want; go_big_quiet_op; first | go_big_quiet_on | (apply Exists.intro; refine ⟨fun _ => ?_, ?_⟩; (focus ((first | (go_at_call 20; exact same_regrown (sum_any _ _ _ (by first | exact hk1.out.regrown _ _ | exact HT.out.regrown _ _ | exact HD.out.regrown _ _))) | (go_at_call 22; exact same_regrown (mean_any _ _ _ (HT.out.regrown _ _))) | (go_at_call 14; exact same_regrown (add_any _ _ _))))); go_big_quiet_on)))
    refine wpQuiet_nil ?_
    intro _ hw'
    obtain ⟨⟨dq, osq⟩, hw''⟩ := hw'
    subst hw''
    go_wp2_with fail
    all_goals go_ret
    all_goals exact ⟨rfl, HB.out.trans ((below_regrown _ dq osq).mono HB.out.size)⟩

end Go.Proofs.Ytnmaipmfmafcmaa.lawSatSums
namespace Go.Proofs.Ytnmaipmfmafcmaa.lawSatSums
open Go.ChangeShapes Go.WideShapes Go.RowKit
set_option linter.unusedVariables false
theorem own : ownKnob Try.prog.godebug = none := by kernel_rfl
theorem laidOut : laidOutB Try.prog = true := by kernel_rfl
set_option maxRecDepth 100000 in
theorem lifted (os : Os) (started : os.Started) (H : Type) (enc : TypeId × Value → H) :
    ReturnsInHanded {} Try.checked os 9 .any (Rows.satSumsSpec.pre6 enc Try.prog Try.f9 Rows.satSumsRow.domain false) (Rows.satSumsSpec.post enc Try.prog Try.f9 false true false false) := by
  refine returnsInHanded_of_change (C := Try.checked) own started (by kernel_rfl) Try.func9
    (ChangeSpec.witness6 (enc := enc) (C := Try.checked) false ⟨#[], #[.slice none 0 0, .int .i64 0], []⟩ 8 (by kernel_rfl) (by kernel_rfl) (by kernel_rfl) (by kernel_rfl)) ?_
  intro W base args ds gs before hval0 hW hcnd _
  have hval : ∀ (j : Nat) t v, Try.f9.params[j]? = some t → args[j]? = some v → Value.okWide Try.prog W .any base t v := hval0
  have hW' := hW
  obtain ⟨p, q, hA0, hV, rfl, hfz, hnd⟩ := hW
  have hA : DataW.TrodAll enc Try.prog W 0 (fun _ => true) true Try.f9.params.toList args.toList ds p := hA0
  rw [Try.params9] at hA hval
  obtain ⟨v0, vs0, d0, ds0, p0, q0, hargs, rfl, rfl, h0, r0⟩ := trodAll_cons hA
  obtain ⟨v1, vs1, d1, ds1, p1, q1, rfl, rfl, rfl, h1, r1⟩ := trodAll_cons r0
  obtain ⟨rfl, rfl, rfl⟩ := trodAll_nil r1
  obtain rfl : args = #[v0, v1] := by cases args; simp_all
  obtain ⟨rfl, rfl⟩ := trodVars_none hV
  obtain ⟨a0, len0, cap0, rfl⟩ := okWide_slice Try.underlying22 (hval 0 22 v0 rfl rfl)
  have k0 := h0
  have lt0 : ∀ x ∈ p0, x.block < W.heap.size := by obtain ⟨m, hm⟩ := k0; exact DataW.trod_lt m _ _ _ hm
  obtain ⟨z0, w0, y0⟩ : ∃ xs, Nj.Ints W (.slice a0 len0 cap0) xs ∧ ∀ n ∈ xs, (Lit.int .i64 n).wf = true := by
    obtain ⟨fuel, hf⟩ := h0
    exact Nj.ints_of_open Try.underlying22 Try.underlying3 (by kernel_rfl) hf
  obtain ⟨a1, rfl, rfl, rfl, w1⟩ := open_int Try.underlying3 (hval 1 3 v1 rfl rfl) h1
  clear hA0 hval0
  refine (walk _ z0 a1 W w0 y0 w1).mono fun e W' ⟨he, bel⟩ => ?_
  subst he
  exact ⟨_, rfl, _, _, _, [], _, [], hW', trodAll_mk1 (shut_bool Try.underlying4 _), (trodAll_cons_mk (Below.trod laidOut (by kernel_rfl) (of_decide_eq_true (by kernel_rfl)) k0 bel lt0) (trodAll_cons_mk (shut_int Try.underlying3 w1) trodAll_mk0)), rfl, bel.frame _, fun h => by cases h⟩
theorem over : Rows.satSumsRow.holds Try.pinned (OpenSpec.ofChange Rows.satSumsSpec) :=
  OpenClaim.holds_of_wide 9 Try.f9 rfl rfl rfl rfl rfl rfl rfl ⟨rfl, rfl, rfl, rfl, rfl⟩ rfl rfl rfl rfl rfl (by kernel_rfl) Try.func9 (by kernel_rfl)
    (of_decide_eq_true (by kernel_rfl)) (by unfold Func.isWrapper; first | (rw [if_pos (by decide +kernel)]; kernel_rfl) | (rw [if_neg (by decide +kernel)]; exact ⟨rfl, rfl⟩))
    (fun os started H enc _ => lifted os started H enc)
/-- THE STATEMENT -/
theorem proved : Rows.SatSumsSaid := over
end Go.Proofs.Ytnmaipmfmafcmaa.lawSatSums
#print axioms Go.Proofs.Ytnmaipmfmafcmaa.lawSatSums.proved

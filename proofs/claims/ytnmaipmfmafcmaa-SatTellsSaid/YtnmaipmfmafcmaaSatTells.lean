/-
  THE STATEMENT 'Rows.SatTellsSaid': nightjarlaw01.SatTells returns true for every input, and its arguments read afterwards as they read before. No condition.
-/
import Derived.Test.YtnmaipmfmafcmaaRows
import Derived.Test.YtnmaipmfmafcmaaSatSmall
import Derived.ProofKit
import Derived.OpenShut
import Derived.ShutString
import Derived.ChangeOld
import Derived.Below
namespace Go.Proofs.Ytnmaipmfmafcmaa.lawSatTells
open Go Go.RowKit Nj Go.Proofs.Ytnmaipmfmafcmaa.K

theorem walk (a : Int) (b : Int) (v : Value) (xs : List Int) (w : World) (_h0 : (Lit.int .i64 a).wf = true) (_h1 : (Lit.int .i64 b).wf = true) (h : Ints w v xs) (_hz : ∀ n ∈ xs, (Lit.int .i64 n).wf = true) :
    Calls Try.prog 3 #[.int .i64 a, .int .i64 b, v] w fun e w' => e = .returned (.bool true) ∧ Below w.heap.size w w' := by
  clear _h0 _h1 _hz
  have hk := Lib.hid h
  obtain ⟨hm, p, cap, rfl, hcap, hc⟩ := h
  clear hc
  by_cases hl : 1000 < xs.length
  · have h1 : decide ((1000 : Int) < (xs.length : Int)) = true := by simp; omega
    clear hl
    go_enter Try.func3, Try.ntmps3
    go_wp2_with fail
    refine (small01_any _).mono ?_; rintro e w1 ⟨rfl, hb⟩
    go_wp2_with fail
    go_ret
    exact ⟨rfl, hb⟩
  · have h1 : decide ((1000 : Int) < (xs.length : Int)) = false := by simp; omega
    clear hl
    go_enter Try.func3, Try.ntmps3
    go_wp2_with fail
    refine (small01_any _).mono ?_; rintro e w1 ⟨rfl, hb⟩
    have hk1 := Lib.hid (hk.out.keep hb)
    have HB := Lib.hid hb
    clear hb hk
    go_wp2_with (first | (go_at_call 12; refine (clamp_any _ _).mono ?_; rintro e w' ⟨rfl, rfl⟩) | (go_at_call 14; refine (add_any _ _ _).mono ?_; rintro e w' ⟨rfl, rfl⟩) | (go_at_call 16; refine (sub_any _ _ _).mono ?_; rintro e w' ⟨rfl, rfl⟩) | (go_at_call 18; refine (mul_any _ _ _).mono ?_; rintro e w' ⟨rfl, rfl⟩) | (go_at_call 13; refine (rclamp_any _ _).mono ?_; rintro e w' ⟨rfl, rfl⟩) | (go_at_call 15; refine (radd_any _ _ _).mono ?_; rintro e w' ⟨rfl, rfl⟩) | (go_at_call 17; refine (rsub_any _ _ _).mono ?_; rintro e w' ⟨rfl, rfl⟩) | (go_at_call 19; refine (rmul_any _ _ _).mono ?_; rintro e w' ⟨rfl, rfl⟩) | (go_at_call 20; refine (sum_any _ _ _ hk1.out).mono ?_; rintro e w' ⟨rfl, rfl⟩) | (go_at_call 22; refine (mean_any _ _ _ hk1.out).mono ?_; rintro e w' ⟨rfl, rfl⟩) | (go_at_call 21; refine (rsum_any _ _ _ hk1.out).mono ?_; rintro e w' ⟨rfl, rfl⟩) | (go_at_call 23; refine (rmean_any _ _ _ hk1.out).mono ?_; rintro e w' ⟨rfl, rfl⟩))
    go_ret
    exact ⟨rfl, HB.out⟩

end Go.Proofs.Ytnmaipmfmafcmaa.lawSatTells
namespace Go.Proofs.Ytnmaipmfmafcmaa.lawSatTells
open Go.ChangeShapes Go.WideShapes Go.RowKit
set_option linter.unusedVariables false
theorem own : ownKnob Try.prog.godebug = none := by kernel_rfl
theorem laidOut : laidOutB Try.prog = true := by kernel_rfl
set_option maxRecDepth 100000 in
theorem lifted (os : Os) (started : os.Started) (H : Type) (enc : TypeId × Value → H) :
    ReturnsInHanded {} Try.checked os 3 .any (Rows.satTellsSpec.pre6 enc Try.prog Try.f3 Rows.satTellsRow.domain false) (Rows.satTellsSpec.post enc Try.prog Try.f3 false true false false) := by
  refine returnsInHanded_of_change (C := Try.checked) own started (by kernel_rfl) Try.func3
    (ChangeSpec.witness6 (enc := enc) (C := Try.checked) false ⟨#[], #[.int .i64 0, .int .i64 0, .slice none 0 0], []⟩ 8 (by kernel_rfl) (by kernel_rfl) (by kernel_rfl) (by kernel_rfl)) ?_
  intro W base args ds gs before hval0 hW hcnd _
  have hval : ∀ (j : Nat) t v, Try.f3.params[j]? = some t → args[j]? = some v → Value.okWide Try.prog W .any base t v := hval0
  have hW' := hW
  obtain ⟨p, q, hA0, hV, rfl, hfz, hnd⟩ := hW
  have hA : DataW.TrodAll enc Try.prog W 0 (fun _ => true) true Try.f3.params.toList args.toList ds p := hA0
  rw [Try.params3] at hA hval
  obtain ⟨v0, vs0, d0, ds0, p0, q0, hargs, rfl, rfl, h0, r0⟩ := trodAll_cons hA
  obtain ⟨v1, vs1, d1, ds1, p1, q1, rfl, rfl, rfl, h1, r1⟩ := trodAll_cons r0
  obtain ⟨v2, vs2, d2, ds2, p2, q2, rfl, rfl, rfl, h2, r2⟩ := trodAll_cons r1
  obtain ⟨rfl, rfl, rfl⟩ := trodAll_nil r2
  obtain rfl : args = #[v0, v1, v2] := by cases args; simp_all
  obtain ⟨rfl, rfl⟩ := trodVars_none hV
  obtain ⟨a0, rfl, rfl, rfl, w0⟩ := open_int Try.underlying3 (hval 0 3 v0 rfl rfl) h0
  obtain ⟨a1, rfl, rfl, rfl, w1⟩ := open_int Try.underlying3 (hval 1 3 v1 rfl rfl) h1
  obtain ⟨a2, len2, cap2, rfl⟩ := okWide_slice Try.underlying22 (hval 2 22 v2 rfl rfl)
  have k2 := h2
  have lt2 : ∀ x ∈ p2, x.block < W.heap.size := by obtain ⟨m, hm⟩ := k2; exact DataW.trod_lt m _ _ _ hm
  obtain ⟨z2, w2, y2⟩ : ∃ xs, Nj.Ints W (.slice a2 len2 cap2) xs ∧ ∀ n ∈ xs, (Lit.int .i64 n).wf = true := by
    obtain ⟨fuel, hf⟩ := h2
    exact Nj.ints_of_open Try.underlying22 Try.underlying3 (by kernel_rfl) hf
  clear hA0 hval0
  refine (walk a0 a1 _ z2 W w0 w1 w2 y2).mono fun e W' ⟨he, bel⟩ => ?_
  subst he
  exact ⟨_, rfl, _, _, _, [], _, [], hW', trodAll_mk1 (shut_bool Try.underlying4 _), (trodAll_cons_mk (shut_int Try.underlying3 w0) (trodAll_cons_mk (shut_int Try.underlying3 w1) (trodAll_cons_mk (Below.trod laidOut (by kernel_rfl) (of_decide_eq_true (by kernel_rfl)) k2 bel lt2) trodAll_mk0))), rfl, bel.frame _, fun h => by cases h⟩
theorem over : Rows.satTellsRow.holds Try.pinned (OpenSpec.ofChange Rows.satTellsSpec) :=
  OpenClaim.holds_of_wide 3 Try.f3 rfl rfl rfl rfl rfl rfl rfl ⟨rfl, rfl, rfl, rfl, rfl⟩ rfl rfl rfl rfl rfl (by kernel_rfl) Try.func3 (by kernel_rfl)
    (of_decide_eq_true (by kernel_rfl)) (by unfold Func.isWrapper; first | (rw [if_pos (by decide +kernel)]; kernel_rfl) | (rw [if_neg (by decide +kernel)]; exact ⟨rfl, rfl⟩))
    (fun os started H enc _ => lifted os started H enc)
/-- THE STATEMENT -/
theorem proved : Rows.SatTellsSaid := over
end Go.Proofs.Ytnmaipmfmafcmaa.lawSatTells
#print axioms Go.Proofs.Ytnmaipmfmafcmaa.lawSatTells.proved

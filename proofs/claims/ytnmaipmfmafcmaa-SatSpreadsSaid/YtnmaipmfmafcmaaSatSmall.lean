/-
  CONTRACT of 'small' of nightjarlaw01: it returns true, and writes nothing that was there.
-/
import Derived.Test.YtnmaipmfmafcmaaSatRef
namespace Go.Proofs.Ytnmaipmfmafcmaa.K
open Go Go.RowKit Nj

set_option maxHeartbeats 400000 in
theorem small01_any (w : World) :
    Calls Try.prog 11 #[] w fun e w' => e = .returned (.bool true) ∧ Below w.heap.size w w' := by
  have c1 : clamp (-1) = 0 := by decide
  have c2 : clamp 9223372036854775807 = 1099511627776 := by decide
  have c3 : add 3 (-5) = 3 := by decide
  have c4 : add 1099511627776 1 = 1099511627776 := by decide
  have c5 : sub 3 5 = 0 := by decide
  have c6 : sub 9 5 = 4 := by decide
  have c7 : mul 6 7 = 42 := by decide
  have c8 : mul 1099511627776 2 = 1099511627776 := by decide
  have c9 : mul 0 9223372036854775807 = 0 := by decide
  have c10 : sum [1, -2, 3] = 4 := by decide
  have c11 : sum [] = 0 := by decide
  have c12 : mean [3, 4] = 3 := by decide
  have c13 : mean [] = 0 := by decide
  go_enter Try.func11, Try.ntmps11
  go_wp2_with (first | (go_at_call 12; refine (clamp_any _ _).mono ?_; rintro e w' ⟨rfl, rfl⟩) | (go_at_call 14; refine (add_any _ _ _).mono ?_; rintro e w' ⟨rfl, rfl⟩) | (go_at_call 16; refine (sub_any _ _ _).mono ?_; rintro e w' ⟨rfl, rfl⟩)| (go_at_call 18; refine (mul_any _ _ _).mono ?_; rintro e w' ⟨rfl, rfl⟩))
  refine (sum_any _ [1, -2, 3] _ (by exact ints_alloc _ _ _ _ _ [1, -2, 3] _ _ (by simp) rfl rfl (by decide) (by decide))).mono ?_; rintro e w' ⟨rfl, rfl⟩
  go_wp2_with fail
  refine (sum_any _ [] _ (by exact ints_nil _)).mono ?_; rintro e w' ⟨rfl, rfl⟩
  go_wp2_with fail
  refine (mean_any _ [3, 4] _ (by exact ints_alloc _ _ _ _ _ [3, 4] _ _ (by simp) rfl rfl (by decide) (by decide))).mono ?_; rintro e w' ⟨rfl, rfl⟩
  go_wp2_with fail
  refine (mean_any _ [] _ (by exact ints_nil _)).mono ?_; rintro e w' ⟨rfl, rfl⟩
  go_wp2_with fail
  go_ret
  exact ⟨rfl, ((Below.refl _ _).alloc (Nat.le_refl _) _).alloc (by simp) _⟩
end Go.Proofs.Ytnmaipmfmafcmaa.K

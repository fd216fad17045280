/-
  CONTRACTS of the functions of package nightjarref01 (they return what those of sat return), and of 'small' of nightjarlaw01.
-/
import Derived.Test.YtdflajgglgbphaaSat
set_option linter.unusedVariables false
set_option linter.unusedSimpArgs false
namespace Go.Proofs.Ytdflajgglgbphaa.K
open Go Go.RowKit Nj

theorem rclamp_any (n : Int) (w : World) :
    Calls Try.prog 22 #[.int .i64 n] w fun e w' => e = .returned (.int .i64 (clamp n)) ∧ w = w' := by
  go_enter Try.func22, Try.ntmps22
  go_wp2
  all_goals go_ret
  all_goals exact ⟨ret_int (by unfold clamp; omega), rfl⟩

theorem radd_any (a b : Int) (w : World) :
    Calls Try.prog 28 #[.int .i64 a, .int .i64 b] w fun e w' => e = .returned (.int .i64 (add a b)) ∧ w = w' := by
  obtain ⟨a0, a1⟩ := clamp_bd a
  obtain ⟨b0, b1⟩ := clamp_bd b
  go_enter Try.func28, Try.ntmps28
  go_wp2_with (go_at_call 22; refine (rclamp_any _ _).mono ?_; rintro e w' ⟨rfl, rfl⟩)
  all_goals go_ret
  all_goals exact ⟨ret_int (by unfold add clamp at *; omega), rfl⟩



theorem rsum_any (v : Value) (xs : List Int) (w : World) (h : Ints w v xs) :
    Calls Try.prog 30 #[v] w fun e w' => e = .returned (.int .i64 (sum xs)) ∧ w = w' := by
  obtain ⟨hm, a, cap, rfl, hcap, hc⟩ := h
  go_enter Try.func30, Try.ntmps30
  go_wp2
  go_loop [3, 4] (fun s i => ∃ k : Nat, k ≤ xs.length ∧ i = .int .i64 k ∧ s = .int .i64 (sum (xs.take k))) (fun _ i => xs.length - (intOf i).toNat)
  case atStart => exact ⟨0, Nat.zero_le _, rfl, rfl⟩
  case round =>
    obtain ⟨k, hk, rfl, rfl⟩ := hrel
    by_cases hlt : k < xs.length
    · obtain ⟨b, o, rfl, hd⟩ := hc (by omega)
      have hcell := hd k hlt
      have HS := Lib.hid (sum_take xs k hlt)
      clear hc hd
      go_wp2_with (go_at_call 28; refine (radd_any _ _ _).mono ?_; rintro e w' ⟨rfl, rfl⟩)
      go_round
      case rel => exact ⟨k + 1, by omega, by go_num, by rw [HS.out]⟩
      case measure => simp [intOf]; omega
    · clear hc
      go_wp2
      go_ret
      exact ⟨ret_int (by rw [List.take_of_length_le (by omega)]), rfl⟩

theorem rmean_any (v : Value) (xs : List Int) (w : World) (h : Ints w v xs) :
    Calls Try.prog 29 #[v] w fun e w' => e = .returned (.int .i64 (mean xs)) ∧ w = w' := by
  have hs := Lib.hid h
  obtain ⟨hm, a, cap, rfl, hcap, hc⟩ := h
  clear hc
  obtain ⟨s0, s1⟩ := sum_bd xs
  by_cases h0 : xs.length = 0
  · have hz := Lib.hid (show mean xs = 0 by rw [List.length_eq_zero_iff.1 h0]; decide)
    have h1 : ((xs.length : Int) == 0) = true := by simp [h0]
    clear h0
    go_enter Try.func29, Try.ntmps29
    go_wp2_with (go_at_call 30; refine (rsum_any _ _ _ hs.out).mono ?_; rintro e w' ⟨rfl, rfl⟩)
    go_ret
    exact ⟨ret_int (by rw [hz.out]), rfl⟩
  · have h1 : ((xs.length : Int) == 0) = false := by rw [beq_eq_false_iff_ne]; omega
    have h2 : 1 ≤ (xs.length : Int) := by omega
    go_enter Try.func29, Try.ntmps29
    go_wp2_with (go_at_call 30; refine (rsum_any _ _ _ hs.out).mono ?_; rintro e w' ⟨rfl, rfl⟩)
    go_ret
    exact ⟨ret_int (by unfold mean; rw [show max xs.length 1 = xs.length by omega]), rfl⟩
end Go.Proofs.Ytdflajgglgbphaa.K

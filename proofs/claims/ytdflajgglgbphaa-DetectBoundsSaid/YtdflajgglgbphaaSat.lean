/-
  CONTRACTS of the functions of package sat: what each returns, for every argument; they write nothing.
-/
import Derived.Test.YtdflajgglgbphaaProg
import Derived.Test.YtdflajgglgbphaaFns
import Derived.Test.YtdflajgglgbphaaMem
set_option linter.unusedVariables false
set_option linter.unusedSimpArgs false
namespace Go.Proofs.Ytdflajgglgbphaa.K
open Go Go.RowKit Nj

theorem clamp_any (n : Int) (w : World) :
    Calls Try.prog 21 #[.int .i64 n] w fun e w' => e = .returned (.int .i64 (clamp n)) ∧ w = w' := by
  go_enter Try.func21, Try.ntmps21
  go_wp2
  all_goals go_ret
  all_goals exact ⟨ret_int (by unfold clamp; omega), rfl⟩

theorem add_any (a b : Int) (w : World) :
    Calls Try.prog 24 #[.int .i64 a, .int .i64 b] w fun e w' => e = .returned (.int .i64 (add a b)) ∧ w = w' := by
  obtain ⟨a0, a1⟩ := clamp_bd a
  obtain ⟨b0, b1⟩ := clamp_bd b
  go_enter Try.func24, Try.ntmps24
  go_wp2_with (go_at_call 21; refine (clamp_any _ _).mono ?_; rintro e w' ⟨rfl, rfl⟩)
  all_goals go_ret
  all_goals exact ⟨ret_int (by unfold add; omega), rfl⟩


theorem mul_any (a b : Int) (w : World) :
    Calls Try.prog 25 #[.int .i64 a, .int .i64 b] w fun e w' => e = .returned (.int .i64 (mul a b)) ∧ w = w' := by
  obtain ⟨a0, a1⟩ := clamp_bd a
  obtain ⟨b0, b1⟩ := clamp_bd b
  by_cases hb : clamp b = 0
  · have h1 : (clamp b == 0) = true := by simpa using hb
    have hm := Lib.hid (show mul a b = 0 by unfold mul; rw [hb]; omega)
    go_enter Try.func25, Try.ntmps25
    go_wp2_with (go_at_call 21; refine (clamp_any _ _).mono ?_; rintro e w' ⟨rfl, rfl⟩)
    go_ret
    exact ⟨ret_int (by rw [hm.out]), rfl⟩
  · have h1 : (clamp b != 0) = true := by simpa using hb
    have hp : 0 < clamp b := by omega
    by_cases h : 1099511627776 / clamp b < clamp a
    · have hm := Lib.hid (show mul a b = 1099511627776 from mul_big hp h)
      go_enter Try.func25, Try.ntmps25
      go_wp2_with (go_at_call 21; refine (clamp_any _ _).mono ?_; rintro e w' ⟨rfl, rfl⟩)
      go_ret
      exact ⟨ret_int (by rw [hm.out]), rfl⟩
    · have hle := mul_small hp (Int.not_lt.1 h)
      have hge := Int.mul_nonneg a0 b0
      have h2 : decide (1099511627776 / clamp b < clamp a) = false := by simpa using h
      have hm := Lib.hid (show mul a b = clamp a * clamp b by unfold mul; omega)
      go_enter Try.func25, Try.ntmps25
      go_wp2_with (go_at_call 21; refine (clamp_any _ _).mono ?_; rintro e w' ⟨rfl, rfl⟩)
      go_ret
      exact ⟨ret_int (by rw [hm.out]), rfl⟩

theorem sum_any (v : Value) (xs : List Int) (w : World) (h : Ints w v xs) :
    Calls Try.prog 26 #[v] w fun e w' => e = .returned (.int .i64 (sum xs)) ∧ w = w' := by
  obtain ⟨hm, a, cap, rfl, hcap, hc⟩ := h
  go_enter Try.func26, Try.ntmps26
  go_wp2
  go_loop [2, 7] (fun s i => ∃ k : Nat, k ≤ xs.length ∧ i = .int .i64 k ∧ s = .int .i64 (sum (xs.take k))) (fun _ i => xs.length - (intOf i).toNat)
  case atStart => exact ⟨0, Nat.zero_le _, rfl, rfl⟩
  case round =>
    obtain ⟨k, hk, rfl, rfl⟩ := hrel
    by_cases hlt : k < xs.length
    · obtain ⟨b, o, rfl, hd⟩ := hc (by omega)
      have hcell := hd k hlt
      have HS := Lib.hid (sum_take xs k hlt)
      clear hc hd
      go_wp2_with (go_at_call 24; refine (add_any _ _ _).mono ?_; rintro e w' ⟨rfl, rfl⟩)
      go_round
      case rel => exact ⟨k + 1, by omega, by go_num, by rw [HS.out]⟩
      case measure => simp [intOf]; omega
    · clear hc
      go_wp2
      go_ret
      exact ⟨ret_int (by rw [List.take_of_length_le (by omega)]), rfl⟩

theorem mean_any (v : Value) (xs : List Int) (w : World) (h : Ints w v xs) :
    Calls Try.prog 27 #[v] w fun e w' => e = .returned (.int .i64 (mean xs)) ∧ w = w' := by
  have hs := Lib.hid h
  obtain ⟨hm, a, cap, rfl, hcap, hc⟩ := h
  clear hc
  obtain ⟨s0, s1⟩ := sum_bd xs
  go_enter Try.func27, Try.ntmps27
  go_wp2_with (go_at_call 26; refine (sum_any _ _ _ hs.out).mono ?_; rintro e w' ⟨rfl, rfl⟩)
  all_goals go_ret
  · exact ⟨ret_int (by unfold mean; rw [show max xs.length 1 = 1 by omega]; simp), rfl⟩
  · exact ⟨ret_int (by unfold mean; rw [show max xs.length 1 = xs.length by omega]), rfl⟩
end Go.Proofs.Ytdflajgglgbphaa.K

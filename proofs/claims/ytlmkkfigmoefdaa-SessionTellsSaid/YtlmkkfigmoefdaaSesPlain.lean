/-
  PLAIN LAWS of right tables: no program, no memory. No condition.
-/
import Derived.Test.YtlmkkfigmoefdaaSes13
import Derived.Test.YtlmkkfigmoefdaaSes12
set_option linter.unusedVariables false
set_option linter.unusedSimpArgs false
namespace Nj
open Go
theorem up_pair : ∀ {t : List Ses}, sesUp t = true → t.Pairwise (fun a b => a.id < b.id)
  | [], _ => List.Pairwise.nil
  | [a], _ => List.pairwise_singleton _ _
  | a :: b :: l, h => by
    simp only [sesUp, Bool.and_eq_true, decide_eq_true_eq] at h
    have ih := up_pair h.2
    refine List.Pairwise.cons (fun c hc => ?_) ih
    rcases List.mem_cons.1 hc with rfl | hc
    · exact h.1
    · have := (List.pairwise_cons.1 ih).1 c hc; omega
theorem right_parts {t : List Ses} (h : sesRight t = true) : t.length ≤ 32 ∧ (∀ s ∈ t, sesFits s = true) ∧ t.Pairwise (fun a b => a.id < b.id) ∧ ∀ u, cnt t u ≤ 4 := by
  have h2 := (sesRight_iff t).1 h
  unfold sesRight at h
  simp only [Bool.and_eq_true, decide_eq_true_eq, List.all_eq_true] at h
  refine ⟨h.1, h.2.1, up_pair h.2.2.1, fun u => ?_⟩
  have := cnt_le h2.2 (Nat.le_refl _) u
  rwa [List.take_length] at this
theorem right_small {t : List Ses} (h : sesRight t = true) : SmS t := by
  obtain ⟨h1, h2, _⟩ := right_parts h
  refine ⟨by omega, fun s hs => ?_⟩
  have := fits_small (h2 s hs)
  omega
theorem fits_user {s : Ses} (h : sesFits s = true) : 1 ≤ s.user ∧ s.user ≤ 16 := by
  simp only [sesFits, sesWho, Bool.and_eq_true, decide_eq_true_eq] at h
  omega
theorem find_mem {t : List Ses} (h : t.Pairwise (fun a b => a.id < b.id)) {s : Ses} (hs : s ∈ t) : t.find? (fun x => decide (x.id = s.id)) = some s := by
  induction t with
  | nil => cases hs
  | cons a l ih =>
    obtain ⟨h1, h2⟩ := List.pairwise_cons.1 h
    by_cases e : a.id = s.id
    · rw [List.find?_cons_of_pos (by simpa using e)]
      rcases List.mem_cons.1 hs with e2 | hl
      · rw [e2]
      · have := h1 s hl; omega
    · rw [List.find?_cons_of_neg (by simpa using e)]
      rcases List.mem_cons.1 hs with e2 | hl
      · exact absurd (by rw [e2]) e
      · exact ih h2 hl
/-- how many have a user from one to k -/
def upTo (t : List Ses) (k : Nat) : Nat := (t.filter fun s => decide (1 ≤ s.user ∧ s.user ≤ (k : Int))).length
theorem upTo_zero (t : List Ses) : upTo t 0 = 0 := by
  unfold upTo
  rw [List.length_eq_zero_iff, List.filter_eq_nil_iff]
  intro s _
  simp; omega
theorem upTo_succ (k : Nat) : ∀ (t : List Ses), upTo t (k + 1) = upTo t k + cnt t ((k : Int) + 1)
  | [] => rfl
  | s :: t => by
    have ih := upTo_succ k t
    unfold upTo cnt sesOf at ih ⊢
    simp only [List.filter_cons, List.length_map] at ih ⊢
    by_cases h1 : 1 ≤ s.user ∧ s.user ≤ (k : Int)
    · rw [if_pos (by simp; omega), if_pos (by simp; omega), if_neg (by simp; omega)]
      simp only [List.length_cons]; omega
    · by_cases h2 : s.user = (k : Int) + 1
      · rw [if_pos (by simp; omega), if_neg (by simp; omega), if_pos (by simp; omega)]
        simp only [List.length_cons]; omega
      · rw [if_neg (by simp; omega), if_neg (by simp; omega), if_neg (by simp; omega)]
        exact ih
theorem upTo_all {t : List Ses} (h : ∀ s ∈ t, sesFits s = true) : upTo t 16 = t.length := by
  unfold upTo
  rw [List.filter_eq_self.2 (fun s hs => by have := fits_user (h s hs); simp; omega)]
theorem of_zero {t : List Ses} (h : ∀ s ∈ t, sesFits s = true) : sesOf t 0 = [] := by
  unfold sesOf
  rw [List.map_eq_nil_iff, List.filter_eq_nil_iff]
  intro s hs
  have := fits_user (h s hs)
  simp; omega
end Nj
namespace Go.Proofs.Ytlmkkfigmoefdaa.K
open Go Nj
theorem find_right {t : List Ses} (h : sesRight t = true) {s : Ses} (hs : s ∈ t) : sesFind t s.id = (s, true) := by
  unfold sesFind
  rw [find_mem (right_parts h).2.2.1 hs]
/-- a user's sessions, as the law looks at them -/
theorem user_row {t : List Ses} (h : sesRight t = true) (u : Int) : (sesStat t u).length = (sesOf t u).length ∧ (sesOf t u).length ≤ 4 ∧
    ∀ i (hi : i < (sesOf t u).length) (hi' : i < (sesStat t u).length), ∃ s, sesFind t (sesOf t u)[i] = (s, true) ∧ s.user = u ∧ s.status = (sesStat t u)[i] ∧ ∀ m, (hm : i = m + 1) → (sesOf t u)[m]'(by omega) < (sesOf t u)[i] := by
  refine ⟨by simp [sesStat, sesOf], (right_parts h).2.2.2 u, fun i hi hi' => ?_⟩
  obtain ⟨F, hF⟩ : ∃ F, F = t.filter fun s => decide (s.user = u) := ⟨_, rfl⟩
  have hiF : i < F.length := by rw [hF]; simpa [sesOf] using hi
  have hmem := List.mem_filter.1 (by rw [← hF]; exact List.getElem_mem hiF : F[i] ∈ t.filter fun s => decide (s.user = u))
  refine ⟨F[i], ?_, by simpa using hmem.2, ?_, ?_⟩
  · have := find_right h hmem.1
    simpa [sesOf, ← hF] using this
  · simp [sesStat, ← hF]
  · rintro m rfl
    have hp := ((right_parts h).2.2.1.filter fun s => decide (s.user = u))
    rw [← hF] at hp
    have := List.pairwise_iff_getElem.1 hp m (m + 1) (by omega) hiF (by omega)
    simpa [sesOf, ← hF] using this
end Go.Proofs.Ytlmkkfigmoefdaa.K

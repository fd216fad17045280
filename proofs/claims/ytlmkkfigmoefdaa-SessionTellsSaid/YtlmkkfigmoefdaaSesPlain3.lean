/-
  PLAIN LAWS: what an act leaves of a right table. No program, no memory.
-/
import Derived.Test.YtlmkkfigmoefdaaSesPlain2
set_option linter.unusedVariables false
set_option linter.unusedSimpArgs false
namespace Go.Proofs.Ytlmkkfigmoefdaa.K
open Go Nj
/-- what stands behind an act of kind d (0 Open, 1 Put, else Close) with a session s, on the table t -/
def After (t : List Ses) (s : Ses) (d : Int) (u : List Ses) (ok : Bool) : Prop :=
  sesRight u = true ∧ (ok = false → u = t) ∧ (ok = true → sesFind u s.id = if d = 0 ∨ d = 1 then (s, true) else (ses0, false))
theorem after_open {t : List Ses} (h : sesRight t = true) {s : Ses} {u : List Ses} {c : Int} (ho : sesOpen t s = (u, c)) :
    After t s 0 u (decide (c = 0)) ∧ (c = 0 → (sesFind t s.id).2 = false ∧ u.length = t.length + 1) ∧ (c = 0 ∨ c = 1 ∨ c = 7) := by
  have hr : sesRight u = true := by have := right_open h s; rw [ho] at this; exact this
  unfold sesOpen at ho
  split at ho
  · cases ho
    exact ⟨⟨hr, fun _ => rfl, fun e => by simp at e⟩, fun e => by simp at e, Or.inr (Or.inl rfl)⟩
  · split at ho
    · cases ho
      exact ⟨⟨hr, fun _ => rfl, fun e => by simp at e⟩, fun e => by simp at e, Or.inr (Or.inr rfl)⟩
    · cases ho
      refine ⟨⟨hr, fun e => by simp at e, fun _ => ?_⟩, fun _ => ⟨?_, by simp⟩, Or.inl rfl⟩
      · rw [if_pos (Or.inl rfl)]; exact find_of hr (by simp) rfl
      · have p := (right_parts hr).2.2.1
        rw [List.pairwise_append] at p
        rw [find_none (fun x hx => by have := p.2.2 x hx s (by simp); omega)]
theorem after_put {t : List Ses} (h : sesRight t = true) {s : Ses} {u : List Ses} {c : Bool} (hp : sesPut t s = (u, c)) :
    After t s 1 u c ∧ (c = true → (sesFind t s.id).2 = true) ∧ u.length = t.length := by
  have hr : sesRight u = true := by have := right_put h s; rw [hp] at this; exact this
  unfold sesPut at hp
  split at hp
  · rename_i k hk
    split at hp
    · cases hp
      obtain ⟨hkl, hid⟩ := at_some hk
      refine ⟨⟨hr, (fun e => by cases e), fun _ => ?_⟩, fun _ => by rw [had_at, hk]; rfl, by simp⟩
      rw [if_pos (Or.inr rfl)]
      exact find_of hr (by rw [List.mem_iff_getElem]; exact ⟨k, by simpa using hkl, by simp⟩) rfl
    · cases hp; exact ⟨⟨hr, fun _ => rfl, (fun e => by cases e)⟩, (fun e => by cases e), rfl⟩
  · cases hp; exact ⟨⟨hr, fun _ => rfl, (fun e => by cases e)⟩, (fun e => by cases e), rfl⟩
theorem after_close {t : List Ses} (h : sesRight t = true) {s : Ses} {u : List Ses} {c : Bool} {d : Int} (h0 : d ≠ 0) (h1 : d ≠ 1) (hc : sesClose t s.id = (u, c)) :
    After t s d u c ∧ c = (sesFind t s.id).2 ∧ (c = true → u.length + 1 = t.length) := by
  have hr : sesRight u = true := by have := right_close h s.id; rw [hc] at this; exact this
  have hs : sesCloseR t s.id = (u, c) := by rw [close_same h]; exact hc
  have e1 : (t.filter fun x => !decide (x.id = s.id)) = u := congrArg Prod.fst hs
  unfold sesClose at hc
  split at hc
  · rename_i k hk
    cases hc
    obtain ⟨hkl, hid⟩ := at_some hk
    refine ⟨⟨hr, (fun e => by cases e), fun _ => ?_⟩, by rw [had_at, hk]; rfl, fun _ => by rw [List.length_eraseIdx, if_pos hkl]; omega⟩
    rw [if_neg (by simp [h0, h1])]
    refine find_none fun x hx => ?_
    rw [← e1] at hx
    have := (List.mem_filter.1 hx).2
    simpa using this
  · rename_i hk
    cases hc
    exact ⟨⟨hr, fun _ => rfl, (fun e => by cases e)⟩, (by rw [had_at, hk]; rfl), (fun e => by cases e)⟩
end Go.Proofs.Ytlmkkfigmoefdaa.K

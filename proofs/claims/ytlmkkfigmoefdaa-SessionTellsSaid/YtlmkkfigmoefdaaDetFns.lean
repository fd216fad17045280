/-
  THE PLAIN FUNCTIONS OF PACKAGE detect, and plain laws about them: no program, no memory. No condition.
-/
import Derived.Test.YtlmkkfigmoefdaaFns
set_option linter.unusedVariables false
set_option linter.unusedSimpArgs false
namespace Nj
/-- a heartbeat -/
structure Bt where
  seq : Int
  at_ : Int
  deriving DecidableEq
def btMay (b : Bt) : Bool := decide (0 ≤ b.seq) && (decide (b.seq ≤ 1073741824) && (decide (0 ≤ b.at_) && decide (b.at_ ≤ 1099511627776)))
def btBehind (b ahead : Bt) : Bool := btMay b && (decide (ahead.seq < b.seq) && decide (ahead.at_ ≤ b.at_))
/-- from the second one on, each stands behind the one ahead of it -/
def btChain : Bt → List Bt → Bool
  | _, [] => true
  | a, b :: l => btBehind b a && btChain b l
def btRight : List Bt → Bool
  | [] => false
  | a :: l => decide (l.length < 8) && (btMay a && btChain a l)
theorem chain_iff (a : Bt) (l : List Bt) : btChain a l = true ↔ ∀ k (h : k + 1 < (a :: l).length), btBehind (a :: l)[k + 1] (a :: l)[k] = true := by
  induction l generalizing a with
  | nil => simp [btChain]
  | cons b l ih =>
    simp only [btChain, Bool.and_eq_true, ih b]
    constructor
    · rintro ⟨h0, h1⟩ k hk
      cases k with
      | zero => exact h0
      | succ k => exact h1 k (by simpa using hk)
    · intro h
      exact ⟨h 0 (by simp), fun k hk => h (k + 1) (by simpa using hk)⟩
theorem btRight_iff (l : List Bt) : btRight l = true ↔ ∃ h : 0 < l.length, l.length ≤ 8 ∧ btMay l[0] = true ∧ ∀ k (h : k + 1 < l.length), btBehind l[k + 1] l[k] = true := by
  cases l with
  | nil => simp [btRight]
  | cons a l =>
    simp only [btRight, Bool.and_eq_true, decide_eq_true_eq, chain_iff]
    constructor
    · rintro ⟨h1, h2, h3⟩; exact ⟨by simp, by simp; omega, h2, h3⟩
    · rintro ⟨_, h1, h2, h3⟩; exact ⟨by simp at h1; omega, h2, h3⟩
/-- the last one -/
def btLast (l : List Bt) : Bt := l.getLast?.getD (Bt.mk 0 0)
/-- a beat, laid behind the others -/
def btBeat (l : List Bt) (seq now : Int) : List Bt × Bool :=
  if btBehind (Bt.mk seq now) (btLast l) = true then ((l ++ [Bt.mk seq now]).drop (l.length + 1 - 8), true) else (l, false)
def btAwaited (l : List Bt) : List Int := l.map fun b => add b.at_ (mul 4 ((btLast l).seq - b.seq))
def btDeadline (l : List Bt) : Int :=
  max (min (sum [mean (btAwaited l), 4, 6]) (add (btLast l).at_ 40)) (add (btLast l).at_ 1)
theorem last_get (l : List Bt) (h : 0 < l.length) : btLast l = l[l.length - 1] := by
  unfold btLast
  rw [List.getLast?_eq_getElem?, List.getElem?_eq_getElem (by omega)]; rfl
theorem right_all {l : List Bt} (h : btRight l = true) : ∀ i (hi : i < l.length), btMay l[i] = true := by
  obtain ⟨h0, h8, hm, hb⟩ := (btRight_iff l).1 h
  intro i hi
  cases i with
  | zero => exact hm
  | succ i =>
    have := hb i hi
    unfold btBehind at this
    simp only [Bool.and_eq_true] at this
    exact this.1
theorem may_iff (b : Bt) : btMay b = true ↔ 0 ≤ b.seq ∧ b.seq ≤ 1073741824 ∧ 0 ≤ b.at_ ∧ b.at_ ≤ 1099511627776 := by
  simp [btMay]
theorem right_pos {l : List Bt} (h : btRight l = true) : 0 < l.length ∧ l.length ≤ 8 := by
  obtain ⟨h0, h8, _⟩ := (btRight_iff l).1 h
  exact ⟨h0, h8⟩
theorem right_last {l : List Bt} (h : btRight l = true) : 0 ≤ (btLast l).seq ∧ (btLast l).seq ≤ 1073741824 ∧ 0 ≤ (btLast l).at_ ∧ (btLast l).at_ ≤ 1099511627776 := by
  rw [last_get l (right_pos h).1]
  exact (may_iff _).1 (right_all h _ _)
theorem behind_iff (b a : Bt) : btBehind b a = true ↔ (0 ≤ b.seq ∧ b.seq ≤ 1073741824 ∧ 0 ≤ b.at_ ∧ b.at_ ≤ 1099511627776) ∧ a.seq < b.seq ∧ a.at_ ≤ b.at_ := by
  simp only [btBehind, Bool.and_eq_true, may_iff, decide_eq_true_eq]
end Nj

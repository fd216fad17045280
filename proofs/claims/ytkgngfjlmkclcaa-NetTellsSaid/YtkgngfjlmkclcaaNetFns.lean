/-
  THE PLAIN FUNCTIONS OF PACKAGE net, and plain laws about them: no program, no memory. No condition.
-/
set_option linter.unusedVariables false
set_option linter.unusedSimpArgs false
namespace Nj
/-- a datagram: from, to, its bytes -/
structure Dg where
  fr : Int
  tt : Int
  bs : List Int
  deriving DecidableEq
/-- those that wait, and how many were lost -/
structure Nw where
  l : List Dg
  g : Int
/-- which place is meant -/
def ntPlace (k : Int) (m : Nat) : Nat := (k % (m : Int)).toNat
theorem ntPlace_lt (k : Int) {m : Nat} (h : 0 < m) : ntPlace k m < m := by
  unfold ntPlace
  have h1 := Int.emod_nonneg k (show (m : Int) ≠ 0 by omega)
  have h2 := Int.emod_lt_of_pos k (show (0 : Int) < m by omega)
  omega
/-- one more waits -/
def ntSend1 (n : Nw) (d : Dg) : Nw := if n.l.length < 64 then ⟨n.l ++ [d], n.g⟩ else ⟨n.l.drop 1 ++ [d], n.g + 1⟩
def ntSend (n : Nw) (ds : List Dg) : Nw := ds.foldl ntSend1 n
def ntTake (n : Nw) (k : Int) : Nw := ⟨n.l.eraseIdx (ntPlace k n.l.length), n.g⟩
theorem send1_len (n : Nw) (d : Dg) (h : n.l.length ≤ 64) : (ntSend1 n d).l.length ≤ 64 := by unfold ntSend1; split <;> simp <;> omega
theorem send1_gone (n : Nw) (d : Dg) : n.g ≤ (ntSend1 n d).g ∧ (ntSend1 n d).g ≤ n.g + 1 := by unfold ntSend1; split <;> (simp only; omega)
theorem send1_count (n : Nw) (d : Dg) (h : n.l.length ≤ 64) : ((ntSend1 n d).l.length : Int) + (ntSend1 n d).g = n.l.length + n.g + 1 := by unfold ntSend1; split <;> simp <;> omega
theorem send_snoc (n : Nw) (ds : List Dg) (d : Dg) : ntSend n (ds ++ [d]) = ntSend1 (ntSend n ds) d := by simp [ntSend, List.foldl_append]
theorem send_step (n : Nw) (ds : List Dg) (k : Nat) (h : k < ds.length) : ntSend n (ds.take (k + 1)) = ntSend1 (ntSend n (ds.take k)) ds[k] := by
  rw [List.take_succ_eq_append_getElem h, send_snoc]
theorem send_len (n : Nw) (h : n.l.length ≤ 64) (ds : List Dg) : (ntSend n ds).l.length ≤ 64 := by
  induction ds generalizing n with
  | nil => exact h
  | cons d ds ih => exact ih _ (send1_len n d h)
theorem send_gone (n : Nw) (ds : List Dg) : n.g ≤ (ntSend n ds).g ∧ (ntSend n ds).g ≤ n.g + ds.length := by
  induction ds generalizing n with
  | nil => simp [ntSend]
  | cons d ds ih =>
    have h1 := send1_gone n d
    have h2 := ih (ntSend1 n d)
    simp only [ntSend, List.foldl_cons, List.length_cons] at *
    omega
theorem send_count (n : Nw) (h : n.l.length ≤ 64) (ds : List Dg) : ((ntSend n ds).l.length : Int) + (ntSend n ds).g = n.l.length + n.g + ds.length := by
  induction ds generalizing n with
  | nil => simp [ntSend]
  | cons d ds ih =>
    have h1 := send1_count n d h
    have h2 := ih (ntSend1 n d) (send1_len n d h)
    simp only [ntSend, List.foldl_cons, List.length_cons] at *
    omega
/-- into an empty net: the last 64 wait -/
theorem send_empty (ds : List Dg) : ∀ k, k ≤ ds.length → ntSend ⟨[], 0⟩ (ds.take k) = ⟨(ds.take k).drop (k - 64), ((k - 64 : Nat) : Int)⟩ := by
  intro k
  induction k with
  | zero => intro _; simp [ntSend]
  | succ k ih =>
    intro hk
    rw [send_step _ _ _ (by omega), ih (by omega), List.take_succ_eq_append_getElem (by omega)]
    have hl : (ds.take k).length = k := by rw [List.length_take]; omega
    unfold ntSend1
    simp only [List.length_drop, hl]
    by_cases h : k < 64
    · rw [if_pos (by omega)]
      simp only [show k - 64 = 0 by omega, show k + 1 - 64 = 0 by omega, List.drop_zero]
    · rw [if_neg (by omega)]
      rw [List.drop_drop, List.drop_append_of_le_length (by omega), show k - 64 + 1 = k + 1 - 64 by omega]
      congr 1
      omega
theorem take_len (n : Nw) (k : Int) (h : 0 < n.l.length) : (ntTake n k).l.length + 1 = n.l.length := by
  have := ntPlace_lt k h
  unfold ntTake
  simp only
  rw [List.length_eraseIdx, if_pos this]; omega
end Nj

/-
  THE PLAIN FUNCTIONS OF PACKAGE sat, and plain laws about them: no program, no memory. No condition.
-/
set_option linter.unusedVariables false
set_option linter.unusedSimpArgs false
namespace Nj

theorem take_snoc {α : Type} (l : List α) (k : Nat) (h : k < l.length) : l.take (k + 1) = l.take k ++ [l[k]] := List.take_succ_eq_append_getElem h

def clamp (n : Int) : Int := min (max n 0) 1099511627776
def add (a b : Int) : Int := min (clamp a + clamp b) 1099511627776
def sub (a b : Int) : Int := max (clamp a - clamp b) 0
def mul (a b : Int) : Int := min (clamp a * clamp b) 1099511627776
def sum (l : List Int) : Int := l.foldl add 0
def mean (l : List Int) : Int := sum l / max l.length 1

theorem clamp_bd (n : Int) : 0 ≤ clamp n ∧ clamp n ≤ 1099511627776 := by unfold clamp; omega
theorem clamp_id {n : Int} (h0 : 0 ≤ n) (h1 : n ≤ 1099511627776) : clamp n = n := by unfold clamp; omega
theorem clamp_clamp (n : Int) : clamp (clamp n) = clamp n := by unfold clamp; omega
theorem clamp_mono {a b : Int} (h : a ≤ b) : clamp a ≤ clamp b := by unfold clamp; omega
theorem add_bd (a b : Int) : 0 ≤ add a b ∧ add a b ≤ 1099511627776 := by have := clamp_bd a; have := clamp_bd b; unfold add; omega
theorem sub_bd (a b : Int) : 0 ≤ sub a b ∧ sub a b ≤ 1099511627776 := by have := clamp_bd a; have := clamp_bd b; unfold sub; omega
theorem mul_bd (a b : Int) : 0 ≤ mul a b ∧ mul a b ≤ 1099511627776 := by
  have h := Int.mul_nonneg (clamp_bd a).1 (clamp_bd b).1
  unfold mul; omega
theorem add_comm' (a b : Int) : add a b = add b a := by unfold add; omega
theorem mul_comm' (a b : Int) : mul a b = mul b a := by unfold mul; rw [Int.mul_comm]
theorem add_assoc' (a b c : Int) : add (add a b) c = add a (add b c) := by
  rcases add_bd a b with ⟨h1, h2⟩
  rcases add_bd b c with ⟨h3, h4⟩
  have e1 : add (add a b) c = min (add a b + clamp c) 1099511627776 := by show min (clamp (add a b) + clamp c) _ = _; rw [clamp_id h1 h2]
  have e2 : add a (add b c) = min (clamp a + add b c) 1099511627776 := by show min (clamp a + clamp (add b c)) _ = _; rw [clamp_id h3 h4]
  rw [e1, e2]
  have := clamp_bd a; have := clamp_bd b; have := clamp_bd c
  unfold add; omega
theorem add_clamp (a b : Int) : add (clamp a) (clamp b) = add a b := by unfold add; rw [clamp_clamp, clamp_clamp]
theorem sub_clamp (a b : Int) : sub (clamp a) (clamp b) = sub a b := by unfold sub; rw [clamp_clamp, clamp_clamp]
theorem mul_clamp (a b : Int) : mul (clamp a) (clamp b) = mul a b := by unfold mul; rw [clamp_clamp, clamp_clamp]
theorem add_mono {a b : Int} (c : Int) (h : a ≤ b) : add a c ≤ add b c := by have := clamp_mono h; unfold add; omega
theorem mul_mono {a b : Int} (c : Int) (h : a ≤ b) : mul a c ≤ mul b c := by
  have h1 := clamp_mono h
  have h2 := Int.mul_le_mul_of_nonneg_right h1 (clamp_bd c).1
  unfold mul; omega
/-- the program's test at Mul -/
theorem mul_big {x y : Int} (hy : 0 < y) (h : 1099511627776 / y < x) : min (x * y) 1099511627776 = 1099511627776 := by
  have := (Int.ediv_lt_iff_lt_mul hy).1 h
  omega
theorem mul_small {x y : Int} (hy : 0 < y) (h : x ≤ 1099511627776 / y) : x * y ≤ 1099511627776 := (Int.le_ediv_iff_mul_le hy).1 h

theorem mul_add' (a b c : Int) : mul a (add b c) = add (mul a b) (mul a c) := by
  have ea : ∀ x y, clamp (add x y) = add x y := fun x y => clamp_id (add_bd x y).1 (add_bd x y).2
  have em : ∀ x y, clamp (mul x y) = mul x y := fun x y => clamp_id (mul_bd x y).1 (mul_bd x y).2
  have l : mul a (add b c) = min (clamp a * add b c) 1099511627776 := by show min (clamp a * clamp (add b c)) _ = _; rw [ea]
  have r : add (mul a b) (mul a c) = min (mul a b + mul a c) 1099511627776 := by show min (clamp (mul a b) + clamp (mul a c)) _ = _; rw [em, em]
  rw [l, r]
  unfold mul add
  have hx := clamp_bd a; have hy := clamp_bd b; have hz := clamp_bd c
  generalize clamp a = x at *
  generalize clamp b = y at *
  generalize clamp c = z at *
  by_cases x0 : x = 0
  · subst x0; simp only [Int.zero_mul]; omega
  · have x1 : 1 ≤ x := by omega
    have p1 : y ≤ x * y := by have := Int.mul_le_mul_of_nonneg_right x1 hy.1; omega
    have p2 : z ≤ x * z := by have := Int.mul_le_mul_of_nonneg_right x1 hz.1; omega
    by_cases h : y + z ≤ 1099511627776
    · rw [show min (y + z) 1099511627776 = y + z by omega, Int.mul_add]
      omega
    · rw [show min (y + z) 1099511627776 = 1099511627776 by omega]
      omega
theorem mul_one' (a : Int) : mul a 1 = clamp a := by
  have := clamp_bd a
  have e : clamp 1 = 1 := by decide
  unfold mul; rw [e]; omega
theorem mul_zero' (a : Int) : mul a 0 = 0 := by
  have e : clamp 0 = 0 := by decide
  unfold mul; rw [e]; omega
theorem mul_two' (a : Int) : mul a 2 = add a a := by
  have := clamp_bd a
  have e : clamp 2 = 2 := by decide
  unfold mul add; rw [e]; omega

theorem foldl_add (l : List Int) : ∀ a : Int, 0 ≤ a → a ≤ 1099511627776 → l.foldl add a = add a (l.foldl add 0) := by
  induction l with
  | nil => intro a h0 h1; simp only [List.foldl_nil]; unfold add; rw [clamp_id h0 h1, show clamp 0 = 0 by decide]; omega
  | cons x l ih =>
    intro a h0 h1
    simp only [List.foldl_cons]
    rw [ih _ (add_bd a x).1 (add_bd a x).2, ih (add 0 x) (add_bd 0 x).1 (add_bd 0 x).2, ← add_assoc', ← add_assoc']
    congr 1
    unfold add; have := clamp_bd a; have := clamp_bd x
    rw [show clamp 0 = 0 by decide, clamp_id (n := min (clamp a + 0) 1099511627776) (by omega) (by omega)]
    omega
theorem sum_bd (l : List Int) : 0 ≤ sum l ∧ sum l ≤ 1099511627776 := by
  cases l with
  | nil => exact ⟨by decide, by decide⟩
  | cons x l => unfold sum; rw [List.foldl_cons, foldl_add _ _ (add_bd 0 x).1 (add_bd 0 x).2]; exact add_bd _ _
theorem sum_snoc (l : List Int) (x : Int) : sum (l ++ [x]) = add (sum l) x := by simp [sum, List.foldl_append]
theorem sum_take (l : List Int) (k : Nat) (h : k < l.length) : sum (l.take (k + 1)) = add (sum (l.take k)) l[k] := by
  rw [take_snoc l k h, sum_snoc]
theorem sum_append (l m : List Int) : sum (l ++ m) = add (sum l) (sum m) := by
  have h := foldl_add m (sum l) (sum_bd l).1 (sum_bd l).2
  unfold sum at *; rw [List.foldl_append]; exact h
theorem add_zero_sum (l : List Int) : add (sum l) 0 = sum l := by
  have := sum_bd l
  unfold add; rw [clamp_id this.1 this.2, show clamp 0 = 0 by decide]; omega
theorem sum_reverse (l : List Int) : sum l.reverse = sum l := by
  induction l with
  | nil => rfl
  | cons x l ih =>
    rw [List.reverse_cons, sum_snoc, ih, show (x :: l) = [x] ++ l from rfl, sum_append, add_comm']
    have e : sum [x] = add 0 x := rfl
    rw [e, show add (add 0 x) (sum l) = add (add x 0) (sum l) by rw [add_comm' 0 x], add_assoc', add_comm' 0 (sum l), add_zero_sum]
theorem mean_bd (l : List Int) : 0 ≤ mean l ∧ mean l ≤ 1099511627776 := by
  have h := sum_bd l
  unfold mean
  refine ⟨Int.ediv_nonneg h.1 (by omega), ?_⟩
  exact Int.le_trans (Int.ediv_le_self _ h.1) h.2
theorem mean_le_sum (l : List Int) : mean l ≤ sum l := Int.ediv_le_self _ (sum_bd l).1

/-- few numbers that are not great: a sum is the plain sum of what is in range -/
def plus (l : List Int) : Int := l.foldl (fun s x => s + clamp x) 0
theorem plus_snoc (l : List Int) (x : Int) : plus (l ++ [x]) = plus l + clamp x := by simp [plus, List.foldl_append]
/-- a sum lies between 'how many times the least' and 'how many times the greatest', if these are small -/
theorem sum_between (l : List Int) (lo hi : Int) (h0 : 0 ≤ lo) (hh : hi ≤ 1073741824) (hl : l.length ≤ 100) (h : ∀ x ∈ l, lo ≤ clamp x ∧ clamp x ≤ hi) :
    lo * l.length ≤ sum l ∧ sum l ≤ hi * l.length := by
  have key : ∀ k, k ≤ l.length → lo * (k : Int) ≤ sum (l.take k) ∧ sum (l.take k) ≤ hi * (k : Int) := by
    intro k
    induction k with
    | zero => intro _; simp [sum]
    | succ k ih =>
      intro hk
      obtain ⟨i1, i2⟩ := ih (by omega)
      have hx := h l[k] (List.getElem_mem _)
      have s := sum_bd (l.take k)
      rw [sum_take l k hk]
      unfold add
      rw [clamp_id s.1 s.2]
      have e1 : lo * ((k + 1 : Nat) : Int) = lo * k + lo := by rw [show ((k + 1 : Nat) : Int) = (k : Int) + 1 from rfl, Int.mul_add]; omega
      have e2 : hi * ((k + 1 : Nat) : Int) = hi * k + hi := by rw [show ((k + 1 : Nat) : Int) = (k : Int) + 1 from rfl, Int.mul_add]; omega
      have e3 : hi * (k : Int) ≤ 1073741824 * 100 := by
        have a1 : hi * (k : Int) ≤ 1073741824 * (k : Int) := Int.mul_le_mul_of_nonneg_right hh (by omega)
        omega
      have e4 : lo * (k : Int) ≤ hi * (k : Int) := Int.mul_le_mul_of_nonneg_right (by omega) (by omega)
      rw [e1, e2]
      omega
  have := key l.length (Nat.le_refl _)
  rwa [List.take_length] at this
theorem mean_between (l : List Int) (lo hi : Int) (h0 : 0 ≤ lo) (hh : hi ≤ 1073741824) (hl : l.length ≤ 100) (h1 : 1 ≤ l.length) (h : ∀ x ∈ l, lo ≤ clamp x ∧ clamp x ≤ hi) :
    lo ≤ mean l ∧ mean l ≤ hi := by
  obtain ⟨a, b⟩ := sum_between l lo hi h0 hh hl h
  unfold mean
  rw [show max l.length 1 = l.length by omega]
  exact ⟨(Int.le_ediv_iff_mul_le (by omega)).2 a, Int.ediv_le_of_le_mul (by omega) b⟩
theorem mean_like (a : Int) (n : Nat) (h1 : 1 ≤ n) (h2 : n ≤ 100) (h : clamp a ≤ 1073741824) : mean (List.replicate n a) = clamp a := by
  have := mean_between (List.replicate n a) (clamp a) (clamp a) (clamp_bd a).1 h (by simpa using h2) (by simpa using h1) (fun x hx => by rw [List.eq_of_mem_replicate hx]; omega)
  omega
theorem mean_mono2 {a b : Int} (c : Int) (h : a ≤ b) : mean [a, c] ≤ mean [b, c] := by
  have e : ∀ x, sum [x, c] = add x c := by
    intro x
    show add (add 0 x) c = _
    have h0 : add 0 x = clamp x := by
      have := clamp_bd x
      have h0 : clamp 0 = 0 := by decide
      unfold add; rw [h0]; omega
    rw [h0]; unfold add; rw [clamp_clamp]
  show sum [a, c] / 2 ≤ sum [b, c] / 2
  rw [e, e]
  have := add_mono c h
  omega
theorem sub_self' (a : Int) : sub a a = 0 := by unfold sub; omega
theorem sub_zero' (a : Int) : sub a 0 = clamp a := by have := clamp_bd a; unfold sub; rw [show clamp 0 = 0 by decide]; omega
theorem sub_le {a b : Int} (h : clamp a ≤ clamp b) : sub a b = 0 := by unfold sub; omega
theorem sub_gt {a b : Int} (h : clamp b < clamp a) : sub a b ≠ 0 := by unfold sub; omega
theorem add_sub' {a b : Int} (h : clamp b < clamp a) : add (sub a b) (clamp b) = clamp a := by
  have := clamp_bd a; have := clamp_bd b; have hs := sub_bd a b
  unfold add; rw [clamp_id hs.1 hs.2, clamp_clamp]; unfold sub; omega
theorem sub_mono {a b : Int} (c : Int) (h : a ≤ b) : sub a c ≤ sub b c := by have := clamp_mono h; unfold sub; omega
theorem sub_anti {a b : Int} (c : Int) (h : a ≤ b) : sub c b ≤ sub c a := by have := clamp_mono h; unfold sub; omega
theorem sub_add' {a b : Int} (h : add a b < 1099511627776) : sub (add a b) b = clamp a := by
  have h1 := add_bd a b
  unfold sub; rw [clamp_id h1.1 h1.2]
  unfold add at *; have := clamp_bd a; have := clamp_bd b; omega
end Nj

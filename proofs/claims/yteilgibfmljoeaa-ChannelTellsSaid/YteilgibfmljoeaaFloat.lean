/-
  FLOATS THAT HOLD WHOLE NUMBERS: a whole number below 2^53 is a float64 exactly; sums of such are exact; and back. No program. No condition.
-/
import Derived.Laws.ComplexArith
set_option linter.unusedVariables false
set_option linter.unusedSimpArgs false
namespace Nj
open Go Ieee

theorem log2_shift (m k : Nat) (hm : 0 < m) : (m * 2 ^ k).log2 = m.log2 + k := by
  have hp : 0 < 2 ^ k := Nat.two_pow_pos k
  have h0 : m * 2 ^ k ≠ 0 := Nat.ne_of_gt (Nat.mul_pos hm hp)
  rw [Nat.log2_eq_iff h0]
  have h1 := Nat.log2_self_le (n := m) (by omega)
  have h2 := Nat.lt_log2_self (n := m)
  refine ⟨?_, ?_⟩
  · rw [Nat.pow_add]; exact Nat.mul_le_mul_right _ h1
  · rw [show m.log2 + k + 1 = (m.log2 + 1) + k by omega, Nat.pow_add]; exact Nat.mul_lt_mul_of_pos_right h2 hp

theorem log2_le (m : Nat) (hm : 0 < m) (h : m < 2 ^ 53) : m.log2 ≤ 52 := by
  have := (Nat.log2_lt (n := m) (k := 53) (by omega)).2 h
  omega

/-- the significand, brought to 53 digits -/
def sig (m : Nat) : Nat := m * 2 ^ (52 - m.log2)
theorem sig_bd (m : Nat) (hm : 0 < m) (h : m < 2 ^ 53) : 4503599627370496 ≤ sig m ∧ sig m < 9007199254740992 := by
  have hl := log2_le m hm h
  have h1 := Nat.log2_self_le (n := m) (by omega)
  have h2 := Nat.lt_log2_self (n := m)
  have hp : 0 < 2 ^ (52 - m.log2) := Nat.two_pow_pos _
  unfold sig
  have e1 : 2 ^ m.log2 * 2 ^ (52 - m.log2) = 4503599627370496 := by rw [← Nat.pow_add, show m.log2 + (52 - m.log2) = 52 by omega]
  have e2 : 2 ^ (m.log2 + 1) * 2 ^ (52 - m.log2) = 9007199254740992 := by rw [← Nat.pow_add, show m.log2 + 1 + (52 - m.log2) = 53 by omega]
  rw [← e1, ← e2]
  exact ⟨Nat.mul_le_mul_right _ h1, Nat.mul_lt_mul_of_pos_right h2 hp⟩

theorem cut_zero (neg : Bool) (n : Nat) : Toward.even.cut neg n 0 = n := by
  simp [Toward.cut, Nat.mod_one]
theorem cut_exact (neg : Bool) (q d : Nat) (hq : 0 < q) : Toward.even.cut neg (q * 2 ^ d) d = q := by
  have hp : 0 < 2 ^ d := Nat.two_pow_pos d
  have hl : min d ((q * 2 ^ d).log2 + 2) = d := by rw [log2_shift q d hq]; omega
  simp only [Toward.cut, hl]
  rw [Nat.one_shiftLeft, Nat.mul_div_cancel _ hp, Nat.mul_mod_left]
  simp

theorem e1 : Ieee.double.leastPlace = -1074 := by decide
theorem e2 : Ieee.double.binade = 4503599627370496 := by decide
theorem e3 : Ieee.double.infRung = 9218868437227405312 := by decide
theorem e4 : Ieee.double.signWeight = 9223372036854775808 := by decide
theorem e5 : (Ieee.double.fractionBits : Int) = 52 := by decide
theorem nearest_unfold (neg : Bool) (mag : Nat) (place last : Int) (h : mag ≠ 0) (hl : max (place + mag.log2 - 52) (-1074) = last) :
    Ieee.double.nearest neg mag place = Ieee.double.word neg (min ((last - -1074).toNat * 4503599627370496 + Toward.even.cut neg (mag <<< (place - last).toNat) (last - place).toNat) 9218868437227405312) := by
  subst hl
  unfold Format.nearest
  rw [if_neg h]
  simp only [e1, e2, e3, e5]
theorem read_unfold (x : Nat) (neg : Bool) (rung : Nat) (hn : (x / 9223372036854775808 % 2 == 1) = neg) (hr : x % 9223372036854775808 = rung) (h1 : ¬ rung < 4503599627370496) (h2 : rung < 9218868437227405312) :
    Ieee.double.read x = .number neg (4503599627370496 + rung % 4503599627370496) (-1074 + (rung / 4503599627370496 - 1 : Nat)) := by
  subst hn hr
  unfold Format.read
  simp only [e1, e2, e3, e4, if_neg h1, if_pos h2]

/-- the rung of a whole number -/
def rung (l s : Nat) : Nat := (l + 1022) * 4503599627370496 + s
theorem rung_min (l s : Nat) (hl : l ≤ 52) (h : s < 9007199254740992) : min ((l + 1022) * 4503599627370496 + s) 9218868437227405312 = rung l s := by unfold rung; omega
theorem rung_facts (l s : Nat) (hl : l ≤ 52) (h0 : 4503599627370496 ≤ s) (h : s < 9007199254740992) : rung l s < 9218868437227405312 ∧ ¬ rung l s < 4503599627370496 ∧ 4503599627370496 + rung l s % 4503599627370496 = s ∧ rung l s / 4503599627370496 - 1 = l + 1022 := by unfold rung; omega
theorem word_facts (neg : Bool) (r : Nat) (h : r < 9218868437227405312) : (Ieee.double.word neg r / 9223372036854775808 % 2 == 1) = neg ∧ Ieee.double.word neg r % 9223372036854775808 = r := by
  unfold Format.word; rw [e4]
  cases neg
  · simp; omega
  · simp; omega

theorem nearest_exact (neg : Bool) (m k : Nat) (hm : 0 < m) (h : m < 2 ^ 53) :
    Ieee.double.nearest neg (m * 2 ^ k) (-(k : Int)) = Ieee.double.word neg (rung m.log2 (sig m)) := by
  have hl := log2_le m hm h
  have hs := sig_bd m hm h
  have hp : 0 < 2 ^ k := Nat.two_pow_pos k
  have h0 : m * 2 ^ k ≠ 0 := Nat.ne_of_gt (Nat.mul_pos hm hp)
  rw [nearest_unfold neg (m * 2 ^ k) (-(k : Int)) ((m.log2 : Int) - 52) h0 (by rw [log2_shift m k hm]; omega)]
  have hk : Toward.even.cut neg ((m * 2 ^ k) <<< (-(k : Int) - ((m.log2 : Int) - 52)).toNat) ((m.log2 : Int) - 52 - -(k : Int)).toNat = sig m := by
    by_cases hc : k + m.log2 ≤ 52
    · rw [show (-(k : Int) - ((m.log2 : Int) - 52)).toNat = 52 - m.log2 - k by omega, show ((m.log2 : Int) - 52 - -(k : Int)).toNat = 0 by omega, cut_zero, Nat.shiftLeft_eq, Nat.mul_assoc, ← Nat.pow_add,
        show k + (52 - m.log2 - k) = 52 - m.log2 by omega]
      rfl
    · rw [show (-(k : Int) - ((m.log2 : Int) - 52)).toNat = 0 by omega, show ((m.log2 : Int) - 52 - -(k : Int)).toNat = m.log2 + k - 52 by omega, Nat.shiftLeft_zero]
      have hq : m * 2 ^ k = sig m * 2 ^ (m.log2 + k - 52) := by
        unfold sig
        rw [Nat.mul_assoc, ← Nat.pow_add, show 52 - m.log2 + (m.log2 + k - 52) = k by omega]
      rw [hq]
      exact cut_exact neg (sig m) _ (by omega)
  rw [hk, show ((m.log2 : Int) - 52 - -1074).toNat = m.log2 + 1022 by omega, rung_min _ _ hl hs.2]

theorem read_word (neg : Bool) (m : Nat) (hm : 0 < m) (h : m < 2 ^ 53) :
    Ieee.double.read (Ieee.double.word neg (rung m.log2 (sig m))) = .number neg (sig m) ((m.log2 : Int) - 52) := by
  have hl := log2_le m hm h
  have hs := sig_bd m hm h
  obtain ⟨r1, r2, r3, r4⟩ := rung_facts m.log2 (sig m) hl hs.1 hs.2
  obtain ⟨w1, w2⟩ := word_facts neg _ r1
  rw [read_unfold _ neg _ w1 w2 r2 r1, r3, r4, show (-1074 : Int) + ((m.log2 + 1022 : Nat) : Int) = (m.log2 : Int) - 52 by omega]

theorem read_zero : Ieee.double.read 0 = .number false 0 (-(1074 : Nat) : Int) := by
  unfold Format.read
  simp [e1, e2]
/-- the float of a whole number -/
abbrev enc (n : Int) : Nat := floatOfInt .f64 n
theorem enc_zero : enc 0 = 0 := by simp [enc, floatOfInt, FloatKind.nearest, FloatKind.encode, Format.write, Format.nearest, Format.word]
theorem enc_eq (n : Int) (h0 : n ≠ 0) (h : n.natAbs < 2 ^ 53) : enc n = Ieee.double.word (decide (n < 0)) (rung n.natAbs.log2 (sig n.natAbs)) := by
  have := nearest_exact (decide (n < 0)) n.natAbs 0 (by omega) h
  simpa [floatOfInt, FloatKind.nearest, FloatKind.encode, FloatKind.format, Format.write] using this
/-- what a whole number's float reads as: a number of the same value, with a place of at most 0 -/
theorem read_enc (n : Int) (h : n.natAbs < 2 ^ 53) : ∃ neg m k, Ieee.double.read (enc n) = .number neg m (-(k : Nat) : Int) ∧ (∀ j : Nat, Ieee.signed neg m j = n * 2 ^ (k + j)) ∧ (neg = decide (n < 0)) := by
  by_cases h0 : n = 0
  · subst h0
    refine ⟨false, 0, 1074, by rw [enc_zero]; exact read_zero, fun j => ?_, by decide⟩
    simp [Ieee.signed]
  · refine ⟨decide (n < 0), sig n.natAbs, 52 - n.natAbs.log2, ?_, fun j => ?_, rfl⟩
    · rw [enc_eq n h0 h, read_word _ _ (by omega) h]
      have := log2_le n.natAbs (by omega) h
      rw [show ((n.natAbs.log2 : Int) - 52) = (-((52 - n.natAbs.log2 : Nat) : Int)) by omega]
    · have e : ((sig n.natAbs) <<< j : Nat) = n.natAbs * 2 ^ (52 - n.natAbs.log2 + j) := by
        rw [Nat.shiftLeft_eq]; unfold sig; rw [Nat.mul_assoc, ← Nat.pow_add]
      unfold Ieee.signed
      rw [e]
      by_cases hn : n < 0
      · rw [if_pos (by simpa using hn)]
        push_cast
        rw [show (n.natAbs : Int) = -n by omega, Int.neg_mul, Int.neg_neg]
      · rw [if_neg (by simpa using hn)]
        push_cast
        rw [show (n.natAbs : Int) = n by omega]

theorem write_scaled (n : Int) (k : Nat) (neg : Bool) (h : n.natAbs < 2 ^ 53) (hneg : n ≠ 0 → neg = decide (n < 0)) (hz : n = 0 → neg = false) :
    Ieee.double.write (.number neg (n * 2 ^ k).natAbs (-(k : Int))) = enc n := by
  by_cases h0 : n = 0
  · subst h0
    rw [hz rfl, enc_zero]
    simp [Format.write, Format.nearest, Format.word]
  · rw [hneg h0, enc_eq n h0 h]
    have e : (n * 2 ^ k).natAbs = n.natAbs * 2 ^ k := by rw [Int.natAbs_mul, Int.natAbs_pow]; rfl
    rw [e]
    exact nearest_exact (decide (n < 0)) n.natAbs k (by omega) h

/-- A SUM OF TWO WHOLE NUMBERS IS EXACT. -/
theorem add_enc (a b : Int) (ha : a.natAbs < 2 ^ 53) (hb : b.natAbs < 2 ^ 53) (hab : (a + b).natAbs < 2 ^ 53) : floatBits .add .f64 (enc a) (enc b) = some (enc (a + b)) := by
  obtain ⟨s, m, i, ra, sa, na⟩ := read_enc a ha
  obtain ⟨t, n, j, rb, sb, nb⟩ := read_enc b hb
  show Ieee.double.add (enc a) (enc b) = _
  unfold Format.add
  rw [ra, rb]
  simp only [Datum.sum]
  obtain ⟨k, hk⟩ : ∃ k : Nat, min (-(i : Int)) (-(j : Int)) = -(k : Int) := ⟨max i j, by omega⟩
  rw [hk, sa, sb]
  have e1 : i + (-(i : Int) - -(k : Int)).toNat = k := by omega
  have e2 : j + (-(j : Int) - -(k : Int)).toNat = k := by omega
  rw [e1, e2, ← Int.add_mul]
  simp only [Option.map_some, Option.some.injEq]
  have hp : (0 : Int) < 2 ^ k := Int.pow_pos (by decide)
  refine write_scaled (a + b) k _ hab (fun h0 => ?_) (fun h0 => ?_)
  · have hne : (a + b) * 2 ^ k ≠ 0 := Int.mul_ne_zero h0 (by omega)
    rw [if_neg hne]
    by_cases hlt : a + b < 0
    · have := Int.mul_neg_of_neg_of_pos hlt hp
      simp [hlt, this]
    · have := Int.mul_nonneg (Int.not_lt.1 hlt) (Int.le_of_lt hp)
      simp [hlt]; omega
  · have hz : (a + b) * 2 ^ k = 0 := by rw [h0]; simp
    rw [if_pos hz, na, nb]
    by_cases h1 : a < 0
    · have : ¬ b < 0 := by omega
      simp [this]
    · simp [h1]

theorem int_enc (n : Int) (h : n.natAbs < 2 ^ 53) : floatToIntVal .f64 (enc n) .i64 = some n := by
  obtain ⟨s, m, i, ra, sa, na⟩ := read_enc n h
  have hp : 0 < 2 ^ i := Nat.two_pow_pos i
  have hd : (FloatKind.f64.decode (enc n)).toInt .zero = some n := by
    show (Ieee.double.read (enc n)).toInt .zero = some n
    rw [ra]
    simp only [Datum.toInt, Datum.integral]
    rw [show (-(-(i : Int))).toNat = i by omega, show (-(i : Int)).toNat = 0 by omega, Nat.shiftLeft_zero]
    have h1 := sa 0
    have hm : m = n.natAbs * 2 ^ i := by
      have h2 : (m : Int).natAbs = (n * 2 ^ i).natAbs := by
        have h3 := congrArg Int.natAbs h1
        rw [Nat.add_zero] at h3
        unfold Ieee.signed at h3
        rw [Nat.shiftLeft_zero] at h3
        split at h3
        · rw [Int.natAbs_neg] at h3; exact h3
        · exact h3
      rw [Int.natAbs_mul, Int.natAbs_pow] at h2
      exact h2
    have hc : Toward.zero.cut s m i = n.natAbs := by
      by_cases h0 : n.natAbs = 0
      · rw [hm, h0]; simp [Toward.cut]
      · have hl : min i ((n.natAbs * 2 ^ i).log2 + 2) = i := by rw [log2_shift _ i (by omega)]; omega
        rw [hm]
        simp only [Toward.cut, hl]
        rw [Nat.one_shiftLeft, Nat.mul_div_cancel _ hp]
        simp
    rw [hc, na]
    unfold Ieee.signed
    rw [Nat.shiftLeft_zero]
    by_cases hn : n < 0
    · rw [if_pos (by simpa using hn)]; congr 1; omega
    · rw [if_neg (by simpa using hn)]; congr 1; omega
  unfold floatToIntVal
  rw [hd]
  have e1 : IntKind.i64.min = -9223372036854775808 := by decide
  have e2 : IntKind.i64.max = 9223372036854775807 := by decide
  simp only [e1, e2]
  rw [if_pos (by omega)]
end Nj

/-
  CONTRACT of nightjarlaw18.Few.
-/
import Derived.Test.YtlmkkfigmoefdaaSes14
import Derived.Deep.DeepCutAuto
set_option linter.unusedVariables false
set_option linter.unusedSimpArgs false
namespace Nj
def small50 (s : Ses) : Bool := decide (s.beats.length ≤ 50) && decide (s.ch.send.fl.length ≤ 50)
def fewB (t : List Ses) : Bool := (t.take 100).all small50 && decide (t.length ≤ 60)
end Nj
namespace Go.Proofs.Ytlmkkfigmoefdaa.K
open Go Go.RowKit Nj

set_option maxRecDepth 100000 in
set_option maxHeartbeats 4000000 in
theorem few_any (v : Value) (l : List Sv) (w : World) (h : Sess w v l) :
    Calls Try.prog 9 #[v] w fun e w' => e = .returned (.bool (fewB (cons l))) ∧ Hid (Below w.heap.size w w') := by
  have HS := Lib.hid h
  have hm : l.length ≤ 9223372036854775807 := h.1.1
  obtain ⟨p, cap, rfl, hcap⟩ := sess_shape h
  clear h
  have hcl := Lib.hid (show (cons l).length = l.length by simp [cons])
  go_enter Try.func9, Try.ntmps9
  go_wp2_with fail
  go_loopw [3] (fun i wr => ∃ k : Nat, k ≤ l.length ∧ k ≤ 100 ∧ i = .int .i64 k ∧ ((cons l).take k).all small50 = true ∧ w = wr) (fun i _ => l.length - (intOf i).toNat)
  case atStart => exact ⟨0, by omega, by omega, rfl, rfl, rfl⟩
  case round =>
    obtain ⟨k, hk, hk2, rfl, hall, rfl⟩ := hrel
    have HA := Lib.hid hall
    clear hall
    have BX := Lib.hid (Below.refl w.heap.size w)
    by_cases hlt : k < l.length ∧ k < 100
    · obtain ⟨h1, h2⟩ := hlt
      obtain ⟨b, o, rfl, _⟩ := HS.out.1.open (by omega)
      obtain ⟨y, hy⟩ : ∃ y, y = l[k] := ⟨_, rfl⟩
      have R := ses_row HS.out.1 k h1 y hy
      have k23 := f_bts R
      have k27 := f_fls R
      have HT := Lib.hid (show ((cons l).take (k + 1)).all small50 = small50 y.s by
        rw [List.take_add_one, List.getElem?_eq_getElem (by rw [hcl.out]; exact h1), List.all_append, HA.out]
        simp [cons, hy])
      have HF := Lib.hid (show small50 y.s = false → fewB (cons l) = false by
        intro hs
        unfold fewB
        rw [Bool.and_eq_false_iff]
        left
        rw [List.all_eq_false]
        refine ⟨y.s, ?_, by rw [hs]; simp⟩
        have : y.s = ((cons l).take 100)[k]'(by rw [List.length_take, hcl.out]; omega) := by simp [cons, hy]
        rw [this]
        exact List.getElem_mem _)
      have t1 : (k : Int) < (l.length : Int) := by omega
      have t2 : (0 : Int) ≤ (k : Int) := by omega
      have t3 : (k : Int) < 100 := by omega
      clear hy R
      by_cases hb : y.s.beats.length ≤ 50 ∧ y.s.ch.send.fl.length ≤ 50
      · have hs : small50 y.s = true := by simp [small50, hb.1, hb.2]
        have u1 : ¬ (50 : Int) < (y.s.beats.length : Int) := by omega
        have u2 : ¬ (50 : Int) < (y.s.ch.send.fl.length : Int) := by omega
        have HT2 := Lib.hid (HT.out.trans hs)
        clear hb hs
        go_wp2_with fail
        go_roundw
        case rel => exact ⟨k + 1, by omega, by omega, by go_num, HT2.out, trivial⟩
        case measure => simp [intOf]; omega
      · have hs : small50 y.s = false := by
          simp only [small50, Bool.and_eq_false_iff, decide_eq_false_iff_not]; omega
        have HFF := Lib.hid (HF.out hs)
        by_cases hb1 : y.s.beats.length ≤ 50
        · have u1 : ¬ (50 : Int) < (y.s.beats.length : Int) := by omega
          have u2 : (50 : Int) < (y.s.ch.send.fl.length : Int) := by omega
          clear hb hs
          go_wp2_with fail
          go_ret
          exact ⟨ret_bool HFF.out.symm, BX⟩
        · have u1 : (50 : Int) < (y.s.beats.length : Int) := by omega
          clear hb hs
          go_wp2_with fail
          go_ret
          exact ⟨ret_bool HFF.out.symm, BX⟩
    · have HE := Lib.hid (show decide ((l.length : Int) ≤ 60) = fewB (cons l) by
        unfold fewB
        have : ((cons l).take 100) = (cons l).take k := by
          by_cases h2 : k < 100
          · rw [List.take_of_length_le (by rw [hcl.out]; omega), List.take_of_length_le (by rw [hcl.out]; omega)]
          · rw [show k = 100 by omega]
        rw [this, HA.out, hcl.out, Bool.eq_iff_iff]
        simp; omega)
      by_cases h1 : k < l.length
      · have t1 : (k : Int) < (l.length : Int) := by omega
        have t2 : ¬ (k : Int) < 100 := by omega
        clear hlt
        go_wp2_with fail
        go_ret
        exact ⟨ret_bool HE.out, BX⟩
      · have hke : k = l.length := by omega
        have t1 : ¬ (k : Int) < (l.length : Int) := by omega
        clear hlt hke
        go_wp2_with fail
        go_ret
        exact ⟨ret_bool HE.out, BX⟩
end Go.Proofs.Ytlmkkfigmoefdaa.K

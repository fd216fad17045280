/-
  '==' of two Rtts; CONTRACT of 'small' of nightjarlaw09.
-/
import Derived.Test.YtnpgpdkkjbljpaaRttRef
set_option linter.unusedVariables false
set_option linter.unusedSimpArgs false
namespace Go.Proofs.Ytnpgpdkkjbljpaa.K
open Go Go.RowKit Nj

/-- two Rtts are compared field by field -/
def eqRt (a b : Rt) : Bool := a.s == b.s && (a.v == b.v && (a.rto == b.rto && (a.fails == b.fails && a.has == b.has)))
theorem eqRt_self (a : Rt) : eqRt a a = true := by simp [eqRt]
theorem eq_rtt (s v rto fails : Int) (has : Bool) (s' v' rto' fails' : Int) (has' : Bool) (w : World) :
    (binOp .eql 23 (.agg #[.int .i64 s, .int .i64 v, .int .i64 rto, .int .i64 fails, .bool has]) (.agg #[.int .i64 s', .int .i64 v', .int .i64 rto', .int .i64 fails', .bool has'])).run Try.prog w = .ok (.bool (eqRt ⟨s, v, rto, fails, has⟩ ⟨s', v', rto', fails', has'⟩)) w := by
  go_simp
  unfold eqRt
  (repeat' split) <;> simp_all

theorem val_guard (x y : Operand) (a b : Rt) (w : World) : (eqGuard .eql 23 x y a.val b.val).run Try.prog w = .ok () w := by
  unfold Rt.val
  go_simp
theorem val_eq (a : Rt) (w : World) : (binOp .eql 23 a.val a.val).run Try.prog w = .ok (.bool true) w := by
  rw [Rt.val, eq_rtt, eqRt_self]

theorem small09_any (w : World) :
    Calls Try.prog 10 #[] w fun e w' => e = .returned (.bool true) ∧ Below w.heap.size w w' := by
  have c1 : (rttSample ⟨0, 0, 8, 0, false⟩ 10).val = .agg #[.int .i64 80, .int .i64 20, .int .i64 30, .int .i64 0, .bool true] := by rfl
  have c2 : (rttSample ⟨80, 20, 30, 0, true⟩ 18).val = .agg #[.int .i64 88, .int .i64 23, .int .i64 34, .int .i64 0, .bool true] := by rfl
  have c3 : (rttBackoff ⟨80, 20, 30, 0, true⟩).val = .agg #[.int .i64 80, .int .i64 20, .int .i64 60, .int .i64 1, .bool true] := by rfl
  have c4 : (rttBackoff ⟨0, 0, 0, 0, false⟩).val = .agg #[.int .i64 0, .int .i64 0, .int .i64 16, .int .i64 1, .bool false] := by rfl
  have c5 : rttStart.val = .agg #[.int .i64 0, .int .i64 0, .int .i64 8, .int .i64 0, .bool false] := by rfl
  have c6 : rttRight ⟨0, 0, 8, 0, false⟩ = true := by decide
  have c7 : rttRight ⟨0, 0, 0, 0, false⟩ = false := by decide
  go_enter Try.func10, Try.ntmps10
  go_wp2_with fail
  refine (rttStart_any _).mono ?_; rintro e w1 ⟨rfl, hb⟩
  rw [c5]
  have HB1 := Lib.hid hb
  clear hb
  go_wp2_with fail
  refine (rttSample_any _ _ _ _ _ _ _).mono ?_; rintro e w2 ⟨rfl, hb⟩
  rw [c1]
  have HB2 := Lib.hid (chain (chaina HB1.out _) hb)
  have HX1 := Lib.hid (keepb (heap_new _ _ _ rfl) hb)
  have x1 := cell_of_block HX1.out
  clear hb
  go_wp2_with fail
  refine (rttSample_any _ _ _ _ _ _ _).mono ?_; rintro e w3 ⟨rfl, hb⟩
  rw [c2]
  have HB3 := Lib.hid (chain (chaina HB2.out _) hb)
  have HY1 := Lib.hid (keepb (keepa HX1.out _) hb)
  have HY2 := Lib.hid (keepb (heap_new _ _ _ rfl) hb)
  have y1 := cell_of_block (keepa HY1.out (.cells #[.int .i64 88, .int .i64 23, .int .i64 34, .int .i64 0, .bool true] 23))
  clear hb x1
  go_wp2_with fail
  refine (rttRight_any _ _ _ _ _ _).mono ?_; rintro e w4 ⟨rfl, hb⟩
  have HB4 := Lib.hid (chain (chaina HB3.out _) hb)
  have HZ2 := Lib.hid (keepb (keepa HY2.out _) hb)
  have HZ3 := Lib.hid (keepb (heap_new _ _ _ rfl) hb)
  clear hb y1
  go_wp2_with fail
  refine (rttRight_any _ _ _ _ _ _).mono ?_; rintro e w5 ⟨rfl, hb⟩
  have HB5 := Lib.hid (chain HB4.out hb)
  have z2 := cell_of_block (keepb HZ2.out hb)
  have z3 := cell_of_block (keepb HZ3.out hb)
  clear hb
  go_wp2_with fail
  refine (rttBackoff_any _ _ _ _ _ _).mono ?_; rintro e w6 ⟨rfl, hb⟩
  rw [c3]
  have HB6 := Lib.hid (chain HB5.out hb)
  clear hb z2 z3
  go_wp2_with fail
  refine (rttBackoff_any _ _ _ _ _ _).mono ?_; rintro e w7 ⟨rfl, hb⟩
  rw [c4]
  have HB7 := Lib.hid (chain HB6.out hb)
  clear hb
  go_wp2_with fail
  go_ret
  exact ⟨rfl, HB7.out⟩

open Go.ChangeShapes Go.WideShapes in
/-- an Rtt that came in by value -/
theorem open_rtt {H : Type} {enc : TypeId × Value → H} {W : World} {base : Nat} {r : Reach} {b0 : Nat} {spare : Nat → Bool} {held : Bool} {v : Value} {d : DataW H} {p : List MemPlace}
    (hv : Value.okWide Try.prog W r b0 23 v) (h : DataW.Trod enc Try.prog W base spare held 23 v d p) :
    ∃ (s v' rto fails : Int) (has : Bool), v = .agg #[.int .i64 s, .int .i64 v', .int .i64 rto, .int .i64 fails, .bool has] := by
  obtain ⟨cs, rfl, hsz⟩ := okWide_struct Try.underlying23 hv
  obtain ⟨l⟩ := cs
  have hC : Try.prog.cellsOf 23 = 5 := by kernel_rfl
  obtain ⟨fuel, hf⟩ := h
  obtain ⟨a0, e0, _⟩ := field_int Try.underlying23 hf 0 0 3 (by rfl) Try.underlying3 (by kernel_rfl)
  obtain ⟨a1, e1, _⟩ := field_int Try.underlying23 hf 1 1 3 (by rfl) Try.underlying3 (by kernel_rfl)
  obtain ⟨a2, e2, _⟩ := field_int Try.underlying23 hf 2 2 3 (by rfl) Try.underlying3 (by kernel_rfl)
  obtain ⟨a3, e3, _⟩ := field_int Try.underlying23 hf 3 3 3 (by rfl) Try.underlying3 (by kernel_rfl)
  obtain ⟨a4, e4⟩ := field_bool Try.underlying23 hf 4 4 4 (by rfl) Try.underlying4 (by kernel_rfl)
  match l, hsz.trans hC with
  | [c0, c1, c2, c3, c4], _ =>
    simp [Value.cells] at e0 e1 e2 e3 e4
    subst e0 e1 e2 e3 e4
    exact ⟨a0, a1, a2, a3, a4, rfl⟩
end Go.Proofs.Ytnpgpdkkjbljpaa.K

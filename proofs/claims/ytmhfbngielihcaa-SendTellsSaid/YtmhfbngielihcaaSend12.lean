/-
  CONTRACT of 'small' of nightjarlaw11.
-/
import Derived.Test.YtmhfbngielihcaaSend11
import Derived.Test.YtmhfbngielihcaaReg
set_option linter.unusedVariables false
set_option linter.unusedSimpArgs false
namespace Go.Proofs.Ytmhfbngielihcaa.K
open Go Go.RowKit Nj

theorem run_field_cwnd (n : Int) (v : Value) (c a : Int) (w : World) : (Instr.field 24 (.agg #[.int .i64 n, v, .int .i64 c, .int .i64 a]) 2).run Try.prog w = .ok (.int .i64 c) w := by kernel_rfl
def FP11 (w : World) (p : Option Addr) (cap : Nat) : Prop := Fls w (.slice p 1 cap) [⟨1, ⟨1, 7, 0, 0⟩, 5, 1⟩]
set_option maxRecDepth 100000 in
def PI11 (w0 : World) (l : Array Bool) (a : Act) (w : World) : Prop :=
  ∃ (b0 b1 b2 b3 b4 b5 b6 b7 b8 b9 b10 b11 : Bool) (ux uy uk uc ug un ur ue1 ue2 ue3 : Value) (g2 g3 : Nat) (p : Option Addr) (cap : Nat),
    l = #[b0, b1, b2, b3, b4, b5, b6, b7, b8, b9, b10, b11] ∧ a = ⟨List.toArray (.bool false :: .pointer (some ⟨w0.heap.size, 0, none⟩) :: ux :: uy :: uk :: undef :: undef :: undef :: undef :: undef :: undef :: undef :: undef :: undef :: undef :: undef :: undef :: undef :: .agg #[.int .i64 1, .int .i64 7, .int .i64 0, .int .i64 0] :: uc :: ug :: un :: ur :: ue1 :: ue2 :: ue3 :: undef :: undef :: undef :: undef :: undef :: undef :: undef :: undef :: undef :: undef :: undef :: undef :: undef :: undef :: undef :: undef :: undef :: undef :: undef :: undef :: undef :: undef :: undef :: undef :: undef :: undef :: undef :: undef :: undef :: undef :: undef :: undef :: undef :: undef :: undef :: undef :: undef :: undef :: undef :: undef :: undef :: undef :: undef :: undef :: undef :: undef :: undef :: undef :: undef :: undef :: undef :: undef :: undef :: undef :: undef :: undef :: undef :: undef :: undef :: undef :: undef :: undef :: undef :: undef :: undef :: undef :: undef :: undef :: undef :: undef :: undef :: undef :: undef :: undef :: undef :: undef :: undef :: undef :: undef :: undef :: undef :: undef :: undef :: undef :: undef :: undef :: undef :: undef :: undef :: undef :: undef :: undef :: undef :: undef :: undef :: undef :: undef :: undef :: undef :: undef :: undef :: undef :: undef :: undef :: undef :: undef :: undef :: undef :: undef :: undef :: undef :: undef :: undef :: undef :: undef :: undef :: undef :: undef :: undef :: undef :: undef :: []), []⟩ ∧
    Hid (w.heap[w0.heap.size]? = some (.cells #[.int .i64 1, .int .i64 7, .int .i64 0, .int .i64 0] 29)) ∧ Hid (Below w0.heap.size w0 w) ∧
    Hid (b0 = true → ug = .agg #[.int .i64 1, .slice none 0 0, .int .i64 1, .int .i64 0]) ∧ Hid (b1 = true → un = .agg #[.int .i64 1, .int .i64 7, .int .i64 0, .int .i64 0]) ∧ Hid (b2 = true → ur = .tuple #[.agg #[.int .i64 2, .slice p 1 cap, .int .i64 1, .int .i64 0], .agg #[.int .i64 1, .int .i64 1, .int .i64 7, .int .i64 0, .int .i64 0, .int .i64 5, .int .i64 1], .bool true] ∧ PV FP11 w0.heap.size p cap w) ∧
    Hid (b3 = true → b2 = true ∧ uc = .tuple #[.agg #[.int .i64 2, .slice p 1 cap, .int .i64 1, .int .i64 0], .agg #[.int .i64 1, .int .i64 1, .int .i64 7, .int .i64 0, .int .i64 0, .int .i64 5, .int .i64 1], .bool true]) ∧ Hid (b4 = true → b2 = true ∧ ue1 = .agg #[.int .i64 2, .slice p 1 cap, .int .i64 1, .int .i64 0]) ∧ Hid (b5 = true → ue2 = .agg #[.int .i64 1, .int .i64 1, .int .i64 7, .int .i64 0, .int .i64 0, .int .i64 5, .int .i64 1]) ∧ Hid (b6 = true → ue3 = .bool true) ∧
    Hid (b7 = true → ux = .pointer (some ⟨g2, 0, none⟩) ∧ Bx w0.heap.size g2 (.cells #[.int .i64 0, .slice none 0 0, .int .i64 0, .int .i64 0] 24) (.cells #[.int .i64 2, .slice p 1 cap, .int .i64 1, .int .i64 0] 24) b9 b2 p w) ∧
    Hid (b8 = true → uy = .pointer (some ⟨g3, 0, none⟩) ∧ Bx w0.heap.size g3 (.cells #[.int .i64 0, .int .i64 0, .int .i64 0, .int .i64 0, .int .i64 0, .int .i64 0, .int .i64 0] 34) (.cells #[.int .i64 1, .int .i64 1, .int .i64 7, .int .i64 0, .int .i64 0, .int .i64 5, .int .i64 1] 34) b10 b2 p w) ∧
    Hid (b7 = true → b8 = true → g2 ≠ g3) ∧ Hid (b9 = true → b7 = true) ∧ Hid (b10 = true → b8 = true) ∧ Hid (b11 = true → uk = .bool true)
set_option maxRecDepth 100000 in
set_option maxHeartbeats 4000000 in
theorem small11_any (w : World) :
    Calls Try.prog 11 #[] w fun e w' => e = .returned (.bool true) ∧ Hid (Below w.heap.size w w') := by
  go_enter Try.func11, Try.ntmps11
  go_upto_region 2 with fail
  refine gen_wp (fun w1 => Hid (w1.heap[w.heap.size]? = some (.cells #[.int .i64 1, .int .i64 7, .int .i64 0, .int .i64 0] 29)) ∧ Hid (Below w.heap.size w w1) ∧ True) ⟨Lib.hid (by first | (simp [World.setCell, Array.getElem?_modify]; done) | (simp [World.setCell, Array.getElem?_modify]; omega) | ((repeat (first | (with_reducible exact heap_new _ _ _ (by first | rfl | (simp; done))) | (with_reducible refine keepa ?_ _) | (simp [World.setCell, Array.getElem?_modify]; done))); done)), Lib.hid (by repeat (first | (with_reducible exact Below.refl _ _) | (with_reducible refine bel_set (by first | omega | (simp; done) | (simp; omega)) ?_) | (with_reducible refine bel_alloc (by first | omega | (simp; done) | (simp; omega)) ?_) | (with_reducible refine bel_drew ?_) | (with_reducible refine bel_drewN ?_ _))), trivial⟩ ?_
  rintro w1 ⟨A1, BA, -⟩
  have c_A1 := cell_of_block A1.out
  have f_A1 := frozen_of_block A1.out
  refine wp_region_inv (PI11 w) (by kernel_rfl) (by kernel_rfl) ?_ ?_ ?_
  · exact ⟨false, false, false, false, false, false, false, false, false, false, false, false, _, _, _, _, _, _, _, _, _, _, 0, 0, none, 0, rfl, rfl, A1, Lib.hid (bel_drew BA.out), Lib.hid (fun e => by cases e), Lib.hid (fun e => by cases e), Lib.hid (fun e => by cases e), Lib.hid (fun e => by cases e), Lib.hid (fun e => by cases e), Lib.hid (fun e => by cases e), Lib.hid (fun e => by cases e), Lib.hid (fun e => by cases e), Lib.hid (fun e => by cases e), Lib.hid (fun e => by cases e), Lib.hid (fun e => by cases e), Lib.hid (fun e => by cases e), Lib.hid (fun e => by cases e)⟩
  · rintro a wx ⟨b0, b1, b2, b3, b4, b5, b6, b7, b8, b9, b10, b11, ux, uy, uk, uc, ug, un, ur, ue1, ue2, ue3, g2, g3, p, cap, hl, rfl, XH, XB, X0, X1, X2, X3, X4, X5, X6, X7, X8, XD, X9, X10, X11⟩
    replace hl : #[true, true, true, true, true, true, true, true, true, true, true, true] = #[b0, b1, b2, b3, b4, b5, b6, b7, b8, b9, b10, b11] := hl
    cases hl
    obtain ⟨q2, hpv, hlp⟩ := X2.out rfl
    obtain ⟨-, q3⟩ := X3.out rfl
    obtain ⟨-, q4⟩ := X4.out rfl
    obtain ⟨q7, h7a, h7b, -, h7c, -⟩ := X7.out rfl
    obtain ⟨q8, h8a, h8b, -, h8c, -⟩ := X8.out rfl
    have q0 := X0.out rfl
    have q1 := X1.out rfl
    have q5 := X5.out rfl
    have q6 := X6.out rfl
    have q11 := X11.out rfl
    subst q0 q1 q2 q3 q4 q5 q6 q7 q8 q11
    have A2 := Lib.hid (h7c rfl).2
    have A3 := Lib.hid (h8c rfl).2
    have FS := Lib.hid (show Fls wx (.slice p 1 cap) [⟨1, ⟨1, 7, 0, 0⟩, 5, 1⟩] from hpv)
    replace A1 := XH
    replace BA := XB
    clear X0 X1 X2 X3 X4 X5 X6 X7 X8 XD X9 X10 X11 hpv hlp h7a h7b h7c h8a h8b h8c c_A1 f_A1 XH XB
    have c_A1 := cell_of_block A1.out
    have f_A1 := frozen_of_block A1.out
    have c_A2 := cell_of_block A2.out
    have f_A2 := frozen_of_block A2.out
    have c_A3 := cell_of_block A3.out
    have f_A3 := frozen_of_block A3.out
    go_wp2_with fail
    refine (spush_any 2 _ 1 0 [⟨1, ⟨1, 7, 0, 0⟩, 5, 1⟩] ⟨1, 7, 0, 0⟩ 5 _ FS.out (by decide) (by decide) (by decide) (by simp) ⟨2, [⟨1, ⟨1, 7, 0, 0⟩, 5, 1⟩], 1, 0⟩ fl0 false (by decide)).mono ?_
    rintro e w2 ⟨p2, cap2, rfl, -, B2⟩
    replace A1 := Lib.hid (keepb A1.out B2.out)
    replace c_A1 := cell_of_block A1.out
    replace f_A1 := frozen_of_block A1.out
    replace A2 := Lib.hid (keepb A2.out B2.out)
    replace c_A2 := cell_of_block A2.out
    replace f_A2 := frozen_of_block A2.out
    replace A3 := Lib.hid (keepb A3.out B2.out)
    replace c_A3 := cell_of_block A3.out
    replace f_A3 := frozen_of_block A3.out
    replace BA := Lib.hid (chain BA.out B2.out)
    replace FS := fls_keep FS B2
    go_upto_region 4 with fail
    refine gen_wp (fun w3 => Hid (Below w2.heap.size w2 w3) ∧ True) ⟨Lib.hid (by repeat (first | (with_reducible exact Below.refl _ _) | (with_reducible refine bel_set (by first | omega | (simp; done) | (simp; omega)) ?_) | (with_reducible refine bel_alloc (by first | omega | (simp; done) | (simp; omega)) ?_) | (with_reducible refine bel_drew ?_) | (with_reducible refine bel_drewN ?_ _))), trivial⟩ ?_
    clear c_A1 f_A1 c_A2 f_A2 c_A3 f_A3
    rintro w3 ⟨N, -⟩
    replace A1 := Lib.hid (keepb A1.out N.out)
    replace c_A1 := cell_of_block A1.out
    replace f_A1 := frozen_of_block A1.out
    replace A2 := Lib.hid (keepb A2.out N.out)
    replace c_A2 := cell_of_block A2.out
    replace f_A2 := frozen_of_block A2.out
    replace A3 := Lib.hid (keepb A3.out N.out)
    replace c_A3 := cell_of_block A3.out
    replace f_A3 := frozen_of_block A3.out
    replace BA := Lib.hid (chain BA.out N.out)
    replace FS := fls_keep FS N
    clear N B2
    go_wp2_with fail
    refine (sacked_any 2 _ 1 0 [⟨1, ⟨1, 7, 0, 0⟩, 5, 1⟩] 1 0 9 _ FS.out (by decide) (by decide) ⟨2, [], 2, 0⟩ 4 (by decide)).mono ?_
    rintro e w4 ⟨p4, cap4, rfl, O4, B4⟩
    replace A1 := Lib.hid (keepb A1.out B4.out)
    replace c_A1 := cell_of_block A1.out
    replace f_A1 := frozen_of_block A1.out
    replace A2 := Lib.hid (keepb A2.out B4.out)
    replace c_A2 := cell_of_block A2.out
    replace f_A2 := frozen_of_block A2.out
    replace A3 := Lib.hid (keepb A3.out B4.out)
    replace c_A3 := cell_of_block A3.out
    replace f_A3 := frozen_of_block A3.out
    replace BA := Lib.hid (chain BA.out B4.out)
    replace FS := fls_keep FS B4
    have FT : Hid (Fls w4 (.slice p4 0 cap4) []) := Lib.hid O4.out.sl
    clear O4 B4
    simp only [List.length_nil]
    go_upto_region 5 with fail
    refine gen_wp (fun w5 => Hid (Below w4.heap.size w4 w5) ∧ Hid (w5.heap[w4.heap.size]? = some (.cells #[.int .i64 2, .slice p4 0 cap4, .int .i64 2, .int .i64 0] 24)) ∧ True) ⟨Lib.hid (by repeat (first | (with_reducible exact Below.refl _ _) | (with_reducible refine bel_set (by first | omega | (simp; done) | (simp; omega)) ?_) | (with_reducible refine bel_alloc (by first | omega | (simp; done) | (simp; omega)) ?_) | (with_reducible refine bel_drew ?_) | (with_reducible refine bel_drewN ?_ _))), Lib.hid (by first | (simp [World.setCell, Array.getElem?_modify, A1.out, A2.out, A3.out]; done) | (simp [World.setCell, Array.getElem?_modify, A1.out, A2.out, A3.out]; omega) | ((repeat (first | (with_reducible exact A1.out) | (with_reducible exact A2.out) | (with_reducible exact A3.out) | (with_reducible exact heap_new _ _ _ (by first | rfl | (simp; done))) | (with_reducible refine keepa ?_ _) | (simp [World.setCell, Array.getElem?_modify, A1.out, A2.out, A3.out]; done))); done)), trivial⟩ ?_
    clear c_A1 f_A1 c_A2 f_A2 c_A3 f_A3
    rintro w5 ⟨N, A8, -⟩
    have c_A8 := cell_of_block A8.out
    have f_A8 := frozen_of_block A8.out
    replace A1 := Lib.hid (keepb A1.out N.out)
    replace c_A1 := cell_of_block A1.out
    replace f_A1 := frozen_of_block A1.out
    replace A2 := Lib.hid (keepb A2.out N.out)
    replace c_A2 := cell_of_block A2.out
    replace f_A2 := frozen_of_block A2.out
    replace A3 := Lib.hid (keepb A3.out N.out)
    replace c_A3 := cell_of_block A3.out
    replace f_A3 := frozen_of_block A3.out
    replace BA := Lib.hid (chain BA.out N.out)
    replace FS := fls_keep FS N
    replace FT := fls_keep FT N
    clear N
    go_wp2_with fail
    refine (sacked_any 2 _ 1 0 [⟨1, ⟨1, 7, 0, 0⟩, 5, 1⟩] 2 0 9 _ FS.out (by decide) (by decide) ⟨2, [⟨1, ⟨1, 7, 0, 0⟩, 5, 1⟩], 1, 0⟩ (-1) (by decide)).mono ?_
    rintro e w6 ⟨p6, cap6, rfl, -, B6⟩
    replace A1 := Lib.hid (keepb A1.out B6.out)
    replace c_A1 := cell_of_block A1.out
    replace f_A1 := frozen_of_block A1.out
    replace A2 := Lib.hid (keepb A2.out B6.out)
    replace c_A2 := cell_of_block A2.out
    replace f_A2 := frozen_of_block A2.out
    replace A3 := Lib.hid (keepb A3.out B6.out)
    replace c_A3 := cell_of_block A3.out
    replace f_A3 := frozen_of_block A3.out
    replace A8 := Lib.hid (keepb A8.out B6.out)
    replace c_A8 := cell_of_block A8.out
    replace f_A8 := frozen_of_block A8.out
    replace BA := Lib.hid (chain BA.out B6.out)
    replace FS := fls_keep FS B6
    replace FT := fls_keep FT B6
    clear B6
    go_upto_region 6 with fail
    refine gen_wp (fun w7 => Hid (Below w6.heap.size w6 w7) ∧ True) ⟨Lib.hid (by repeat (first | (with_reducible exact Below.refl _ _) | (with_reducible refine bel_set (by first | omega | (simp; done) | (simp; omega)) ?_) | (with_reducible refine bel_alloc (by first | omega | (simp; done) | (simp; omega)) ?_) | (with_reducible refine bel_drew ?_) | (with_reducible refine bel_drewN ?_ _))), trivial⟩ ?_
    clear c_A1 f_A1 c_A2 f_A2 c_A3 f_A3 c_A8 f_A8
    rintro w7 ⟨N, -⟩
    replace A1 := Lib.hid (keepb A1.out N.out)
    replace c_A1 := cell_of_block A1.out
    replace f_A1 := frozen_of_block A1.out
    replace A2 := Lib.hid (keepb A2.out N.out)
    replace c_A2 := cell_of_block A2.out
    replace f_A2 := frozen_of_block A2.out
    replace A3 := Lib.hid (keepb A3.out N.out)
    replace c_A3 := cell_of_block A3.out
    replace f_A3 := frozen_of_block A3.out
    replace A8 := Lib.hid (keepb A8.out N.out)
    replace c_A8 := cell_of_block A8.out
    replace f_A8 := frozen_of_block A8.out
    replace BA := Lib.hid (chain BA.out N.out)
    replace FS := fls_keep FS N
    replace FT := fls_keep FT N
    clear N
    go_wp2_with fail
    refine (sresend_any 2 _ 1 0 [⟨1, ⟨1, 7, 0, 0⟩, 5, 1⟩] 1 8 _ FS.out (by decide) (by decide) ⟨2, [⟨1, ⟨1, 7, 0, 0⟩, 8, 2⟩], 1, 0⟩ ⟨1, ⟨1, 7, 0, 0⟩, 8, 2⟩ true (by decide)).mono ?_
    rintro e w8 ⟨p8, cap8, rfl, O8, B8⟩
    replace A1 := Lib.hid (keepb A1.out B8.out)
    replace c_A1 := cell_of_block A1.out
    replace f_A1 := frozen_of_block A1.out
    replace A2 := Lib.hid (keepb A2.out B8.out)
    replace c_A2 := cell_of_block A2.out
    replace f_A2 := frozen_of_block A2.out
    replace A3 := Lib.hid (keepb A3.out B8.out)
    replace c_A3 := cell_of_block A3.out
    replace f_A3 := frozen_of_block A3.out
    replace A8 := Lib.hid (keepb A8.out B8.out)
    replace c_A8 := cell_of_block A8.out
    replace f_A8 := frozen_of_block A8.out
    replace BA := Lib.hid (chain BA.out B8.out)
    replace FS := fls_keep FS B8
    replace FT := fls_keep FT B8
    have FU : Hid (Fls w8 (.slice p8 1 cap8) [⟨1, ⟨1, 7, 0, 0⟩, 8, 2⟩]) := Lib.hid O8.out.sl
    clear O8 B8
    simp only [List.length_cons, List.length_nil, Nat.zero_add]
    go_upto_region 7 with fail
    refine gen_wp (fun w9 => Hid (Below w8.heap.size w8 w9) ∧ Hid (w9.heap[w8.heap.size]? = some (.cells #[.int .i64 2, .slice p8 1 cap8, .int .i64 1, .int .i64 0] 24)) ∧ Hid (w9.heap[(w8.heap.size + 1)]? = some (.cells #[.int .i64 1, .int .i64 1, .int .i64 7, .int .i64 0, .int .i64 0, .int .i64 8, .int .i64 2] 34)) ∧ True) ⟨Lib.hid (by repeat (first | (with_reducible exact Below.refl _ _) | (with_reducible refine bel_set (by first | omega | (simp; done) | (simp; omega)) ?_) | (with_reducible refine bel_alloc (by first | omega | (simp; done) | (simp; omega)) ?_) | (with_reducible refine bel_drew ?_) | (with_reducible refine bel_drewN ?_ _))), Lib.hid (by first | (simp [World.setCell, Array.getElem?_modify, A1.out, A2.out, A3.out, A8.out]; done) | (simp [World.setCell, Array.getElem?_modify, A1.out, A2.out, A3.out, A8.out]; omega) | ((repeat (first | (with_reducible exact A1.out) | (with_reducible exact A2.out) | (with_reducible exact A3.out) | (with_reducible exact A8.out) | (with_reducible exact heap_new _ _ _ (by first | rfl | (simp; done))) | (with_reducible refine keepa ?_ _) | (simp [World.setCell, Array.getElem?_modify, A1.out, A2.out, A3.out, A8.out]; done))); done)), Lib.hid (by first | (simp [World.setCell, Array.getElem?_modify, A1.out, A2.out, A3.out, A8.out]; done) | (simp [World.setCell, Array.getElem?_modify, A1.out, A2.out, A3.out, A8.out]; omega) | ((repeat (first | (with_reducible exact A1.out) | (with_reducible exact A2.out) | (with_reducible exact A3.out) | (with_reducible exact A8.out) | (with_reducible exact heap_new _ _ _ (by first | rfl | (simp; done))) | (with_reducible refine keepa ?_ _) | (simp [World.setCell, Array.getElem?_modify, A1.out, A2.out, A3.out, A8.out]; done))); done)), trivial⟩ ?_
    clear c_A1 f_A1 c_A2 f_A2 c_A3 f_A3 c_A8 f_A8
    rintro w9 ⟨N, AU, AG, -⟩
    have c_AU := cell_of_block AU.out
    have f_AU := frozen_of_block AU.out
    have c_AG := cell_of_block AG.out
    have f_AG := frozen_of_block AG.out
    replace A1 := Lib.hid (keepb A1.out N.out)
    replace c_A1 := cell_of_block A1.out
    replace f_A1 := frozen_of_block A1.out
    replace A2 := Lib.hid (keepb A2.out N.out)
    replace c_A2 := cell_of_block A2.out
    replace f_A2 := frozen_of_block A2.out
    replace A3 := Lib.hid (keepb A3.out N.out)
    replace c_A3 := cell_of_block A3.out
    replace f_A3 := frozen_of_block A3.out
    replace A8 := Lib.hid (keepb A8.out N.out)
    replace c_A8 := cell_of_block A8.out
    replace f_A8 := frozen_of_block A8.out
    replace BA := Lib.hid (chain BA.out N.out)
    replace FS := fls_keep FS N
    replace FT := fls_keep FT N
    replace FU := fls_keep FU N
    clear N
    go_wp2_with fail
    refine (sacked_any 2 _ 1 0 [⟨1, ⟨1, 7, 0, 0⟩, 8, 2⟩] 1 0 9 _ FU.out (by decide) (by decide) ⟨2, [], 2, 0⟩ (-1) (by decide)).mono ?_
    rintro e wa ⟨pa, capa, rfl, -, Ba⟩
    replace A1 := Lib.hid (keepb A1.out Ba.out)
    replace c_A1 := cell_of_block A1.out
    replace f_A1 := frozen_of_block A1.out
    replace A2 := Lib.hid (keepb A2.out Ba.out)
    replace c_A2 := cell_of_block A2.out
    replace f_A2 := frozen_of_block A2.out
    replace A3 := Lib.hid (keepb A3.out Ba.out)
    replace c_A3 := cell_of_block A3.out
    replace f_A3 := frozen_of_block A3.out
    replace A8 := Lib.hid (keepb A8.out Ba.out)
    replace c_A8 := cell_of_block A8.out
    replace f_A8 := frozen_of_block A8.out
    replace AG := Lib.hid (keepb AG.out Ba.out)
    replace c_AG := cell_of_block AG.out
    replace f_AG := frozen_of_block AG.out
    replace BA := Lib.hid (chain BA.out Ba.out)
    replace FS := fls_keep FS Ba
    replace FT := fls_keep FT Ba
    clear Ba FU AU c_AU f_AU
    go_upto_region 8 with fail
    refine gen_wp (fun wb => Hid (Below wa.heap.size wa wb) ∧ True) ⟨Lib.hid (by repeat (first | (with_reducible exact Below.refl _ _) | (with_reducible refine bel_set (by first | omega | (simp; done) | (simp; omega)) ?_) | (with_reducible refine bel_alloc (by first | omega | (simp; done) | (simp; omega)) ?_) | (with_reducible refine bel_drew ?_) | (with_reducible refine bel_drewN ?_ _))), trivial⟩ ?_
    clear c_A1 f_A1 c_A2 f_A2 c_A3 f_A3 c_A8 f_A8 c_AG f_AG
    rintro wb ⟨N, -⟩
    replace A1 := Lib.hid (keepb A1.out N.out)
    replace c_A1 := cell_of_block A1.out
    replace f_A1 := frozen_of_block A1.out
    replace A2 := Lib.hid (keepb A2.out N.out)
    replace c_A2 := cell_of_block A2.out
    replace f_A2 := frozen_of_block A2.out
    replace A3 := Lib.hid (keepb A3.out N.out)
    replace c_A3 := cell_of_block A3.out
    replace f_A3 := frozen_of_block A3.out
    replace A8 := Lib.hid (keepb A8.out N.out)
    replace c_A8 := cell_of_block A8.out
    replace f_A8 := frozen_of_block A8.out
    replace AG := Lib.hid (keepb AG.out N.out)
    replace c_AG := cell_of_block AG.out
    replace f_AG := frozen_of_block AG.out
    replace BA := Lib.hid (chain BA.out N.out)
    replace FS := fls_keep FS N
    replace FT := fls_keep FT N
    clear N
    go_wp2_with fail
    refine (svoid_any 2 _ 1 0 [⟨1, ⟨1, 7, 0, 0⟩, 5, 1⟩] 1 _ FS.out (by decide)).mono ?_
    rintro e wc ⟨pc, capc, rfl, Oc, Bc⟩
    replace A1 := Lib.hid (keepb A1.out Bc.out)
    replace c_A1 := cell_of_block A1.out
    replace f_A1 := frozen_of_block A1.out
    replace A2 := Lib.hid (keepb A2.out Bc.out)
    replace c_A2 := cell_of_block A2.out
    replace f_A2 := frozen_of_block A2.out
    replace A3 := Lib.hid (keepb A3.out Bc.out)
    replace c_A3 := cell_of_block A3.out
    replace f_A3 := frozen_of_block A3.out
    replace A8 := Lib.hid (keepb A8.out Bc.out)
    replace c_A8 := cell_of_block A8.out
    replace f_A8 := frozen_of_block A8.out
    replace AG := Lib.hid (keepb AG.out Bc.out)
    replace c_AG := cell_of_block AG.out
    replace f_AG := frozen_of_block AG.out
    replace BA := Lib.hid (chain BA.out Bc.out)
    replace FS := fls_keep FS Bc
    replace FT := fls_keep FT Bc
    have FV : Hid (Fls wc (.slice pc 1 capc) [⟨1, nt0, 5, 1⟩]) := Lib.hid Oc.out.sl
    clear Oc Bc
    simp only [sdVoid, List.map_cons, List.map_nil, List.length_cons, List.length_nil, Nat.zero_add]
    go_upto_region 9 with fail
    refine gen_wp (fun wd => Hid (Below wc.heap.size wc wd) ∧ Hid (wd.heap[wc.heap.size]? = some (.cells #[.int .i64 2, .slice pc 1 capc, .int .i64 1, .int .i64 0] 24)) ∧ True) ⟨Lib.hid (by repeat (first | (with_reducible exact Below.refl _ _) | (with_reducible refine bel_set (by first | omega | (simp; done) | (simp; omega)) ?_) | (with_reducible refine bel_alloc (by first | omega | (simp; done) | (simp; omega)) ?_) | (with_reducible refine bel_drew ?_) | (with_reducible refine bel_drewN ?_ _))), Lib.hid (by first | (simp [World.setCell, Array.getElem?_modify, A1.out, A2.out, A3.out, A8.out, AG.out]; done) | (simp [World.setCell, Array.getElem?_modify, A1.out, A2.out, A3.out, A8.out, AG.out]; omega) | ((repeat (first | (with_reducible exact A1.out) | (with_reducible exact A2.out) | (with_reducible exact A3.out) | (with_reducible exact A8.out) | (with_reducible exact AG.out) | (with_reducible exact heap_new _ _ _ (by first | rfl | (simp; done))) | (with_reducible refine keepa ?_ _) | (simp [World.setCell, Array.getElem?_modify, A1.out, A2.out, A3.out, A8.out, AG.out]; done))); done)), trivial⟩ ?_
    clear c_A1 f_A1 c_A2 f_A2 c_A3 f_A3 c_A8 f_A8 c_AG f_AG
    rintro wd ⟨N, AV, -⟩
    have c_AV := cell_of_block AV.out
    have f_AV := frozen_of_block AV.out
    replace A1 := Lib.hid (keepb A1.out N.out)
    replace c_A1 := cell_of_block A1.out
    replace f_A1 := frozen_of_block A1.out
    replace A2 := Lib.hid (keepb A2.out N.out)
    replace c_A2 := cell_of_block A2.out
    replace f_A2 := frozen_of_block A2.out
    replace A3 := Lib.hid (keepb A3.out N.out)
    replace c_A3 := cell_of_block A3.out
    replace f_A3 := frozen_of_block A3.out
    replace A8 := Lib.hid (keepb A8.out N.out)
    replace c_A8 := cell_of_block A8.out
    replace f_A8 := frozen_of_block A8.out
    replace AG := Lib.hid (keepb AG.out N.out)
    replace c_AG := cell_of_block AG.out
    replace f_AG := frozen_of_block AG.out
    replace BA := Lib.hid (chain BA.out N.out)
    replace FS := fls_keep FS N
    replace FT := fls_keep FT N
    replace FV := fls_keep FV N
    clear N
    obtain ⟨bv, ov, rfl, -⟩ := FV.out.open (by decide)
    go_wp2_with fail
    refine (sroom_any 2 _ 1 0 [⟨1, ⟨1, 7, 0, 0⟩, 5, 1⟩] _ FS.out (by decide) (by decide) (by decide) (by simp)).mono ?_
    rintro e we ⟨rfl, N⟩
    rw [show sdRoom ⟨2, [⟨1, ⟨1, 7, 0, 0⟩, 5, 1⟩], 1, 0⟩ = 0 by decide]
    replace A1 := Lib.hid (keepb A1.out N.out)
    replace c_A1 := cell_of_block A1.out
    replace f_A1 := frozen_of_block A1.out
    replace A2 := Lib.hid (keepb A2.out N.out)
    replace c_A2 := cell_of_block A2.out
    replace f_A2 := frozen_of_block A2.out
    replace A3 := Lib.hid (keepb A3.out N.out)
    replace c_A3 := cell_of_block A3.out
    replace f_A3 := frozen_of_block A3.out
    replace A8 := Lib.hid (keepb A8.out N.out)
    replace c_A8 := cell_of_block A8.out
    replace f_A8 := frozen_of_block A8.out
    replace AG := Lib.hid (keepb AG.out N.out)
    replace c_AG := cell_of_block AG.out
    replace f_AG := frozen_of_block AG.out
    replace AV := Lib.hid (keepb AV.out N.out)
    replace c_AV := cell_of_block AV.out
    replace f_AV := frozen_of_block AV.out
    replace BA := Lib.hid (chain BA.out N.out)
    replace FS := fls_keep FS N
    replace FT := fls_keep FT N
    replace FV := fls_keep FV N
    clear N
    go_wp2_with fail
    refine (sroom_any 2 _ 2 0 [] _ FT.out (by decide) (by decide) (by decide) (by simp)).mono ?_
    rintro e wf ⟨rfl, N⟩
    rw [show sdRoom ⟨2, [], 2, 0⟩ = 2 by decide]
    replace A1 := Lib.hid (keepb A1.out N.out)
    replace c_A1 := cell_of_block A1.out
    replace f_A1 := frozen_of_block A1.out
    replace A2 := Lib.hid (keepb A2.out N.out)
    replace c_A2 := cell_of_block A2.out
    replace f_A2 := frozen_of_block A2.out
    replace A3 := Lib.hid (keepb A3.out N.out)
    replace c_A3 := cell_of_block A3.out
    replace f_A3 := frozen_of_block A3.out
    replace A8 := Lib.hid (keepb A8.out N.out)
    replace c_A8 := cell_of_block A8.out
    replace f_A8 := frozen_of_block A8.out
    replace AG := Lib.hid (keepb AG.out N.out)
    replace c_AG := cell_of_block AG.out
    replace f_AG := frozen_of_block AG.out
    replace AV := Lib.hid (keepb AV.out N.out)
    replace c_AV := cell_of_block AV.out
    replace f_AV := frozen_of_block AV.out
    replace BA := Lib.hid (chain BA.out N.out)
    replace FS := fls_keep FS N
    replace FT := fls_keep FT N
    replace FV := fls_keep FV N
    clear N
    obtain ⟨-, v1, v2, v3, v4, -⟩ := fls_row FV (Below.refl _ _) 0 (by decide) ⟨1, nt0, 5, 1⟩ rfl
    simp only [Nat.zero_mul, Nat.add_zero, nt0] at v1 v2 v3 v4
    go_wp2_with fail
    refine (sdue_any 2 _ 1 0 [⟨1, ⟨1, 7, 0, 0⟩, 5, 1⟩] 9 4 _ FS.out (by decide) (by simp) (by decide)).mono ?_
    rintro e wg ⟨pg, capg, rfl, Ig, N⟩
    rw [show sdDue ⟨2, [⟨1, ⟨1, 7, 0, 0⟩, 5, 1⟩], 1, 0⟩ 9 4 = [1] by decide] at Ig ⊢
    replace A1 := Lib.hid (keepb A1.out N.out)
    replace c_A1 := cell_of_block A1.out
    replace f_A1 := frozen_of_block A1.out
    replace A2 := Lib.hid (keepb A2.out N.out)
    replace c_A2 := cell_of_block A2.out
    replace f_A2 := frozen_of_block A2.out
    replace A3 := Lib.hid (keepb A3.out N.out)
    replace c_A3 := cell_of_block A3.out
    replace f_A3 := frozen_of_block A3.out
    replace A8 := Lib.hid (keepb A8.out N.out)
    replace c_A8 := cell_of_block A8.out
    replace f_A8 := frozen_of_block A8.out
    replace AG := Lib.hid (keepb AG.out N.out)
    replace c_AG := cell_of_block AG.out
    replace f_AG := frozen_of_block AG.out
    replace AV := Lib.hid (keepb AV.out N.out)
    replace c_AV := cell_of_block AV.out
    replace f_AV := frozen_of_block AV.out
    replace BA := Lib.hid (chain BA.out N.out)
    replace FS := fls_keep FS N
    replace FT := fls_keep FT N
    clear N FV v1 v2 v3 v4 AV c_AV f_AV
    go_wp2_with fail
    refine (isame_any _ _ [1] [1] _ (Ig.out.keep (below_alloc _ _)) (ints_of_own (xs := [1]) (own_lit 3 1 wg.heap.size wg wg.heap.size #[.int .i64 1] 1 rfl (Nat.le_refl _) (by decide) rfl _ rfl)).2).mono ?_
    rintro e wh ⟨rfl, N0⟩
    have N := Lib.hid (chain (below_alloc wg (.cells #[.int .i64 1] 3)) N0.out)
    rw [show decide ([(1 : Int)] = [1]) = true by decide]
    replace A1 := Lib.hid (keepb A1.out N.out)
    replace c_A1 := cell_of_block A1.out
    replace f_A1 := frozen_of_block A1.out
    replace A2 := Lib.hid (keepb A2.out N.out)
    replace c_A2 := cell_of_block A2.out
    replace f_A2 := frozen_of_block A2.out
    replace A3 := Lib.hid (keepb A3.out N.out)
    replace c_A3 := cell_of_block A3.out
    replace f_A3 := frozen_of_block A3.out
    replace A8 := Lib.hid (keepb A8.out N.out)
    replace c_A8 := cell_of_block A8.out
    replace f_A8 := frozen_of_block A8.out
    replace AG := Lib.hid (keepb AG.out N.out)
    replace c_AG := cell_of_block AG.out
    replace f_AG := frozen_of_block AG.out
    replace BA := Lib.hid (chain BA.out N.out)
    replace FS := fls_keep FS N
    replace FT := fls_keep FT N
    clear N N0 Ig
    go_wp2_with fail
    refine (sdue_any 2 _ 1 0 [⟨1, ⟨1, 7, 0, 0⟩, 5, 1⟩] 8 4 _ FS.out (by decide) (by simp) (by decide)).mono ?_
    rintro e wi ⟨pi, capi, rfl, -, N⟩
    rw [show sdDue ⟨2, [⟨1, ⟨1, 7, 0, 0⟩, 5, 1⟩], 1, 0⟩ 8 4 = [] by decide]
    replace A1 := Lib.hid (keepb A1.out N.out)
    replace c_A1 := cell_of_block A1.out
    replace f_A1 := frozen_of_block A1.out
    replace A2 := Lib.hid (keepb A2.out N.out)
    replace c_A2 := cell_of_block A2.out
    replace f_A2 := frozen_of_block A2.out
    replace A3 := Lib.hid (keepb A3.out N.out)
    replace c_A3 := cell_of_block A3.out
    replace f_A3 := frozen_of_block A3.out
    replace A8 := Lib.hid (keepb A8.out N.out)
    replace c_A8 := cell_of_block A8.out
    replace f_A8 := frozen_of_block A8.out
    replace AG := Lib.hid (keepb AG.out N.out)
    replace c_AG := cell_of_block AG.out
    replace f_AG := frozen_of_block AG.out
    replace BA := Lib.hid (chain BA.out N.out)
    replace FS := fls_keep FS N
    replace FT := fls_keep FT N
    clear N
    go_wp2_with fail
    refine (slost_any 2 _ 2 0 [] _ FT.out (by decide) (by decide)).mono ?_
    rintro e wj ⟨pj, capj, rfl, -, N⟩
    rw [show max ((2 : Int) / 2) 1 = 1 by decide]
    replace A1 := Lib.hid (keepb A1.out N.out)
    replace c_A1 := cell_of_block A1.out
    replace f_A1 := frozen_of_block A1.out
    replace A2 := Lib.hid (keepb A2.out N.out)
    replace c_A2 := cell_of_block A2.out
    replace f_A2 := frozen_of_block A2.out
    replace A3 := Lib.hid (keepb A3.out N.out)
    replace c_A3 := cell_of_block A3.out
    replace f_A3 := frozen_of_block A3.out
    replace A8 := Lib.hid (keepb A8.out N.out)
    replace c_A8 := cell_of_block A8.out
    replace f_A8 := frozen_of_block A8.out
    replace AG := Lib.hid (keepb AG.out N.out)
    replace c_AG := cell_of_block AG.out
    replace f_AG := frozen_of_block AG.out
    replace BA := Lib.hid (chain BA.out N.out)
    replace FS := fls_keep FS N
    clear N FT
    have hfd := run_field_cwnd 2 (.slice pj 0 capj) 1 0
    go_wp2_with fail
    refine (sright_any 2 _ 1 0 [⟨1, ⟨1, 7, 0, 0⟩, 5, 1⟩] _ FS.out (by decide)).mono ?_
    rintro e wk ⟨rfl, N⟩
    rw [show sdRight ⟨2, [⟨1, ⟨1, 7, 0, 0⟩, 5, 1⟩], 1, 0⟩ = true by decide]
    replace A1 := Lib.hid (keepb A1.out N.out)
    replace c_A1 := cell_of_block A1.out
    replace f_A1 := frozen_of_block A1.out
    replace A2 := Lib.hid (keepb A2.out N.out)
    replace c_A2 := cell_of_block A2.out
    replace f_A2 := frozen_of_block A2.out
    replace A3 := Lib.hid (keepb A3.out N.out)
    replace c_A3 := cell_of_block A3.out
    replace f_A3 := frozen_of_block A3.out
    replace A8 := Lib.hid (keepb A8.out N.out)
    replace c_A8 := cell_of_block A8.out
    replace f_A8 := frozen_of_block A8.out
    replace AG := Lib.hid (keepb AG.out N.out)
    replace c_AG := cell_of_block AG.out
    replace f_AG := frozen_of_block AG.out
    replace BA := Lib.hid (chain BA.out N.out)
    clear N FS
    go_wp2_with fail
    refine (sright_any 0 _ 0 0 [] _ (sl_nil 7 _) (by decide)).mono ?_
    rintro e wl ⟨rfl, N⟩
    rw [show sdRight ⟨0, [], 0, 0⟩ = false by decide]
    replace BA := Lib.hid (chain BA.out N.out)
    clear N
    go_wp2_with fail
    go_ret
    exact ⟨rfl, BA⟩
  refine ⟨?_, ?_, ?_, ?_, ?_, ?_, ?_, ?_, ?_, ?_, ?_, ?_, trivial⟩
  · rintro l a wr h0 hd ⟨b0, b1, b2, b3, b4, b5, b6, b7, b8, b9, b10, b11, ux, uy, uk, uc, ug, un, ur, ue1, ue2, ue3, g2, g3, p, cap, rfl, rfl, XH, XB, X0, X1, X2, X3, X4, X5, X6, X7, X8, XD, X9, X10, X11⟩ K hK
    have h0 : b0 = false := h0
    subst h0
    go_simp
    go_at_call 27
    refine (sstart_any _).mono ?_
    rintro e w2 ⟨rfl, B⟩
    go_simp
    exact hK _ _ ⟨true, b1, b2, b3, b4, b5, b6, b7, b8, b9, b10, b11, ux, uy, uk, uc, .agg #[.int .i64 1, .slice none 0 0, .int .i64 1, .int .i64 0], un, ur, ue1, ue2, ue3, g2, g3, p, cap, rfl, rfl, Lib.hid (keepb XH.out B.out), Lib.hid (chain XB.out B.out), Lib.hid (fun _ => rfl), X1, Lib.hid (fun e => ⟨(X2.out e).1, PV.keep (fun h hb => Sl.keep (by decide) h hb) (X2.out e).2 B.out⟩), X3, X4, X5, X6, Lib.hid (fun e => ⟨(X7.out e).1, (X7.out e).2.keep B.out⟩), Lib.hid (fun e => ⟨(X8.out e).1, (X8.out e).2.keep B.out⟩), XD, X9, X10, X11⟩
  · rintro l a wr h0 hd ⟨b0, b1, b2, b3, b4, b5, b6, b7, b8, b9, b10, b11, ux, uy, uk, uc, ug, un, ur, ue1, ue2, ue3, g2, g3, p, cap, rfl, rfl, XH, XB, X0, X1, X2, X3, X4, X5, X6, X7, X8, XD, X9, X10, X11⟩ K hK
    have h0 : b1 = false := h0
    subst h0
    have cH := cell_of_block XH.out
    go_simp
    exact hK _ _ ⟨b0, true, b2, b3, b4, b5, b6, b7, b8, b9, b10, b11, ux, uy, uk, uc, ug, .agg #[.int .i64 1, .int .i64 7, .int .i64 0, .int .i64 0], ur, ue1, ue2, ue3, g2, g3, p, cap, rfl, rfl, XH, XB, X0, Lib.hid (fun _ => rfl), X2, X3, X4, X5, X6, X7, X8, XD, X9, X10, X11⟩
  · rintro l a wr h0 hd ⟨b0, b1, b2, b3, b4, b5, b6, b7, b8, b9, b10, b11, ux, uy, uk, uc, ug, un, ur, ue1, ue2, ue3, g2, g3, p, cap, rfl, rfl, XH, XB, X0, X1, X2, X3, X4, X5, X6, X7, X8, XD, X9, X10, X11⟩ K hK
    have h0 : b2 = false := h0
    subst h0
    obtain ⟨d0, d1, d2, -⟩ := (hd : UpAll _ [0, 1, 0])
    replace d0 : b0 = true := d0
    replace d1 : b1 = true := d1
    subst d0
    subst d1
    clear d2
    have q0 := X0.out rfl
    have q1 := X1.out rfl
    subst q0 q1
    go_simp
    go_at_call 14
    refine (spush_any 1 _ 1 0 [] ⟨1, 7, 0, 0⟩ 5 _ (sl_nil 7 _) (by decide) (by decide) (by decide) (by simp) ⟨2, [⟨1, ⟨1, 7, 0, 0⟩, 5, 1⟩], 1, 0⟩ ⟨1, ⟨1, 7, 0, 0⟩, 5, 1⟩ true (by decide)).mono ?_
    rintro e w2 ⟨p1, cap1, rfl, O, B⟩
    have hb3 : b3 = false := by cases b3; rfl; cases (X3.out rfl).1
    have hb4 : b4 = false := by cases b4; rfl; cases (X4.out rfl).1
    have HLT := Lib.hid (fun b o (e : p1 = some ⟨b, o, none⟩) => O.out.block b (by rw [e]; rfl))
    have HHS := block_lt XH.out
    go_simp
    exact hK _ _ ⟨true, true, true, b3, b4, b5, b6, b7, b8, b9, b10, b11, ux, uy, uk, uc, .agg #[.int .i64 1, .slice none 0 0, .int .i64 1, .int .i64 0], .agg #[.int .i64 1, .int .i64 7, .int .i64 0, .int .i64 0], .tuple #[.agg #[.int .i64 2, .slice p1 1 cap1, .int .i64 1, .int .i64 0], .agg #[.int .i64 1, .int .i64 1, .int .i64 7, .int .i64 0, .int .i64 0, .int .i64 5, .int .i64 1], .bool true], ue1, ue2, ue3, g2, g3, p1, cap1, rfl, rfl, Lib.hid (keepb XH.out B.out), Lib.hid (chain XB.out B.out), X0, X1, Lib.hid (fun _ => ⟨rfl, O.out.sl, fun b o e => ⟨by have := HLT.out b o e; omega, O.out.lt b (by rw [e]; rfl)⟩⟩), Lib.hid (fun e => by rw [hb3] at e; cases e), Lib.hid (fun e => by rw [hb4] at e; cases e), X5, X6, Lib.hid (fun e => ⟨(X7.out e).1, (X7.out e).2.born B.out HLT.out⟩), Lib.hid (fun e => ⟨(X8.out e).1, (X8.out e).2.born B.out HLT.out⟩), XD, X9, X10, X11⟩
  · rintro l a wr h0 hd ⟨b0, b1, b2, b3, b4, b5, b6, b7, b8, b9, b10, b11, ux, uy, uk, uc, ug, un, ur, ue1, ue2, ue3, g2, g3, p, cap, rfl, rfl, XH, XB, X0, X1, X2, X3, X4, X5, X6, X7, X8, XD, X9, X10, X11⟩ K hK
    have h0 : b3 = false := h0
    subst h0
    obtain ⟨d0, -⟩ := (hd : UpAll _ [2])
    replace d0 : b2 = true := d0
    subst d0
    have q2 := (X2.out rfl).1
    subst q2
    go_simp
    exact hK _ _ ⟨b0, b1, true, true, b4, b5, b6, b7, b8, b9, b10, b11, ux, uy, uk, .tuple #[.agg #[.int .i64 2, .slice p 1 cap, .int .i64 1, .int .i64 0], .agg #[.int .i64 1, .int .i64 1, .int .i64 7, .int .i64 0, .int .i64 0, .int .i64 5, .int .i64 1], .bool true], ug, un, .tuple #[.agg #[.int .i64 2, .slice p 1 cap, .int .i64 1, .int .i64 0], .agg #[.int .i64 1, .int .i64 1, .int .i64 7, .int .i64 0, .int .i64 0, .int .i64 5, .int .i64 1], .bool true], ue1, ue2, ue3, g2, g3, p, cap, rfl, rfl, XH, XB, X0, X1, X2, Lib.hid (fun _ => ⟨rfl, rfl⟩), X4, X5, X6, X7, X8, XD, X9, X10, X11⟩
  · rintro l a wr h0 hd ⟨b0, b1, b2, b3, b4, b5, b6, b7, b8, b9, b10, b11, ux, uy, uk, uc, ug, un, ur, ue1, ue2, ue3, g2, g3, p, cap, rfl, rfl, XH, XB, X0, X1, X2, X3, X4, X5, X6, X7, X8, XD, X9, X10, X11⟩ K hK
    have h0 : b4 = false := h0
    subst h0
    obtain ⟨d0, -⟩ := (hd : UpAll _ [3])
    replace d0 : b3 = true := d0
    subst d0
    obtain ⟨q2, q3⟩ := X3.out rfl
    subst q2 q3
    go_simp
    exact hK _ _ ⟨b0, b1, true, true, true, b5, b6, b7, b8, b9, b10, b11, ux, uy, uk, .tuple #[.agg #[.int .i64 2, .slice p 1 cap, .int .i64 1, .int .i64 0], .agg #[.int .i64 1, .int .i64 1, .int .i64 7, .int .i64 0, .int .i64 0, .int .i64 5, .int .i64 1], .bool true], ug, un, ur, .agg #[.int .i64 2, .slice p 1 cap, .int .i64 1, .int .i64 0], ue2, ue3, g2, g3, p, cap, rfl, rfl, XH, XB, X0, X1, X2, X3, Lib.hid (fun _ => ⟨rfl, rfl⟩), X5, X6, X7, X8, XD, X9, X10, X11⟩
  · rintro l a wr h0 hd ⟨b0, b1, b2, b3, b4, b5, b6, b7, b8, b9, b10, b11, ux, uy, uk, uc, ug, un, ur, ue1, ue2, ue3, g2, g3, p, cap, rfl, rfl, XH, XB, X0, X1, X2, X3, X4, X5, X6, X7, X8, XD, X9, X10, X11⟩ K hK
    have h0 : b5 = false := h0
    subst h0
    obtain ⟨d0, -⟩ := (hd : UpAll _ [3])
    replace d0 : b3 = true := d0
    subst d0
    obtain ⟨q2, q3⟩ := X3.out rfl
    subst q2 q3
    go_simp
    exact hK _ _ ⟨b0, b1, true, true, b4, true, b6, b7, b8, b9, b10, b11, ux, uy, uk, .tuple #[.agg #[.int .i64 2, .slice p 1 cap, .int .i64 1, .int .i64 0], .agg #[.int .i64 1, .int .i64 1, .int .i64 7, .int .i64 0, .int .i64 0, .int .i64 5, .int .i64 1], .bool true], ug, un, ur, ue1, .agg #[.int .i64 1, .int .i64 1, .int .i64 7, .int .i64 0, .int .i64 0, .int .i64 5, .int .i64 1], ue3, g2, g3, p, cap, rfl, rfl, XH, XB, X0, X1, X2, X3, X4, Lib.hid (fun _ => rfl), X6, X7, X8, XD, X9, X10, X11⟩
  · rintro l a wr h0 hd ⟨b0, b1, b2, b3, b4, b5, b6, b7, b8, b9, b10, b11, ux, uy, uk, uc, ug, un, ur, ue1, ue2, ue3, g2, g3, p, cap, rfl, rfl, XH, XB, X0, X1, X2, X3, X4, X5, X6, X7, X8, XD, X9, X10, X11⟩ K hK
    have h0 : b6 = false := h0
    subst h0
    obtain ⟨d0, -⟩ := (hd : UpAll _ [3])
    replace d0 : b3 = true := d0
    subst d0
    obtain ⟨q2, q3⟩ := X3.out rfl
    subst q2 q3
    go_simp
    exact hK _ _ ⟨b0, b1, true, true, b4, b5, true, b7, b8, b9, b10, b11, ux, uy, uk, .tuple #[.agg #[.int .i64 2, .slice p 1 cap, .int .i64 1, .int .i64 0], .agg #[.int .i64 1, .int .i64 1, .int .i64 7, .int .i64 0, .int .i64 0, .int .i64 5, .int .i64 1], .bool true], ug, un, ur, ue1, ue2, .bool true, g2, g3, p, cap, rfl, rfl, XH, XB, X0, X1, X2, X3, X4, X5, Lib.hid (fun _ => rfl), X7, X8, XD, X9, X10, X11⟩
  · rintro l a wr h0 hd ⟨b0, b1, b2, b3, b4, b5, b6, b7, b8, b9, b10, b11, ux, uy, uk, uc, ug, un, ur, ue1, ue2, ue3, g2, g3, p, cap, rfl, rfl, XH, XB, X0, X1, X2, X3, X4, X5, X6, X7, X8, XD, X9, X10, X11⟩ K hK
    have h0 : b7 = false := h0
    subst h0
    have hst : b9 = false := by cases b9; rfl; cases X9.out rfl
    subst hst
    go_simp
    exact hK _ _ ⟨b0, b1, b2, b3, b4, b5, b6, true, b8, false, b10, b11, .pointer (some ⟨wr.heap.size, 0, none⟩), uy, uk, uc, ug, un, ur, ue1, ue2, ue3, wr.heap.size, g3, p, cap, rfl, rfl, Lib.hid (keepb XH.out (below_alloc wr _)), Lib.hid (chain XB.out (below_alloc wr _)), X0, X1, Lib.hid (fun e => ⟨(X2.out e).1, PV.keep (fun h hb => Sl.keep (by decide) h hb) (X2.out e).2 (below_alloc wr _)⟩), X3, X4, X5, X6, Lib.hid (fun _ => ⟨rfl, Bx.new (block_lt XH.out) (fun e b o hb => ((X2.out e).2.2 b o hb).2)⟩), Lib.hid (fun e => ⟨(X8.out e).1, (X8.out e).2.keep (below_alloc wr _)⟩), Lib.hid (fun _ e he => by have := (X8.out e).2.2.1; omega), Lib.hid (fun e => by cases e), X10, X11⟩
  · rintro l a wr h0 hd ⟨b0, b1, b2, b3, b4, b5, b6, b7, b8, b9, b10, b11, ux, uy, uk, uc, ug, un, ur, ue1, ue2, ue3, g2, g3, p, cap, rfl, rfl, XH, XB, X0, X1, X2, X3, X4, X5, X6, X7, X8, XD, X9, X10, X11⟩ K hK
    have h0 : b8 = false := h0
    subst h0
    have hst : b10 = false := by cases b10; rfl; cases X10.out rfl
    subst hst
    go_simp
    exact hK _ _ ⟨b0, b1, b2, b3, b4, b5, b6, b7, true, b9, false, b11, ux, .pointer (some ⟨wr.heap.size, 0, none⟩), uk, uc, ug, un, ur, ue1, ue2, ue3, g2, wr.heap.size, p, cap, rfl, rfl, Lib.hid (keepb XH.out (below_alloc wr _)), Lib.hid (chain XB.out (below_alloc wr _)), X0, X1, Lib.hid (fun e => ⟨(X2.out e).1, PV.keep (fun h hb => Sl.keep (by decide) h hb) (X2.out e).2 (below_alloc wr _)⟩), X3, X4, X5, X6, Lib.hid (fun e => ⟨(X7.out e).1, (X7.out e).2.keep (below_alloc wr _)⟩), Lib.hid (fun _ => ⟨rfl, Bx.new (block_lt XH.out) (fun e b o hb => ((X2.out e).2.2 b o hb).2)⟩), Lib.hid (fun e _ he => by have := (X7.out e).2.2.1; omega), X9, Lib.hid (fun e => by cases e), X11⟩
  · rintro l a wr h0 hd ⟨b0, b1, b2, b3, b4, b5, b6, b7, b8, b9, b10, b11, ux, uy, uk, uc, ug, un, ur, ue1, ue2, ue3, g2, g3, p, cap, rfl, rfl, XH, XB, X0, X1, X2, X3, X4, X5, X6, X7, X8, XD, X9, X10, X11⟩ K hK
    have h0 : b9 = false := h0
    subst h0
    obtain ⟨d0, d1, d2, d3, d4, d5, d6, d7, d8, d9, -⟩ := (hd : UpAll _ [7, 4, 2, 0, 1, 2, 3, 4, 7, 8])
    replace d0 : b7 = true := d0
    replace d1 : b4 = true := d1
    replace d2 : b2 = true := d2
    replace d3 : b0 = true := d3
    replace d4 : b1 = true := d4
    replace d6 : b3 = true := d6
    replace d9 : b8 = true := d9
    subst d0
    subst d1
    subst d2
    subst d3
    subst d4
    clear d5
    subst d6
    clear d7
    clear d8
    subst d9
    obtain ⟨-, q4⟩ := X4.out rfl
    subst q4
    obtain ⟨q7, hbx⟩ := X7.out rfl
    subst q7
    have HBX := Lib.hid hbx
    have HZ := Lib.hid (hbx.2.2.1 rfl)
    have hlt := hbx.1
    clear hbx
    have cz := cell_of_block HZ.out
    have fz := frozen_of_block HZ.out
    go_simp
    exact hK _ _ ⟨true, true, true, true, true, b5, b6, true, true, true, b10, b11, .pointer (some ⟨g2, 0, none⟩), uy, uk, uc, ug, un, ur, .agg #[.int .i64 2, .slice p 1 cap, .int .i64 1, .int .i64 0], ue2, ue3, g2, g3, p, cap, rfl, rfl, Lib.hid (by rw [(show Only g2 wr _ from (by repeat (first | (with_reducible exact Only.refl _ _) | (with_reducible refine Only.set ?_ _ _)))).2 _ (by omega)]; exact XH.out), Lib.hid (by repeat (first | (with_reducible exact XB.out) | (with_reducible refine bel_set (by first | omega | (simp; omega)) ?_))), X0, X1, Lib.hid (fun e => ⟨(X2.out e).1, PV.only (fun h ho hne => Sl.only h ho hne) (X2.out e).2 (by repeat (first | (with_reducible exact Only.refl _ _) | (with_reducible refine Only.set ?_ _ _))) (HBX.out.2.2.2.2 e)⟩), X3, X4, X5, X6, Lib.hid (fun _ => ⟨rfl, HBX.out.fill (by repeat (first | (with_reducible exact Only.refl _ _) | (with_reducible refine Only.set ?_ _ _))) (by simp [World.setCell, Array.getElem?_modify, HZ.out])⟩), Lib.hid (fun e => ⟨(X8.out e).1, (X8.out e).2.only (by repeat (first | (with_reducible exact Only.refl _ _) | (with_reducible refine Only.set ?_ _ _))) (XD.out rfl e).symm⟩), XD, Lib.hid (fun _ => rfl), X10, X11⟩
  · rintro l a wr h0 hd ⟨b0, b1, b2, b3, b4, b5, b6, b7, b8, b9, b10, b11, ux, uy, uk, uc, ug, un, ur, ue1, ue2, ue3, g2, g3, p, cap, rfl, rfl, XH, XB, X0, X1, X2, X3, X4, X5, X6, X7, X8, XD, X9, X10, X11⟩ K hK
    have h0 : b10 = false := h0
    subst h0
    obtain ⟨d0, d1, d2, d3, d4, d5, d6, d7, d8, d9, d10, d11, -⟩ := (hd : UpAll _ [8, 5, 9, 0, 1, 2, 3, 4, 5, 7, 8, 9])
    replace d0 : b8 = true := d0
    replace d1 : b5 = true := d1
    replace d2 : b9 = true := d2
    replace d3 : b0 = true := d3
    replace d4 : b1 = true := d4
    replace d5 : b2 = true := d5
    replace d6 : b3 = true := d6
    replace d7 : b4 = true := d7
    replace d9 : b7 = true := d9
    subst d0
    subst d1
    subst d2
    subst d3
    subst d4
    subst d5
    subst d6
    subst d7
    clear d8
    subst d9
    clear d10
    clear d11
    have q5 := X5.out rfl
    subst q5
    obtain ⟨q7, hbx⟩ := X8.out rfl
    subst q7
    have HBX := Lib.hid hbx
    have HZ := Lib.hid (hbx.2.2.1 rfl)
    have hlt := hbx.1
    clear hbx
    have cz := cell_of_block HZ.out
    have fz := frozen_of_block HZ.out
    go_simp
    exact hK _ _ ⟨true, true, true, true, true, true, b6, true, true, true, true, b11, ux, .pointer (some ⟨g3, 0, none⟩), uk, uc, ug, un, ur, ue1, .agg #[.int .i64 1, .int .i64 1, .int .i64 7, .int .i64 0, .int .i64 0, .int .i64 5, .int .i64 1], ue3, g2, g3, p, cap, rfl, rfl, Lib.hid (by rw [(show Only g3 wr _ from (by repeat (first | (with_reducible exact Only.refl _ _) | (with_reducible refine Only.set ?_ _ _)))).2 _ (by omega)]; exact XH.out), Lib.hid (by repeat (first | (with_reducible exact XB.out) | (with_reducible refine bel_set (by first | omega | (simp; omega)) ?_))), X0, X1, Lib.hid (fun e => ⟨(X2.out e).1, PV.only (fun h ho hne => Sl.only h ho hne) (X2.out e).2 (by repeat (first | (with_reducible exact Only.refl _ _) | (with_reducible refine Only.set ?_ _ _))) (HBX.out.2.2.2.2 e)⟩), X3, X4, X5, X6, Lib.hid (fun e => ⟨(X7.out e).1, (X7.out e).2.only (by repeat (first | (with_reducible exact Only.refl _ _) | (with_reducible refine Only.set ?_ _ _))) (XD.out e rfl)⟩), Lib.hid (fun _ => ⟨rfl, HBX.out.fill (by repeat (first | (with_reducible exact Only.refl _ _) | (with_reducible refine Only.set ?_ _ _))) (by simp [World.setCell, Array.getElem?_modify, HZ.out])⟩), XD, X9, Lib.hid (fun _ => rfl), X11⟩
  · rintro l a wr h0 hd ⟨b0, b1, b2, b3, b4, b5, b6, b7, b8, b9, b10, b11, ux, uy, uk, uc, ug, un, ur, ue1, ue2, ue3, g2, g3, p, cap, rfl, rfl, XH, XB, X0, X1, X2, X3, X4, X5, X6, X7, X8, XD, X9, X10, X11⟩ K hK
    have h0 : b11 = false := h0
    subst h0
    obtain ⟨d0, d1, d2, d3, d4, d5, d6, d7, d8, d9, d10, d11, d12, -⟩ := (hd : UpAll _ [6, 10, 0, 1, 2, 3, 4, 5, 6, 7, 8, 9, 10])
    replace d0 : b6 = true := d0
    replace d1 : b10 = true := d1
    replace d2 : b0 = true := d2
    replace d3 : b1 = true := d3
    replace d4 : b2 = true := d4
    replace d5 : b3 = true := d5
    replace d6 : b4 = true := d6
    replace d7 : b5 = true := d7
    replace d9 : b7 = true := d9
    replace d10 : b8 = true := d10
    replace d11 : b9 = true := d11
    subst d0
    subst d1
    subst d2
    subst d3
    subst d4
    subst d5
    subst d6
    subst d7
    clear d8
    subst d9
    subst d10
    subst d11
    clear d12
    have q6 := X6.out rfl
    subst q6
    go_simp
    exact hK _ _ ⟨true, true, true, true, true, true, true, true, true, true, true, true, ux, uy, .bool true, uc, ug, un, ur, ue1, ue2, .bool true, g2, g3, p, cap, rfl, rfl, XH, XB, X0, X1, X2, X3, X4, X5, X6, X7, X8, XD, X9, X10, Lib.hid (fun _ => rfl)⟩
end Go.Proofs.Ytmhfbngielihcaa.K

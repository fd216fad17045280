/-
  CONTRACT of 'small' of nightjarlaw12.
-/
import Derived.Test.YteilgibfmljoeaaChan3
set_option linter.unusedVariables false
set_option linter.unusedSimpArgs false
namespace Go.Proofs.Yteilgibfmljoeaa.K
open Go Go.RowKit Nj

theorem cright_at (n : Int) (v : Value) (c a : Int) (r : Rt) (l : List Fl) (b : Bool) (w : World) (h : Fls w v l) (hn : n ≤ 9223372036854775807) (hb : chRight ⟨⟨n, l, c, a⟩, r⟩ = b) :
    Calls Try.prog 10 #[.agg #[.int .i64 n, v, .int .i64 c, .int .i64 a, .int .i64 r.s, .int .i64 r.v, .int .i64 r.rto, .int .i64 r.fails, .bool r.has]] w fun e w' => e = .returned (.bool b) ∧ Hid (Below w.heap.size w w') := by
  subst hb; exact cright_any n v c a r l w h hn
theorem csame_at (n : Int) (v : Value) (c a : Int) (r : Rt) (l : List Fl) (n' : Int) (v' : Value) (c' a' : Int) (r' : Rt) (l' : List Fl) (b : Bool) (w : World) (h : Fls w v l) (h' : Fls w v' l') (hb : decide (Ch.mk ⟨n, l, c, a⟩ r = Ch.mk ⟨n', l', c', a'⟩ r') = b) :
    Calls Try.prog 14 #[.agg #[.int .i64 n, v, .int .i64 c, .int .i64 a, .int .i64 r.s, .int .i64 r.v, .int .i64 r.rto, .int .i64 r.fails, .bool r.has], .agg #[.int .i64 n', v', .int .i64 c', .int .i64 a', .int .i64 r'.s, .int .i64 r'.v, .int .i64 r'.rto, .int .i64 r'.fails, .bool r'.has]] w fun e w' => e = .returned (.bool b) ∧ Hid (Below w.heap.size w w') := by
  subst hb; exact csame_any n v c a r l n' v' c' a' r' l' w h h'
theorem cidle_at (n : Int) (v : Value) (c a : Int) (r : Rt) (l : List Fl) (b : Bool) (w : World) (h : Fls w v l) (hb : decide (l = []) = b) :
    Calls Try.prog 13 #[.agg #[.int .i64 n, v, .int .i64 c, .int .i64 a, .int .i64 r.s, .int .i64 r.v, .int .i64 r.rto, .int .i64 r.fails, .bool r.has]] w fun e w' => e = .returned (.bool b) ∧ Hid (Below w.heap.size w w') := by
  subst hb; exact cidle_any n v c a r l w h

def fc1 : Fl := ⟨1, ⟨1, 7, 0, 0⟩, 0, 1⟩
def FP12 (w : World) (p : Option Addr) (cap : Nat) : Prop := Fls w (.slice p 1 cap) [⟨1, ⟨1, 7, 0, 0⟩, 0, 1⟩]
set_option maxRecDepth 100000 in
def PI12 (w0 : World) (l : Array Bool) (a : Act) (w : World) : Prop :=
  ∃ (b0 b1 b2 b3 b4 b5 b6 b7 b8 b9 b10 b11 : Bool) (ux uy uk uc ug un ur ue1 ue2 ue3 : Value) (g2 g3 : Nat) (p : Option Addr) (cap : Nat),
    l = #[b0, b1, b2, b3, b4, b5, b6, b7, b8, b9, b10, b11] ∧ a = ⟨List.toArray (.bool false :: .pointer (some ⟨w0.heap.size, 0, none⟩) :: ux :: uy :: uk :: undef :: undef :: undef :: undef :: undef :: undef :: undef :: .agg #[.int .i64 1, .int .i64 7, .int .i64 0, .int .i64 0] :: uc :: ug :: un :: ur :: ue1 :: ue2 :: ue3 :: undef :: undef :: undef :: undef :: undef :: undef :: undef :: undef :: undef :: undef :: undef :: undef :: undef :: undef :: undef :: undef :: undef :: undef :: undef :: undef :: undef :: undef :: undef :: undef :: undef :: undef :: undef :: undef :: undef :: undef :: undef :: undef :: undef :: undef :: undef :: undef :: undef :: undef :: undef :: undef :: undef :: undef :: undef :: undef :: undef :: undef :: undef :: undef :: undef :: undef :: undef :: undef :: undef :: undef :: undef :: undef :: undef :: undef :: undef :: undef :: undef :: undef :: undef :: undef :: undef :: undef :: undef :: undef :: undef :: undef :: undef :: undef :: undef :: undef :: undef :: undef :: undef :: undef :: undef :: undef :: undef :: undef :: undef :: undef :: []), []⟩ ∧
    Hid (w.heap[w0.heap.size]? = some (.cells #[.int .i64 1, .int .i64 7, .int .i64 0, .int .i64 0] 38)) ∧ Hid (Below w0.heap.size w0 w) ∧
    Hid (b0 = true → ug = .agg #[.int .i64 1, .slice none 0 0, .int .i64 1, .int .i64 0, .int .i64 0, .int .i64 0, .int .i64 8, .int .i64 0, .bool false]) ∧ Hid (b1 = true → un = .agg #[.int .i64 1, .int .i64 7, .int .i64 0, .int .i64 0]) ∧ Hid (b2 = true → ur = .tuple #[.agg #[.int .i64 2, .slice p 1 cap, .int .i64 1, .int .i64 0, .int .i64 0, .int .i64 0, .int .i64 8, .int .i64 0, .bool false], .agg #[.int .i64 1, .int .i64 1, .int .i64 7, .int .i64 0, .int .i64 0, .int .i64 0, .int .i64 1], .bool true] ∧ PV FP12 w0.heap.size p cap w) ∧
    Hid (b3 = true → b2 = true ∧ uc = .tuple #[.agg #[.int .i64 2, .slice p 1 cap, .int .i64 1, .int .i64 0, .int .i64 0, .int .i64 0, .int .i64 8, .int .i64 0, .bool false], .agg #[.int .i64 1, .int .i64 1, .int .i64 7, .int .i64 0, .int .i64 0, .int .i64 0, .int .i64 1], .bool true]) ∧ Hid (b4 = true → b2 = true ∧ ue1 = .agg #[.int .i64 2, .slice p 1 cap, .int .i64 1, .int .i64 0, .int .i64 0, .int .i64 0, .int .i64 8, .int .i64 0, .bool false]) ∧ Hid (b5 = true → ue2 = .agg #[.int .i64 1, .int .i64 1, .int .i64 7, .int .i64 0, .int .i64 0, .int .i64 0, .int .i64 1]) ∧ Hid (b6 = true → ue3 = .bool true) ∧
    Hid (b7 = true → ux = .pointer (some ⟨g2, 0, none⟩) ∧ Bx w0.heap.size g2 (.cells #[.int .i64 0, .slice none 0 0, .int .i64 0, .int .i64 0, .int .i64 0, .int .i64 0, .int .i64 0, .int .i64 0, .bool false] 28) (.cells #[.int .i64 2, .slice p 1 cap, .int .i64 1, .int .i64 0, .int .i64 0, .int .i64 0, .int .i64 8, .int .i64 0, .bool false] 28) b9 b2 p w) ∧
    Hid (b8 = true → uy = .pointer (some ⟨g3, 0, none⟩) ∧ Bx w0.heap.size g3 (.cells #[.int .i64 0, .int .i64 0, .int .i64 0, .int .i64 0, .int .i64 0, .int .i64 0, .int .i64 0] 40) (.cells #[.int .i64 1, .int .i64 1, .int .i64 7, .int .i64 0, .int .i64 0, .int .i64 0, .int .i64 1] 40) b10 b2 p w) ∧
    Hid (b7 = true → b8 = true → g2 ≠ g3) ∧ Hid (b9 = true → b7 = true) ∧ Hid (b10 = true → b8 = true) ∧ Hid (b11 = true → uk = .bool true)
set_option maxRecDepth 100000 in
set_option maxHeartbeats 4000000 in
theorem small12_any (w : World) :
    Calls Try.prog 9 #[] w fun e w' => e = .returned (.bool true) ∧ Hid (Below w.heap.size w w') := by
  go_enter Try.func9, Try.ntmps9
  go_upto_region 2 with fail
  refine gen_wp (fun w1 => Hid (w1.heap[w.heap.size]? = some (.cells #[.int .i64 1, .int .i64 7, .int .i64 0, .int .i64 0] 38)) ∧ Hid (Below w.heap.size w w1) ∧ True) ⟨Lib.hid (by first | (simp [World.setCell, Array.getElem?_modify]; done) | (simp [World.setCell, Array.getElem?_modify]; omega) | ((repeat (first | (with_reducible exact heap_new _ _ _ (by first | rfl | (simp; done))) | (with_reducible refine keepa ?_ _) | (simp [World.setCell, Array.getElem?_modify]; done))); done)), Lib.hid (by (repeat (first | (with_reducible exact Below.refl _ _) | (with_reducible refine bel_set (by first | omega | (simp; done) | (simp; omega)) ?_) | (with_reducible refine bel_alloc (by first | omega | (simp; done) | (simp; omega)) ?_) | (with_reducible refine bel_drew ?_) | (with_reducible refine bel_drewN ?_ _))); first | done | fail "left"), trivial⟩ ?_
  rintro w1 ⟨A1, BA, -⟩
  have c_A1 := cell_of_block A1.out
  have f_A1 := frozen_of_block A1.out
  refine wp_region_inv (PI12 w) (by kernel_rfl) (by kernel_rfl) ?_ ?_ ?_
  · exact ⟨false, false, false, false, false, false, false, false, false, false, false, false, _, _, _, _, _, _, _, _, _, _, 0, 0, none, 0, rfl, rfl, A1, Lib.hid (bel_drew BA.out), Lib.hid (fun e => by cases e), Lib.hid (fun e => by cases e), Lib.hid (fun e => by cases e), Lib.hid (fun e => by cases e), Lib.hid (fun e => by cases e), Lib.hid (fun e => by cases e), Lib.hid (fun e => by cases e), Lib.hid (fun e => by cases e), Lib.hid (fun e => by cases e), Lib.hid (fun e => by cases e), Lib.hid (fun e => by cases e), Lib.hid (fun e => by cases e), Lib.hid (fun e => by cases e)⟩
  · rintro a wx ⟨b0, b1, b2, b3, b4, b5, b6, b7, b8, b9, b10, b11, ux, uy, uk, uc, ug, un, ur, ue1, ue2, ue3, g2, g3, p, cap, hl, rfl, XH, XB, X0, X1, X2, X3, X4, X5, X6, X7, X8, XD, X9, X10, X11⟩
    replace hl : #[true, true, true, true, true, true, true, true, true, true, true, true] = #[b0, b1, b2, b3, b4, b5, b6, b7, b8, b9, b10, b11] := hl
    cases hl
    obtain ⟨q2, hpv, hlp⟩ := X2.out rfl
    obtain ⟨-, q3⟩ := X3.out rfl
    obtain ⟨-, q4⟩ := X4.out rfl
    obtain ⟨q7, h7a, h7b, -, h7c, -⟩ := X7.out rfl
    obtain ⟨q8, h8a, h8b, -, h8c, -⟩ := X8.out rfl
    have q0 := X0.out rfl
    have q1 := X1.out rfl
    have q5 := X5.out rfl
    have q6 := X6.out rfl
    have q11 := X11.out rfl
    subst q0 q1 q2 q3 q4 q5 q6 q7 q8 q11
    have A2 := Lib.hid (h7c rfl).2
    have A3 := Lib.hid (h8c rfl).2
    have FS := Lib.hid (show Fls wx (.slice p 1 cap) [fc1] from hpv)
    replace A1 := XH
    replace BA := XB
    clear X0 X1 X2 X3 X4 X5 X6 X7 X8 XD X9 X10 X11 hpv hlp h7a h7b h7c h8a h8b h8c c_A1 f_A1 XH XB
    have c_A1 := cell_of_block A1.out
    have f_A1 := frozen_of_block A1.out
    have c_A2 := cell_of_block A2.out
    have f_A2 := frozen_of_block A2.out
    have c_A3 := cell_of_block A3.out
    have f_A3 := frozen_of_block A3.out
    go_wp2_with fail
    refine (ctick_any 2 _ 1 0 ⟨0, 0, 8, 0, false⟩ [fc1] 7 4 _ FS.out (by decide) (by decide) (by decide) (by decide) ⟨⟨2, [fc1], 1, 0⟩, ⟨0, 0, 8, 0, false⟩⟩ [] (by decide)).mono ?_
    rintro e w2 ⟨p2, cap2, po2, capo2, rfl, O2, -, B2⟩
    replace A1 := Lib.hid (keepb A1.out B2.out)
    replace c_A1 := cell_of_block A1.out
    replace f_A1 := frozen_of_block A1.out
    replace A2 := Lib.hid (keepb A2.out B2.out)
    replace c_A2 := cell_of_block A2.out
    replace f_A2 := frozen_of_block A2.out
    replace A3 := Lib.hid (keepb A3.out B2.out)
    replace c_A3 := cell_of_block A3.out
    replace f_A3 := frozen_of_block A3.out
    replace BA := Lib.hid (chain BA.out B2.out)
    replace FS := fls_keep FS B2
    have FD : Hid (Fls w2 (.slice p2 1 cap2) [fc1]) := Lib.hid O2.out.sl
    clear O2 B2
    simp only [List.length_cons, List.length_nil, Nat.zero_add]
    go_upto_region 4 with fail
    refine gen_wp (fun w3 => Hid (Below w2.heap.size w2 w3) ∧ Hid (w3.heap[w2.heap.size]? = some (.cells #[.int .i64 2, .slice p2 1 cap2, .int .i64 1, .int .i64 0, .int .i64 0, .int .i64 0, .int .i64 8, .int .i64 0, .bool false] 28)) ∧ True) ⟨Lib.hid (by (repeat (first | (with_reducible exact Below.refl _ _) | (with_reducible refine bel_set (by first | omega | (simp; done) | (simp; omega)) ?_) | (with_reducible refine bel_alloc (by first | omega | (simp; done) | (simp; omega)) ?_) | (with_reducible refine bel_drew ?_) | (with_reducible refine bel_drewN ?_ _))); first | done | fail "left"), Lib.hid (by first | (simp [World.setCell, Array.getElem?_modify, A1.out, A2.out, A3.out]; done) | (simp [World.setCell, Array.getElem?_modify, A1.out, A2.out, A3.out]; omega) | ((repeat (first | (with_reducible exact A1.out) | (with_reducible exact A2.out) | (with_reducible exact A3.out) | (with_reducible exact heap_new _ _ _ (by first | rfl | (simp; done))) | (with_reducible refine keepa ?_ _) | (simp [World.setCell, Array.getElem?_modify, A1.out, A2.out, A3.out]; done))); done)), trivial⟩ ?_
    clear c_A1 f_A1 c_A2 f_A2 c_A3 f_A3
    rintro w3 ⟨N, A5, -⟩
    have c_A5 := cell_of_block A5.out
    have f_A5 := frozen_of_block A5.out
    replace A1 := Lib.hid (keepb A1.out N.out)
    replace c_A1 := cell_of_block A1.out
    replace f_A1 := frozen_of_block A1.out
    replace A2 := Lib.hid (keepb A2.out N.out)
    replace c_A2 := cell_of_block A2.out
    replace f_A2 := frozen_of_block A2.out
    replace A3 := Lib.hid (keepb A3.out N.out)
    replace c_A3 := cell_of_block A3.out
    replace f_A3 := frozen_of_block A3.out
    replace BA := Lib.hid (chain BA.out N.out)
    replace FS := fls_keep FS N
    replace FD := fls_keep FD N
    clear N
    go_wp2_with fail
    refine (ctick_any 2 _ 1 0 ⟨0, 0, 8, 0, false⟩ [fc1] 8 4 _ FS.out (by decide) (by decide) (by decide) (by decide) ⟨⟨2, [⟨1, ⟨1, 7, 0, 0⟩, 8, 2⟩], 1, 0⟩, ⟨0, 0, 16, 1, false⟩⟩ [⟨1, ⟨1, 7, 0, 0⟩, 8, 2⟩] (by decide)).mono ?_
    rintro e w4 ⟨p4, cap4, po4, capo4, rfl, -, O4, B4⟩
    replace A1 := Lib.hid (keepb A1.out B4.out)
    replace c_A1 := cell_of_block A1.out
    replace f_A1 := frozen_of_block A1.out
    replace A2 := Lib.hid (keepb A2.out B4.out)
    replace c_A2 := cell_of_block A2.out
    replace f_A2 := frozen_of_block A2.out
    replace A3 := Lib.hid (keepb A3.out B4.out)
    replace c_A3 := cell_of_block A3.out
    replace f_A3 := frozen_of_block A3.out
    replace A5 := Lib.hid (keepb A5.out B4.out)
    replace c_A5 := cell_of_block A5.out
    replace f_A5 := frozen_of_block A5.out
    replace BA := Lib.hid (chain BA.out B4.out)
    replace FS := fls_keep FS B4
    replace FD := fls_keep FD B4
    have FL : Hid (Fls w4 (.slice po4 1 capo4) [⟨1, ⟨1, 7, 0, 0⟩, 8, 2⟩]) := Lib.hid O4.out.sl
    clear O4 B4
    simp only [List.length_cons, List.length_nil, Nat.zero_add]
    go_upto_region 5 with fail
    refine gen_wp (fun w5 => Hid (Below w4.heap.size w4 w5) ∧ Hid (w5.heap[w4.heap.size]? = some (.cells #[.int .i64 2, .slice p4 1 cap4, .int .i64 1, .int .i64 0, .int .i64 0, .int .i64 0, .int .i64 16, .int .i64 1, .bool false] 28)) ∧ True) ⟨Lib.hid (by (repeat (first | (with_reducible exact Below.refl _ _) | (with_reducible refine bel_set (by first | omega | (simp; done) | (simp; omega)) ?_) | (with_reducible refine bel_alloc (by first | omega | (simp; done) | (simp; omega)) ?_) | (with_reducible refine bel_drew ?_) | (with_reducible refine bel_drewN ?_ _))); first | done | fail "left"), Lib.hid (by first | (simp [World.setCell, Array.getElem?_modify, A1.out, A2.out, A3.out, A5.out]; done) | (simp [World.setCell, Array.getElem?_modify, A1.out, A2.out, A3.out, A5.out]; omega) | ((repeat (first | (with_reducible exact A1.out) | (with_reducible exact A2.out) | (with_reducible exact A3.out) | (with_reducible exact A5.out) | (with_reducible exact heap_new _ _ _ (by first | rfl | (simp; done))) | (with_reducible refine keepa ?_ _) | (simp [World.setCell, Array.getElem?_modify, A1.out, A2.out, A3.out, A5.out]; done))); done)), trivial⟩ ?_
    clear c_A1 f_A1 c_A2 f_A2 c_A3 f_A3 c_A5 f_A5
    rintro w5 ⟨N, A7, -⟩
    have c_A7 := cell_of_block A7.out
    have f_A7 := frozen_of_block A7.out
    replace A1 := Lib.hid (keepb A1.out N.out)
    replace c_A1 := cell_of_block A1.out
    replace f_A1 := frozen_of_block A1.out
    replace A2 := Lib.hid (keepb A2.out N.out)
    replace c_A2 := cell_of_block A2.out
    replace f_A2 := frozen_of_block A2.out
    replace A3 := Lib.hid (keepb A3.out N.out)
    replace c_A3 := cell_of_block A3.out
    replace f_A3 := frozen_of_block A3.out
    replace A5 := Lib.hid (keepb A5.out N.out)
    replace c_A5 := cell_of_block A5.out
    replace f_A5 := frozen_of_block A5.out
    replace BA := Lib.hid (chain BA.out N.out)
    replace FS := fls_keep FS N
    replace FD := fls_keep FD N
    replace FL := fls_keep FL N
    clear N
    go_wp2_with fail
    refine (ctick_any 2 _ 1 0 ⟨0, 0, 8, 0, false⟩ [fc1] 8 0 _ FS.out (by decide) (by decide) (by decide) (by decide) ⟨⟨2, [fc1], 1, 0⟩, ⟨0, 0, 8, 0, false⟩⟩ [] (by decide)).mono ?_
    rintro e w6 ⟨p6, cap6, po6, capo6, rfl, -, -, B6⟩
    replace A1 := Lib.hid (keepb A1.out B6.out)
    replace c_A1 := cell_of_block A1.out
    replace f_A1 := frozen_of_block A1.out
    replace A2 := Lib.hid (keepb A2.out B6.out)
    replace c_A2 := cell_of_block A2.out
    replace f_A2 := frozen_of_block A2.out
    replace A3 := Lib.hid (keepb A3.out B6.out)
    replace c_A3 := cell_of_block A3.out
    replace f_A3 := frozen_of_block A3.out
    replace A5 := Lib.hid (keepb A5.out B6.out)
    replace c_A5 := cell_of_block A5.out
    replace f_A5 := frozen_of_block A5.out
    replace A7 := Lib.hid (keepb A7.out B6.out)
    replace c_A7 := cell_of_block A7.out
    replace f_A7 := frozen_of_block A7.out
    replace BA := Lib.hid (chain BA.out B6.out)
    replace FS := fls_keep FS B6
    replace FD := fls_keep FD B6
    replace FL := fls_keep FL B6
    clear B6
    simp only [List.length_cons, List.length_nil, Nat.zero_add]
    go_upto_region 6 with fail
    refine gen_wp (fun w7 => Hid (Below w6.heap.size w6 w7) ∧ True) ⟨Lib.hid (by (repeat (first | (with_reducible exact Below.refl _ _) | (with_reducible refine bel_set (by first | omega | (simp; done) | (simp; omega)) ?_) | (with_reducible refine bel_alloc (by first | omega | (simp; done) | (simp; omega)) ?_) | (with_reducible refine bel_drew ?_) | (with_reducible refine bel_drewN ?_ _))); first | done | fail "left"), trivial⟩ ?_
    clear c_A1 f_A1 c_A2 f_A2 c_A3 f_A3 c_A5 f_A5 c_A7 f_A7
    rintro w7 ⟨N, -⟩
    replace A1 := Lib.hid (keepb A1.out N.out)
    replace c_A1 := cell_of_block A1.out
    replace f_A1 := frozen_of_block A1.out
    replace A2 := Lib.hid (keepb A2.out N.out)
    replace c_A2 := cell_of_block A2.out
    replace f_A2 := frozen_of_block A2.out
    replace A3 := Lib.hid (keepb A3.out N.out)
    replace c_A3 := cell_of_block A3.out
    replace f_A3 := frozen_of_block A3.out
    replace A5 := Lib.hid (keepb A5.out N.out)
    replace c_A5 := cell_of_block A5.out
    replace f_A5 := frozen_of_block A5.out
    replace A7 := Lib.hid (keepb A7.out N.out)
    replace c_A7 := cell_of_block A7.out
    replace f_A7 := frozen_of_block A7.out
    replace BA := Lib.hid (chain BA.out N.out)
    replace FS := fls_keep FS N
    replace FD := fls_keep FD N
    replace FL := fls_keep FL N
    clear N
    go_wp2_with fail
    refine (cack_any 2 _ 1 0 ⟨0, 0, 8, 0, false⟩ [fc1] 1 0 3 _ FS.out (by decide) (by decide) ⟨⟨2, [], 2, 0⟩, ⟨24, 6, 9, 0, true⟩⟩ (by decide)).mono ?_
    rintro e w8 ⟨p8, cap8, rfl, O8, B8⟩
    replace A1 := Lib.hid (keepb A1.out B8.out)
    replace c_A1 := cell_of_block A1.out
    replace f_A1 := frozen_of_block A1.out
    replace A2 := Lib.hid (keepb A2.out B8.out)
    replace c_A2 := cell_of_block A2.out
    replace f_A2 := frozen_of_block A2.out
    replace A3 := Lib.hid (keepb A3.out B8.out)
    replace c_A3 := cell_of_block A3.out
    replace f_A3 := frozen_of_block A3.out
    replace A5 := Lib.hid (keepb A5.out B8.out)
    replace c_A5 := cell_of_block A5.out
    replace f_A5 := frozen_of_block A5.out
    replace A7 := Lib.hid (keepb A7.out B8.out)
    replace c_A7 := cell_of_block A7.out
    replace f_A7 := frozen_of_block A7.out
    replace BA := Lib.hid (chain BA.out B8.out)
    replace FS := fls_keep FS B8
    replace FD := fls_keep FD B8
    replace FL := fls_keep FL B8
    have FG : Hid (Fls w8 (.slice p8 0 cap8) []) := Lib.hid O8.out.sl
    clear O8 B8
    simp only [List.length_nil]
    go_upto_region 7 with fail
    refine gen_wp (fun w9 => Hid (Below w8.heap.size w8 w9) ∧ Hid (w9.heap[w8.heap.size]? = some (.cells #[.int .i64 2, .slice p8 0 cap8, .int .i64 2, .int .i64 0, .int .i64 24, .int .i64 6, .int .i64 9, .int .i64 0, .bool true] 28)) ∧ True) ⟨Lib.hid (by (repeat (first | (with_reducible exact Below.refl _ _) | (with_reducible refine bel_set (by first | omega | (simp; done) | (simp; omega)) ?_) | (with_reducible refine bel_alloc (by first | omega | (simp; done) | (simp; omega)) ?_) | (with_reducible refine bel_drew ?_) | (with_reducible refine bel_drewN ?_ _))); first | done | fail "left"), Lib.hid (by first | (simp [World.setCell, Array.getElem?_modify, A1.out, A2.out, A3.out, A5.out, A7.out]; done) | (simp [World.setCell, Array.getElem?_modify, A1.out, A2.out, A3.out, A5.out, A7.out]; omega) | ((repeat (first | (with_reducible exact A1.out) | (with_reducible exact A2.out) | (with_reducible exact A3.out) | (with_reducible exact A5.out) | (with_reducible exact A7.out) | (with_reducible exact heap_new _ _ _ (by first | rfl | (simp; done))) | (with_reducible refine keepa ?_ _) | (simp [World.setCell, Array.getElem?_modify, A1.out, A2.out, A3.out, A5.out, A7.out]; done))); done)), trivial⟩ ?_
    clear c_A1 f_A1 c_A2 f_A2 c_A3 f_A3 c_A5 f_A5 c_A7 f_A7
    rintro w9 ⟨N, A11, -⟩
    have c_A11 := cell_of_block A11.out
    have f_A11 := frozen_of_block A11.out
    replace A1 := Lib.hid (keepb A1.out N.out)
    replace c_A1 := cell_of_block A1.out
    replace f_A1 := frozen_of_block A1.out
    replace A2 := Lib.hid (keepb A2.out N.out)
    replace c_A2 := cell_of_block A2.out
    replace f_A2 := frozen_of_block A2.out
    replace A3 := Lib.hid (keepb A3.out N.out)
    replace c_A3 := cell_of_block A3.out
    replace f_A3 := frozen_of_block A3.out
    replace A5 := Lib.hid (keepb A5.out N.out)
    replace c_A5 := cell_of_block A5.out
    replace f_A5 := frozen_of_block A5.out
    replace A7 := Lib.hid (keepb A7.out N.out)
    replace c_A7 := cell_of_block A7.out
    replace f_A7 := frozen_of_block A7.out
    replace BA := Lib.hid (chain BA.out N.out)
    replace FS := fls_keep FS N
    replace FD := fls_keep FD N
    replace FL := fls_keep FL N
    replace FG := fls_keep FG N
    clear N
    obtain ⟨bl, ol, rfl, -⟩ := FL.out.open (by decide)
    go_wp2_with fail
    have HL := Lib.hid (fun d os => fls_row FL (below_regrown w9 d os) 0 (by decide) ⟨1, ⟨1, 7, 0, 0⟩, 8, 2⟩ rfl)
    have v0 := fun d os => (HL.out d os).1
    have v1 := fun d os => (HL.out d os).2.1
    have v2 := fun d os => (HL.out d os).2.2.1
    have v3 := fun d os => (HL.out d os).2.2.2.1
    have v4 := fun d os => (HL.out d os).2.2.2.2.1
    have v5 := fun d os => (HL.out d os).2.2.2.2.2.1
    have v6 := fun d os => (HL.out d os).2.2.2.2.2.2
    simp only [Nat.zero_mul, Nat.add_zero] at v0 v1 v2 v3 v4 v5 v6
    have HC1 := Lib.hid (fun d os => reg_of (csame_at 2 (.slice p2 1 cap2) 1 0 ⟨0, 0, 8, 0, false⟩ [fc1] 2 (.slice p 1 cap) 1 0 ⟨0, 0, 8, 0, false⟩ [fc1] true (Go.Sort.grow (redrawn w9 d) os) (FD.out.regrown (by decide) d os) (FS.out.regrown (by decide) d os) (by decide)))
    have HC2 := Lib.hid (fun d os => reg_of (cidle_at 2 (.slice p8 0 cap8) 2 0 ⟨24, 6, 9, 0, true⟩ [] true (Go.Sort.grow (redrawn w9 d) os) (FG.out.regrown (by decide) d os) (by decide)))
    have HC3 := Lib.hid (fun d os => reg_of (croom_any 2 (.slice p8 0 cap8) 2 0 ⟨24, 6, 9, 0, true⟩ [] 2 (Go.Sort.grow (redrawn w9 d) os) (FG.out.regrown (by decide) d os) (by decide) (by decide)))
    have HC4 := Lib.hid (fun d os => reg_of (cidle_at 2 (.slice p 1 cap) 1 0 ⟨0, 0, 8, 0, false⟩ [fc1] false (Go.Sort.grow (redrawn w9 d) os) (FS.out.regrown (by decide) d os) (by decide)))
    have HC5 := Lib.hid (fun d os => reg_of (cright_at 2 (.slice p 1 cap) 1 0 ⟨0, 0, 8, 0, false⟩ [fc1] true (Go.Sort.grow (redrawn w9 d) os) (FS.out.regrown (by decide) d os) (by decide) (by decide)))
    have HC6 := Lib.hid (fun d os => reg_of (cright_at 0 (.slice none 0 0) 0 0 ⟨0, 0, 0, 0, false⟩ [] false (Go.Sort.grow (redrawn w9 d) os) (sl_nil 7 _) (by decide) (by decide)))
    have r_A1 := fun d os => cell_of_block (keepb A1.out (below_regrown w9 d os))
    have r_A2 := fun d os => cell_of_block (keepb A2.out (below_regrown w9 d os))
    have r_A3 := fun d os => cell_of_block (keepb A3.out (below_regrown w9 d os))
    have r_A5 := fun d os => cell_of_block (keepb A5.out (below_regrown w9 d os))
    have r_A7 := fun d os => cell_of_block (keepb A7.out (below_regrown w9 d os))
    have r_A11 := fun d os => cell_of_block (keepb A11.out (below_regrown w9 d os))
    refine wp_region_quiet_below (by kernel_rfl) (by kernel_rfl) ?_
    (try simp only [List.append_eq, List.cons_append, List.nil_append])
    repeat (first | go_big_quiet_skip | (go_big_quiet_want; go_big_quiet_op; first | go_big_quiet_on | (apply Exists.intro; refine ⟨fun _ => ?_, ?_⟩; (focus ((first | (go_at_call 14; with_reducible exact HC1.out _ _) | (go_at_call 13; with_reducible exact HC2.out _ _) | (go_at_call 13; with_reducible exact HC4.out _ _) | (go_at_call 15; with_reducible exact HC3.out _ _) | (go_at_call 10; with_reducible exact HC5.out _ _) | (go_at_call 10; with_reducible exact HC6.out _ _)))); go_big_quiet_on)))
    refine wpQuiet_nil ?_
    intro _ hw'
    obtain ⟨⟨dq, osq⟩, hw''⟩ := hw'
    subst hw''
    go_wp2_with fail
    go_ret
    exact ⟨rfl, Lib.hid (chain BA.out (below_regrown _ _ _))⟩
  refine ⟨?_, ?_, ?_, ?_, ?_, ?_, ?_, ?_, ?_, ?_, ?_, ?_, trivial⟩
  · rintro l a wr h0 hd ⟨b0, b1, b2, b3, b4, b5, b6, b7, b8, b9, b10, b11, ux, uy, uk, uc, ug, un, ur, ue1, ue2, ue3, g2, g3, p, cap, rfl, rfl, XH, XB, X0, X1, X2, X3, X4, X5, X6, X7, X8, XD, X9, X10, X11⟩ K hK
    have h0 : b0 = false := h0
    subst h0
    go_simp
    go_at_call 16
    refine (cstart_any _).mono ?_
    rintro e w2 ⟨rfl, B⟩
    go_simp
    exact hK _ _ ⟨true, b1, b2, b3, b4, b5, b6, b7, b8, b9, b10, b11, ux, uy, uk, uc, .agg #[.int .i64 1, .slice none 0 0, .int .i64 1, .int .i64 0, .int .i64 0, .int .i64 0, .int .i64 8, .int .i64 0, .bool false], un, ur, ue1, ue2, ue3, g2, g3, p, cap, rfl, rfl, Lib.hid (keepb XH.out B.out), Lib.hid (chain XB.out B.out), Lib.hid (fun _ => rfl), X1, Lib.hid (fun e => ⟨(X2.out e).1, PV.keep (fun h hb => Sl.keep (by decide) h hb) (X2.out e).2 B.out⟩), X3, X4, X5, X6, Lib.hid (fun e => ⟨(X7.out e).1, (X7.out e).2.keep B.out⟩), Lib.hid (fun e => ⟨(X8.out e).1, (X8.out e).2.keep B.out⟩), XD, X9, X10, X11⟩
  · rintro l a wr h0 hd ⟨b0, b1, b2, b3, b4, b5, b6, b7, b8, b9, b10, b11, ux, uy, uk, uc, ug, un, ur, ue1, ue2, ue3, g2, g3, p, cap, rfl, rfl, XH, XB, X0, X1, X2, X3, X4, X5, X6, X7, X8, XD, X9, X10, X11⟩ K hK
    have h0 : b1 = false := h0
    subst h0
    have cH := cell_of_block XH.out
    go_simp
    exact hK _ _ ⟨b0, true, b2, b3, b4, b5, b6, b7, b8, b9, b10, b11, ux, uy, uk, uc, ug, .agg #[.int .i64 1, .int .i64 7, .int .i64 0, .int .i64 0], ur, ue1, ue2, ue3, g2, g3, p, cap, rfl, rfl, XH, XB, X0, Lib.hid (fun _ => rfl), X2, X3, X4, X5, X6, X7, X8, XD, X9, X10, X11⟩
  · rintro l a wr h0 hd ⟨b0, b1, b2, b3, b4, b5, b6, b7, b8, b9, b10, b11, ux, uy, uk, uc, ug, un, ur, ue1, ue2, ue3, g2, g3, p, cap, rfl, rfl, XH, XB, X0, X1, X2, X3, X4, X5, X6, X7, X8, XD, X9, X10, X11⟩ K hK
    have h0 : b2 = false := h0
    subst h0
    obtain ⟨d0, d1, d2, -⟩ := (hd : UpAll _ [0, 1, 0])
    replace d0 : b0 = true := d0
    replace d1 : b1 = true := d1
    subst d0
    subst d1
    clear d2
    have q0 := X0.out rfl
    have q1 := X1.out rfl
    subst q0 q1
    go_simp
    go_at_call 17
    refine (cpush_any 1 _ 1 0 ⟨0, 0, 8, 0, false⟩ [] ⟨1, 7, 0, 0⟩ 0 _ (sl_nil 7 _) (by decide) ⟨2, [⟨1, ⟨1, 7, 0, 0⟩, 0, 1⟩], 1, 0⟩ ⟨1, ⟨1, 7, 0, 0⟩, 0, 1⟩ true (by decide)).mono ?_
    rintro e w2 ⟨p1, cap1, rfl, O, B⟩
    have hb3 : b3 = false := by cases b3; rfl; cases (X3.out rfl).1
    have hb4 : b4 = false := by cases b4; rfl; cases (X4.out rfl).1
    have HLT := Lib.hid (fun b o (e : p1 = some ⟨b, o, none⟩) => O.out.block b (by rw [e]; rfl))
    have HHS := block_lt XH.out
    go_simp
    exact hK _ _ ⟨true, true, true, b3, b4, b5, b6, b7, b8, b9, b10, b11, ux, uy, uk, uc, .agg #[.int .i64 1, .slice none 0 0, .int .i64 1, .int .i64 0, .int .i64 0, .int .i64 0, .int .i64 8, .int .i64 0, .bool false], .agg #[.int .i64 1, .int .i64 7, .int .i64 0, .int .i64 0], .tuple #[.agg #[.int .i64 2, .slice p1 1 cap1, .int .i64 1, .int .i64 0, .int .i64 0, .int .i64 0, .int .i64 8, .int .i64 0, .bool false], .agg #[.int .i64 1, .int .i64 1, .int .i64 7, .int .i64 0, .int .i64 0, .int .i64 0, .int .i64 1], .bool true], ue1, ue2, ue3, g2, g3, p1, cap1, rfl, rfl, Lib.hid (keepb XH.out B.out), Lib.hid (chain XB.out B.out), X0, X1, Lib.hid (fun _ => ⟨rfl, O.out.sl, fun b o e => ⟨by have := HLT.out b o e; omega, O.out.lt b (by rw [e]; rfl)⟩⟩), Lib.hid (fun e => by rw [hb3] at e; cases e), Lib.hid (fun e => by rw [hb4] at e; cases e), X5, X6, Lib.hid (fun e => ⟨(X7.out e).1, (X7.out e).2.born B.out HLT.out⟩), Lib.hid (fun e => ⟨(X8.out e).1, (X8.out e).2.born B.out HLT.out⟩), XD, X9, X10, X11⟩
  · rintro l a wr h0 hd ⟨b0, b1, b2, b3, b4, b5, b6, b7, b8, b9, b10, b11, ux, uy, uk, uc, ug, un, ur, ue1, ue2, ue3, g2, g3, p, cap, rfl, rfl, XH, XB, X0, X1, X2, X3, X4, X5, X6, X7, X8, XD, X9, X10, X11⟩ K hK
    have h0 : b3 = false := h0
    subst h0
    obtain ⟨d0, -⟩ := (hd : UpAll _ [2])
    replace d0 : b2 = true := d0
    subst d0
    have q2 := (X2.out rfl).1
    subst q2
    go_simp
    exact hK _ _ ⟨b0, b1, true, true, b4, b5, b6, b7, b8, b9, b10, b11, ux, uy, uk, .tuple #[.agg #[.int .i64 2, .slice p 1 cap, .int .i64 1, .int .i64 0, .int .i64 0, .int .i64 0, .int .i64 8, .int .i64 0, .bool false], .agg #[.int .i64 1, .int .i64 1, .int .i64 7, .int .i64 0, .int .i64 0, .int .i64 0, .int .i64 1], .bool true], ug, un, .tuple #[.agg #[.int .i64 2, .slice p 1 cap, .int .i64 1, .int .i64 0, .int .i64 0, .int .i64 0, .int .i64 8, .int .i64 0, .bool false], .agg #[.int .i64 1, .int .i64 1, .int .i64 7, .int .i64 0, .int .i64 0, .int .i64 0, .int .i64 1], .bool true], ue1, ue2, ue3, g2, g3, p, cap, rfl, rfl, XH, XB, X0, X1, X2, Lib.hid (fun _ => ⟨rfl, rfl⟩), X4, X5, X6, X7, X8, XD, X9, X10, X11⟩
  · rintro l a wr h0 hd ⟨b0, b1, b2, b3, b4, b5, b6, b7, b8, b9, b10, b11, ux, uy, uk, uc, ug, un, ur, ue1, ue2, ue3, g2, g3, p, cap, rfl, rfl, XH, XB, X0, X1, X2, X3, X4, X5, X6, X7, X8, XD, X9, X10, X11⟩ K hK
    have h0 : b4 = false := h0
    subst h0
    obtain ⟨d0, -⟩ := (hd : UpAll _ [3])
    replace d0 : b3 = true := d0
    subst d0
    obtain ⟨q2, q3⟩ := X3.out rfl
    subst q2 q3
    go_simp
    exact hK _ _ ⟨b0, b1, true, true, true, b5, b6, b7, b8, b9, b10, b11, ux, uy, uk, .tuple #[.agg #[.int .i64 2, .slice p 1 cap, .int .i64 1, .int .i64 0, .int .i64 0, .int .i64 0, .int .i64 8, .int .i64 0, .bool false], .agg #[.int .i64 1, .int .i64 1, .int .i64 7, .int .i64 0, .int .i64 0, .int .i64 0, .int .i64 1], .bool true], ug, un, ur, .agg #[.int .i64 2, .slice p 1 cap, .int .i64 1, .int .i64 0, .int .i64 0, .int .i64 0, .int .i64 8, .int .i64 0, .bool false], ue2, ue3, g2, g3, p, cap, rfl, rfl, XH, XB, X0, X1, X2, X3, Lib.hid (fun _ => ⟨rfl, rfl⟩), X5, X6, X7, X8, XD, X9, X10, X11⟩
  · rintro l a wr h0 hd ⟨b0, b1, b2, b3, b4, b5, b6, b7, b8, b9, b10, b11, ux, uy, uk, uc, ug, un, ur, ue1, ue2, ue3, g2, g3, p, cap, rfl, rfl, XH, XB, X0, X1, X2, X3, X4, X5, X6, X7, X8, XD, X9, X10, X11⟩ K hK
    have h0 : b5 = false := h0
    subst h0
    obtain ⟨d0, -⟩ := (hd : UpAll _ [3])
    replace d0 : b3 = true := d0
    subst d0
    obtain ⟨q2, q3⟩ := X3.out rfl
    subst q2 q3
    go_simp
    exact hK _ _ ⟨b0, b1, true, true, b4, true, b6, b7, b8, b9, b10, b11, ux, uy, uk, .tuple #[.agg #[.int .i64 2, .slice p 1 cap, .int .i64 1, .int .i64 0, .int .i64 0, .int .i64 0, .int .i64 8, .int .i64 0, .bool false], .agg #[.int .i64 1, .int .i64 1, .int .i64 7, .int .i64 0, .int .i64 0, .int .i64 0, .int .i64 1], .bool true], ug, un, ur, ue1, .agg #[.int .i64 1, .int .i64 1, .int .i64 7, .int .i64 0, .int .i64 0, .int .i64 0, .int .i64 1], ue3, g2, g3, p, cap, rfl, rfl, XH, XB, X0, X1, X2, X3, X4, Lib.hid (fun _ => rfl), X6, X7, X8, XD, X9, X10, X11⟩
  · rintro l a wr h0 hd ⟨b0, b1, b2, b3, b4, b5, b6, b7, b8, b9, b10, b11, ux, uy, uk, uc, ug, un, ur, ue1, ue2, ue3, g2, g3, p, cap, rfl, rfl, XH, XB, X0, X1, X2, X3, X4, X5, X6, X7, X8, XD, X9, X10, X11⟩ K hK
    have h0 : b6 = false := h0
    subst h0
    obtain ⟨d0, -⟩ := (hd : UpAll _ [3])
    replace d0 : b3 = true := d0
    subst d0
    obtain ⟨q2, q3⟩ := X3.out rfl
    subst q2 q3
    go_simp
    exact hK _ _ ⟨b0, b1, true, true, b4, b5, true, b7, b8, b9, b10, b11, ux, uy, uk, .tuple #[.agg #[.int .i64 2, .slice p 1 cap, .int .i64 1, .int .i64 0, .int .i64 0, .int .i64 0, .int .i64 8, .int .i64 0, .bool false], .agg #[.int .i64 1, .int .i64 1, .int .i64 7, .int .i64 0, .int .i64 0, .int .i64 0, .int .i64 1], .bool true], ug, un, ur, ue1, ue2, .bool true, g2, g3, p, cap, rfl, rfl, XH, XB, X0, X1, X2, X3, X4, X5, Lib.hid (fun _ => rfl), X7, X8, XD, X9, X10, X11⟩
  · rintro l a wr h0 hd ⟨b0, b1, b2, b3, b4, b5, b6, b7, b8, b9, b10, b11, ux, uy, uk, uc, ug, un, ur, ue1, ue2, ue3, g2, g3, p, cap, rfl, rfl, XH, XB, X0, X1, X2, X3, X4, X5, X6, X7, X8, XD, X9, X10, X11⟩ K hK
    have h0 : b7 = false := h0
    subst h0
    have hst : b9 = false := by cases b9; rfl; cases X9.out rfl
    subst hst
    go_simp
    exact hK _ _ ⟨b0, b1, b2, b3, b4, b5, b6, true, b8, false, b10, b11, .pointer (some ⟨wr.heap.size, 0, none⟩), uy, uk, uc, ug, un, ur, ue1, ue2, ue3, wr.heap.size, g3, p, cap, rfl, rfl, Lib.hid (keepb XH.out (below_alloc wr _)), Lib.hid (chain XB.out (below_alloc wr _)), X0, X1, Lib.hid (fun e => ⟨(X2.out e).1, PV.keep (fun h hb => Sl.keep (by decide) h hb) (X2.out e).2 (below_alloc wr _)⟩), X3, X4, X5, X6, Lib.hid (fun _ => ⟨rfl, Bx.new (block_lt XH.out) (fun e b o hb => ((X2.out e).2.2 b o hb).2)⟩), Lib.hid (fun e => ⟨(X8.out e).1, (X8.out e).2.keep (below_alloc wr _)⟩), Lib.hid (fun _ e he => by have := (X8.out e).2.2.1; omega), Lib.hid (fun e => by cases e), X10, X11⟩
  · rintro l a wr h0 hd ⟨b0, b1, b2, b3, b4, b5, b6, b7, b8, b9, b10, b11, ux, uy, uk, uc, ug, un, ur, ue1, ue2, ue3, g2, g3, p, cap, rfl, rfl, XH, XB, X0, X1, X2, X3, X4, X5, X6, X7, X8, XD, X9, X10, X11⟩ K hK
    have h0 : b8 = false := h0
    subst h0
    have hst : b10 = false := by cases b10; rfl; cases X10.out rfl
    subst hst
    go_simp
    exact hK _ _ ⟨b0, b1, b2, b3, b4, b5, b6, b7, true, b9, false, b11, ux, .pointer (some ⟨wr.heap.size, 0, none⟩), uk, uc, ug, un, ur, ue1, ue2, ue3, g2, wr.heap.size, p, cap, rfl, rfl, Lib.hid (keepb XH.out (below_alloc wr _)), Lib.hid (chain XB.out (below_alloc wr _)), X0, X1, Lib.hid (fun e => ⟨(X2.out e).1, PV.keep (fun h hb => Sl.keep (by decide) h hb) (X2.out e).2 (below_alloc wr _)⟩), X3, X4, X5, X6, Lib.hid (fun e => ⟨(X7.out e).1, (X7.out e).2.keep (below_alloc wr _)⟩), Lib.hid (fun _ => ⟨rfl, Bx.new (block_lt XH.out) (fun e b o hb => ((X2.out e).2.2 b o hb).2)⟩), Lib.hid (fun e _ he => by have := (X7.out e).2.2.1; omega), X9, Lib.hid (fun e => by cases e), X11⟩
  · rintro l a wr h0 hd ⟨b0, b1, b2, b3, b4, b5, b6, b7, b8, b9, b10, b11, ux, uy, uk, uc, ug, un, ur, ue1, ue2, ue3, g2, g3, p, cap, rfl, rfl, XH, XB, X0, X1, X2, X3, X4, X5, X6, X7, X8, XD, X9, X10, X11⟩ K hK
    have h0 : b9 = false := h0
    subst h0
    obtain ⟨d0, d1, d2, d3, d4, d5, d6, d7, d8, d9, -⟩ := (hd : UpAll _ [7, 4, 2, 0, 1, 2, 3, 4, 7, 8])
    replace d0 : b7 = true := d0
    replace d1 : b4 = true := d1
    replace d2 : b2 = true := d2
    replace d3 : b0 = true := d3
    replace d4 : b1 = true := d4
    replace d6 : b3 = true := d6
    replace d9 : b8 = true := d9
    subst d0
    subst d1
    subst d2
    subst d3
    subst d4
    clear d5
    subst d6
    clear d7
    clear d8
    subst d9
    obtain ⟨-, q4⟩ := X4.out rfl
    subst q4
    obtain ⟨q7, hbx⟩ := X7.out rfl
    subst q7
    have HBX := Lib.hid hbx
    have HZ := Lib.hid (hbx.2.2.1 rfl)
    have hlt := hbx.1
    clear hbx
    have cz := cell_of_block HZ.out
    have fz := frozen_of_block HZ.out
    go_simp
    exact hK _ _ ⟨true, true, true, true, true, b5, b6, true, true, true, b10, b11, .pointer (some ⟨g2, 0, none⟩), uy, uk, uc, ug, un, ur, .agg #[.int .i64 2, .slice p 1 cap, .int .i64 1, .int .i64 0, .int .i64 0, .int .i64 0, .int .i64 8, .int .i64 0, .bool false], ue2, ue3, g2, g3, p, cap, rfl, rfl, Lib.hid (by rw [(show Only g2 wr _ from (by repeat (first | (with_reducible exact Only.refl _ _) | (with_reducible refine Only.set ?_ _ _)))).2 _ (by omega)]; exact XH.out), Lib.hid (by repeat (first | (with_reducible exact XB.out) | (with_reducible refine bel_set (by first | omega | (simp; omega)) ?_))), X0, X1, Lib.hid (fun e => ⟨(X2.out e).1, PV.only (fun h ho hne => Sl.only h ho hne) (X2.out e).2 (by repeat (first | (with_reducible exact Only.refl _ _) | (with_reducible refine Only.set ?_ _ _))) (HBX.out.2.2.2.2 e)⟩), X3, X4, X5, X6, Lib.hid (fun _ => ⟨rfl, HBX.out.fill (by repeat (first | (with_reducible exact Only.refl _ _) | (with_reducible refine Only.set ?_ _ _))) (by simp [World.setCell, Array.getElem?_modify, HZ.out])⟩), Lib.hid (fun e => ⟨(X8.out e).1, (X8.out e).2.only (by repeat (first | (with_reducible exact Only.refl _ _) | (with_reducible refine Only.set ?_ _ _))) (XD.out rfl e).symm⟩), XD, Lib.hid (fun _ => rfl), X10, X11⟩
  · rintro l a wr h0 hd ⟨b0, b1, b2, b3, b4, b5, b6, b7, b8, b9, b10, b11, ux, uy, uk, uc, ug, un, ur, ue1, ue2, ue3, g2, g3, p, cap, rfl, rfl, XH, XB, X0, X1, X2, X3, X4, X5, X6, X7, X8, XD, X9, X10, X11⟩ K hK
    have h0 : b10 = false := h0
    subst h0
    obtain ⟨d0, d1, d2, d3, d4, d5, d6, d7, d8, d9, d10, d11, -⟩ := (hd : UpAll _ [8, 5, 9, 0, 1, 2, 3, 4, 5, 7, 8, 9])
    replace d0 : b8 = true := d0
    replace d1 : b5 = true := d1
    replace d2 : b9 = true := d2
    replace d3 : b0 = true := d3
    replace d4 : b1 = true := d4
    replace d5 : b2 = true := d5
    replace d6 : b3 = true := d6
    replace d7 : b4 = true := d7
    replace d9 : b7 = true := d9
    subst d0
    subst d1
    subst d2
    subst d3
    subst d4
    subst d5
    subst d6
    subst d7
    clear d8
    subst d9
    clear d10
    clear d11
    have q5 := X5.out rfl
    subst q5
    obtain ⟨q7, hbx⟩ := X8.out rfl
    subst q7
    have HBX := Lib.hid hbx
    have HZ := Lib.hid (hbx.2.2.1 rfl)
    have hlt := hbx.1
    clear hbx
    have cz := cell_of_block HZ.out
    have fz := frozen_of_block HZ.out
    go_simp
    exact hK _ _ ⟨true, true, true, true, true, true, b6, true, true, true, true, b11, ux, .pointer (some ⟨g3, 0, none⟩), uk, uc, ug, un, ur, ue1, .agg #[.int .i64 1, .int .i64 1, .int .i64 7, .int .i64 0, .int .i64 0, .int .i64 0, .int .i64 1], ue3, g2, g3, p, cap, rfl, rfl, Lib.hid (by rw [(show Only g3 wr _ from (by repeat (first | (with_reducible exact Only.refl _ _) | (with_reducible refine Only.set ?_ _ _)))).2 _ (by omega)]; exact XH.out), Lib.hid (by repeat (first | (with_reducible exact XB.out) | (with_reducible refine bel_set (by first | omega | (simp; omega)) ?_))), X0, X1, Lib.hid (fun e => ⟨(X2.out e).1, PV.only (fun h ho hne => Sl.only h ho hne) (X2.out e).2 (by repeat (first | (with_reducible exact Only.refl _ _) | (with_reducible refine Only.set ?_ _ _))) (HBX.out.2.2.2.2 e)⟩), X3, X4, X5, X6, Lib.hid (fun e => ⟨(X7.out e).1, (X7.out e).2.only (by repeat (first | (with_reducible exact Only.refl _ _) | (with_reducible refine Only.set ?_ _ _))) (XD.out e rfl)⟩), Lib.hid (fun _ => ⟨rfl, HBX.out.fill (by repeat (first | (with_reducible exact Only.refl _ _) | (with_reducible refine Only.set ?_ _ _))) (by simp [World.setCell, Array.getElem?_modify, HZ.out])⟩), XD, X9, Lib.hid (fun _ => rfl), X11⟩
  · rintro l a wr h0 hd ⟨b0, b1, b2, b3, b4, b5, b6, b7, b8, b9, b10, b11, ux, uy, uk, uc, ug, un, ur, ue1, ue2, ue3, g2, g3, p, cap, rfl, rfl, XH, XB, X0, X1, X2, X3, X4, X5, X6, X7, X8, XD, X9, X10, X11⟩ K hK
    have h0 : b11 = false := h0
    subst h0
    obtain ⟨d0, d1, d2, d3, d4, d5, d6, d7, d8, d9, d10, d11, d12, -⟩ := (hd : UpAll _ [6, 10, 0, 1, 2, 3, 4, 5, 6, 7, 8, 9, 10])
    replace d0 : b6 = true := d0
    replace d1 : b10 = true := d1
    replace d2 : b0 = true := d2
    replace d3 : b1 = true := d3
    replace d4 : b2 = true := d4
    replace d5 : b3 = true := d5
    replace d6 : b4 = true := d6
    replace d7 : b5 = true := d7
    replace d9 : b7 = true := d9
    replace d10 : b8 = true := d10
    replace d11 : b9 = true := d11
    subst d0
    subst d1
    subst d2
    subst d3
    subst d4
    subst d5
    subst d6
    subst d7
    clear d8
    subst d9
    subst d10
    subst d11
    clear d12
    have q6 := X6.out rfl
    subst q6
    go_simp
    exact hK _ _ ⟨true, true, true, true, true, true, true, true, true, true, true, true, ux, uy, .bool true, uc, ug, un, ur, ue1, ue2, .bool true, g2, g3, p, cap, rfl, rfl, XH, XB, X0, X1, X2, X3, X4, X5, X6, X7, X8, XD, X9, X10, Lib.hid (fun _ => rfl)⟩
end Go.Proofs.Yteilgibfmljoeaa.K

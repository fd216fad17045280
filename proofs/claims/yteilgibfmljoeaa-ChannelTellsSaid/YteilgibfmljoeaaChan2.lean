/-
  CONTRACTS of package channel: Push, Ack, Void.
-/
import Derived.Test.YteilgibfmljoeaaChan
set_option linter.unusedVariables false
set_option linter.unusedSimpArgs false
namespace Go.Proofs.Yteilgibfmljoeaa.K
open Go Go.RowKit Nj

/-- a channel comes back -/
def RetCh (w : World) (s : Sd) (r : Rt) (e : Ending) (w' : World) : Prop := ∃ p cap, e = .returned (.agg #[.int .i64 s.next, .slice p s.fl.length cap, .int .i64 s.cwnd, .int .i64 s.acc, .int .i64 r.s, .int .i64 r.v, .int .i64 r.rto, .int .i64 r.fails, .bool r.has]) ∧ Hid (Own 40 7 w.heap.size w' (.slice p s.fl.length cap) s.fl.length (flat Fl.cells s.fl)) ∧ Hid (Below w.heap.size w w')
/-- a channel, a flight, and whether -/
def RetCh3 (w : World) (s : Sd) (r : Rt) (f : Fl) (ok : Bool) (e : Ending) (w' : World) : Prop := ∃ p cap, e = .returned (.tuple #[.agg #[.int .i64 s.next, .slice p s.fl.length cap, .int .i64 s.cwnd, .int .i64 s.acc, .int .i64 r.s, .int .i64 r.v, .int .i64 r.rto, .int .i64 r.fails, .bool r.has], .agg #[.int .i64 f.seq, .int .i64 f.note.user, .int .i64 f.note.ver, .int .i64 f.note.stat, .int .i64 f.note.cnt, .int .i64 f.at_, .int .i64 f.tries], .bool ok]) ∧ Hid (Own 40 7 w.heap.size w' (.slice p s.fl.length cap) s.fl.length (flat Fl.cells s.fl)) ∧ Hid (Below w.heap.size w w')

set_option maxHeartbeats 2000000 in
theorem cpush_any (n : Int) (v : Value) (c a : Int) (r : Rt) (l : List Fl) (nt : Nt) (now : Int) (w : World) (h : Fls w v l) (hR : sdRight ⟨n, l, c, a⟩ = true)
    (s : Sd) (f : Fl) (ok : Bool) (hr : sdPush ⟨n, l, c, a⟩ nt now = (s, f, ok)) :
    Calls Try.prog 17 #[.agg #[.int .i64 n, v, .int .i64 c, .int .i64 a, .int .i64 r.s, .int .i64 r.v, .int .i64 r.rto, .int .i64 r.fails, .bool r.has], .agg #[.int .i64 nt.user, .int .i64 nt.ver, .int .i64 nt.stat, .int .i64 nt.cnt], .int .i64 now] w (RetCh3 w s r f ok) := by
  have FS := Lib.hid h
  have HP := Lib.hid (rightSd hR)
  have HE := Lib.hid hr
  clear h hR hr
  go_enter Try.func17, Try.ntmps17
  go_upto_region 1 with fail
  simp only [Nat.add_assoc, Nat.reduceAdd]
  refine gen_wp (fun w1 => Hid (w1.heap[w.heap.size]? = some (.cells #[.int .i64 n, v, .int .i64 c, .int .i64 a, .int .i64 r.s, .int .i64 r.v, .int .i64 r.rto, .int .i64 r.fails, .bool r.has] 28)) ∧ Hid (w1.heap[(w.heap.size + 1)]? = some (.cells #[.int .i64 nt.user, .int .i64 nt.ver, .int .i64 nt.stat, .int .i64 nt.cnt] 38)) ∧ Hid (w1.heap[(w.heap.size + 2)]? = some (.cells #[.int .i64 0, .slice none 0 0, .int .i64 0, .int .i64 0, .int .i64 0, .int .i64 0, .int .i64 0, .int .i64 0, .bool false] 28)) ∧ Hid (w1.heap[(w.heap.size + 3)]? = some (.cells #[.int .i64 0, .int .i64 0, .int .i64 0, .int .i64 0, .int .i64 0, .int .i64 0, .int .i64 0] 40)) ∧ Hid (Below w.heap.size w w1) ∧ Hid (w1.heap.size = w.heap.size + 4) ∧ True) ⟨Lib.hid (by first | (simp [World.setCell, Array.getElem?_modify]; done) | (simp [World.setCell, Array.getElem?_modify]; omega) | ((repeat (first | (with_reducible exact heap_new _ _ _ (by first | rfl | (simp; done))) | (with_reducible refine keepa ?_ _) | (simp [World.setCell, Array.getElem?_modify]; done))); done)), Lib.hid (by first | (simp [World.setCell, Array.getElem?_modify]; done) | (simp [World.setCell, Array.getElem?_modify]; omega) | ((repeat (first | (with_reducible exact heap_new _ _ _ (by first | rfl | (simp; done))) | (with_reducible refine keepa ?_ _) | (simp [World.setCell, Array.getElem?_modify]; done))); done)), Lib.hid (by first | (simp [World.setCell, Array.getElem?_modify]; done) | (simp [World.setCell, Array.getElem?_modify]; omega) | ((repeat (first | (with_reducible exact heap_new _ _ _ (by first | rfl | (simp; done))) | (with_reducible refine keepa ?_ _) | (simp [World.setCell, Array.getElem?_modify]; done))); done)), Lib.hid (by first | (simp [World.setCell, Array.getElem?_modify]; done) | (simp [World.setCell, Array.getElem?_modify]; omega) | ((repeat (first | (with_reducible exact heap_new _ _ _ (by first | rfl | (simp; done))) | (with_reducible refine keepa ?_ _) | (simp [World.setCell, Array.getElem?_modify]; done))); done)), Lib.hid (by (repeat (first | (with_reducible exact Below.refl _ _) | (with_reducible refine bel_set (by first | omega | (simp; done) | (simp; omega)) ?_) | (with_reducible refine bel_alloc (by first | omega | (simp; done) | (simp; omega)) ?_) | (with_reducible refine bel_drew ?_) | (with_reducible refine bel_drewN ?_ _))); first | done | fail "left"), Lib.hid (by simp), trivial⟩ ?_
  rintro w1 ⟨A1, A2, A3, A4, BA, SZ, -⟩
  have c_A1 := cell_of_block A1.out
  have f_A1 := frozen_of_block A1.out
  have c_A2 := cell_of_block A2.out
  have f_A2 := frozen_of_block A2.out
  have c_A3 := cell_of_block A3.out
  have f_A3 := frozen_of_block A3.out
  have c_A4 := cell_of_block A4.out
  have f_A4 := frozen_of_block A4.out
  go_wp2_with fail
  refine (spush_any n v c a l nt now _ (fls_keep FS BA).out ⟨by have := HP.out.n0; simp only at this; omega, HP.out.n1⟩ ⟨by have := HP.out.c0; simp only at this; omega, HP.out.c1⟩ (by have := HP.out.len; simp only at this; omega) (fun f hf => by have := HP.out.fl f hf; have := HP.out.n1; simp only at *; omega) s f ok HE.out).mono ?_
  rintro e w2 ⟨p1, cap1, rfl, O1, B1⟩
  replace A1 := Lib.hid (keepb A1.out B1.out)
  replace c_A1 := cell_of_block A1.out
  replace f_A1 := frozen_of_block A1.out
  replace A2 := Lib.hid (keepb A2.out B1.out)
  replace c_A2 := cell_of_block A2.out
  replace f_A2 := frozen_of_block A2.out
  replace A3 := Lib.hid (keepb A3.out B1.out)
  replace c_A3 := cell_of_block A3.out
  replace f_A3 := frozen_of_block A3.out
  replace A4 := Lib.hid (keepb A4.out B1.out)
  replace c_A4 := cell_of_block A4.out
  replace f_A4 := frozen_of_block A4.out
  replace BA := Lib.hid (chain BA.out B1.out)
  replace O1 := Lib.hid (show Own 40 7 (w.heap.size + 4) w2 (.slice p1 s.fl.length cap1) s.fl.length (flat Fl.cells s.fl) by rw [← SZ.out]; exact O1.out)
  have SZ2 := Lib.hid (show w.heap.size + 4 ≤ w2.heap.size by have := B1.out.size; have := SZ.out; omega)
  go_upto_region 2 with fail
  refine gen_wp (fun w3 => Hid (Below w2.heap.size w2 w3) ∧ Hid (w3.heap[w2.heap.size]? = some (.cells #[.int .i64 s.next, .slice p1 s.fl.length cap1, .int .i64 s.cwnd, .int .i64 s.acc] 24)) ∧ Hid (w3.heap[(w2.heap.size + 1)]? = some (.cells #[.int .i64 f.seq, .int .i64 f.note.user, .int .i64 f.note.ver, .int .i64 f.note.stat, .int .i64 f.note.cnt, .int .i64 f.at_, .int .i64 f.tries] 40)) ∧ Hid (Own 40 7 (w.heap.size + 4) w3 (.slice p1 s.fl.length cap1) s.fl.length (flat Fl.cells s.fl)) ∧ True) ⟨Lib.hid (by (repeat (first | (with_reducible exact Below.refl _ _) | (with_reducible refine bel_set (by first | omega | (simp; done) | (simp; omega)) ?_) | (with_reducible refine bel_alloc (by first | omega | (simp; done) | (simp; omega)) ?_) | (with_reducible refine bel_drew ?_) | (with_reducible refine bel_drewN ?_ _))); first | done | fail "left"), Lib.hid (by first | (simp [World.setCell, Array.getElem?_modify, A1.out, A2.out, A3.out, A4.out]; done) | (simp [World.setCell, Array.getElem?_modify, A1.out, A2.out, A3.out, A4.out]; omega) | ((repeat (first | (with_reducible exact A1.out) | (with_reducible exact A2.out) | (with_reducible exact A3.out) | (with_reducible exact A4.out) | (with_reducible exact heap_new _ _ _ (by first | rfl | (simp; done))) | (with_reducible refine keepa ?_ _) | (simp [World.setCell, Array.getElem?_modify, A1.out, A2.out, A3.out, A4.out]; done))); done)), Lib.hid (by first | (simp [World.setCell, Array.getElem?_modify, A1.out, A2.out, A3.out, A4.out]; done) | (simp [World.setCell, Array.getElem?_modify, A1.out, A2.out, A3.out, A4.out]; omega) | ((repeat (first | (with_reducible exact A1.out) | (with_reducible exact A2.out) | (with_reducible exact A3.out) | (with_reducible exact A4.out) | (with_reducible exact heap_new _ _ _ (by first | rfl | (simp; done))) | (with_reducible refine keepa ?_ _) | (simp [World.setCell, Array.getElem?_modify, A1.out, A2.out, A3.out, A4.out]; done))); done)), Lib.hid (by (repeat (first | (with_reducible exact O1.out) | (with_reducible refine Own.set ?_ _ _ (by first | omega | (simp; done) | (simp; omega))) | (with_reducible refine Own.alloc ?_ _) | (with_reducible refine Own.drew ?_) | (with_reducible refine Own.drewN ?_ _))); first | done | fail "left"), trivial⟩ ?_
  clear c_A1 f_A1 c_A2 f_A2 c_A3 f_A3 c_A4 f_A4
  rintro w3 ⟨N, A9, A10, O3, -⟩
  have c_A9 := cell_of_block A9.out
  have f_A9 := frozen_of_block A9.out
  have c_A10 := cell_of_block A10.out
  have f_A10 := frozen_of_block A10.out
  replace A1 := Lib.hid (keepb A1.out N.out)
  replace c_A1 := cell_of_block A1.out
  replace f_A1 := frozen_of_block A1.out
  replace A2 := Lib.hid (keepb A2.out N.out)
  replace c_A2 := cell_of_block A2.out
  replace f_A2 := frozen_of_block A2.out
  replace A3 := Lib.hid (keepb A3.out N.out)
  replace c_A3 := cell_of_block A3.out
  replace f_A3 := frozen_of_block A3.out
  replace A4 := Lib.hid (keepb A4.out N.out)
  replace c_A4 := cell_of_block A4.out
  replace f_A4 := frozen_of_block A4.out
  replace BA := Lib.hid (chain BA.out N.out)
  clear N O1 B1
  have z2 := SZ2.out
  have m1 : w.heap.size ≠ w2.heap.size := by omega
  have m2 : w.heap.size ≠ w2.heap.size + 1 := by omega
  have m3 : w.heap.size + 2 ≠ w2.heap.size + 1 := by omega
  have m4 : w.heap.size + 3 ≠ w2.heap.size + 1 := by omega
  go_upto_region 3 with fail
  refine gen_wp (fun w4 => Hid (w4.heap[w.heap.size]? = some (.cells #[.int .i64 s.next, .slice p1 s.fl.length cap1, .int .i64 s.cwnd, .int .i64 s.acc, .int .i64 r.s, .int .i64 r.v, .int .i64 r.rto, .int .i64 r.fails, .bool r.has] 28)) ∧ Hid (w4.heap[(w.heap.size + 2)]? = some (.cells #[.int .i64 0, .slice none 0 0, .int .i64 0, .int .i64 0, .int .i64 0, .int .i64 0, .int .i64 0, .int .i64 0, .bool false] 28)) ∧ Hid (w4.heap[(w.heap.size + 3)]? = some (.cells #[.int .i64 0, .int .i64 0, .int .i64 0, .int .i64 0, .int .i64 0, .int .i64 0, .int .i64 0] 40)) ∧ Hid (w4.heap[(w2.heap.size + 1)]? = some (.cells #[.int .i64 f.seq, .int .i64 f.note.user, .int .i64 f.note.ver, .int .i64 f.note.stat, .int .i64 f.note.cnt, .int .i64 f.at_, .int .i64 f.tries] 40)) ∧ Hid (Below w.heap.size w w4) ∧ Hid (Own 40 7 (w.heap.size + 4) w4 (.slice p1 s.fl.length cap1) s.fl.length (flat Fl.cells s.fl)) ∧ True) ⟨Lib.hid (by first | (simp [World.setCell, Array.getElem?_modify, A1.out, A2.out, A3.out, A4.out, A9.out, A10.out, m1, m1.symm, m2, m2.symm, m3, m3.symm, m4, m4.symm]; done) | (simp [World.setCell, Array.getElem?_modify, A1.out, A2.out, A3.out, A4.out, A9.out, A10.out, m1, m1.symm, m2, m2.symm, m3, m3.symm, m4, m4.symm]; omega) | ((repeat (first | (with_reducible exact A1.out) | (with_reducible exact A2.out) | (with_reducible exact A3.out) | (with_reducible exact A4.out) | (with_reducible exact A9.out) | (with_reducible exact A10.out) | (with_reducible exact heap_new _ _ _ (by first | rfl | (simp; done))) | (with_reducible refine keepa ?_ _) | (simp [World.setCell, Array.getElem?_modify, A1.out, A2.out, A3.out, A4.out, A9.out, A10.out, m1, m1.symm, m2, m2.symm, m3, m3.symm, m4, m4.symm]; done))); done)), Lib.hid (by first | (simp [World.setCell, Array.getElem?_modify, A1.out, A2.out, A3.out, A4.out, A9.out, A10.out, m1, m1.symm, m2, m2.symm, m3, m3.symm, m4, m4.symm]; done) | (simp [World.setCell, Array.getElem?_modify, A1.out, A2.out, A3.out, A4.out, A9.out, A10.out, m1, m1.symm, m2, m2.symm, m3, m3.symm, m4, m4.symm]; omega) | ((repeat (first | (with_reducible exact A1.out) | (with_reducible exact A2.out) | (with_reducible exact A3.out) | (with_reducible exact A4.out) | (with_reducible exact A9.out) | (with_reducible exact A10.out) | (with_reducible exact heap_new _ _ _ (by first | rfl | (simp; done))) | (with_reducible refine keepa ?_ _) | (simp [World.setCell, Array.getElem?_modify, A1.out, A2.out, A3.out, A4.out, A9.out, A10.out, m1, m1.symm, m2, m2.symm, m3, m3.symm, m4, m4.symm]; done))); done)), Lib.hid (by first | (simp [World.setCell, Array.getElem?_modify, A1.out, A2.out, A3.out, A4.out, A9.out, A10.out, m1, m1.symm, m2, m2.symm, m3, m3.symm, m4, m4.symm]; done) | (simp [World.setCell, Array.getElem?_modify, A1.out, A2.out, A3.out, A4.out, A9.out, A10.out, m1, m1.symm, m2, m2.symm, m3, m3.symm, m4, m4.symm]; omega) | ((repeat (first | (with_reducible exact A1.out) | (with_reducible exact A2.out) | (with_reducible exact A3.out) | (with_reducible exact A4.out) | (with_reducible exact A9.out) | (with_reducible exact A10.out) | (with_reducible exact heap_new _ _ _ (by first | rfl | (simp; done))) | (with_reducible refine keepa ?_ _) | (simp [World.setCell, Array.getElem?_modify, A1.out, A2.out, A3.out, A4.out, A9.out, A10.out, m1, m1.symm, m2, m2.symm, m3, m3.symm, m4, m4.symm]; done))); done)), Lib.hid (by first | (simp [World.setCell, Array.getElem?_modify, A1.out, A2.out, A3.out, A4.out, A9.out, A10.out, m1, m1.symm, m2, m2.symm, m3, m3.symm, m4, m4.symm]; done) | (simp [World.setCell, Array.getElem?_modify, A1.out, A2.out, A3.out, A4.out, A9.out, A10.out, m1, m1.symm, m2, m2.symm, m3, m3.symm, m4, m4.symm]; omega) | ((repeat (first | (with_reducible exact A1.out) | (with_reducible exact A2.out) | (with_reducible exact A3.out) | (with_reducible exact A4.out) | (with_reducible exact A9.out) | (with_reducible exact A10.out) | (with_reducible exact heap_new _ _ _ (by first | rfl | (simp; done))) | (with_reducible refine keepa ?_ _) | (simp [World.setCell, Array.getElem?_modify, A1.out, A2.out, A3.out, A4.out, A9.out, A10.out, m1, m1.symm, m2, m2.symm, m3, m3.symm, m4, m4.symm]; done))); done)), Lib.hid (by have hbsz := Below.size (BA.out); (repeat (first | (with_reducible exact BA.out) | (with_reducible refine bel_set (by first | omega | (simp; done) | (simp; omega)) ?_) | (with_reducible refine bel_alloc (by first | omega | (simp; done) | (simp; omega)) ?_) | (with_reducible refine bel_drew ?_) | (with_reducible refine bel_drewN ?_ _))); first | done | fail "left"), Lib.hid (by (repeat (first | (with_reducible exact O3.out) | (with_reducible refine Own.set ?_ _ _ (by first | omega | (simp; done) | (simp; omega))) | (with_reducible refine Own.alloc ?_ _) | (with_reducible refine Own.drew ?_) | (with_reducible refine Own.drewN ?_ _))); first | done | fail "left"), trivial⟩ ?_
  clear c_A1 f_A1 c_A2 f_A2 c_A3 f_A3 c_A4 f_A4 c_A9 f_A9 c_A10 f_A10
  rintro w4 ⟨A1, A3, A4, A10, BA, O4, -⟩
  have c_A1 := cell_of_block A1.out
  have f_A1 := frozen_of_block A1.out
  have c_A3 := cell_of_block A3.out
  have f_A3 := frozen_of_block A3.out
  have c_A4 := cell_of_block A4.out
  have f_A4 := frozen_of_block A4.out
  have c_A10 := cell_of_block A10.out
  have f_A10 := frozen_of_block A10.out
  go_region
  go_wp2_with fail
  refine bodyPost_ret (v := .tuple #[.agg #[.int .i64 s.next, .slice p1 s.fl.length cap1, .int .i64 s.cwnd, .int .i64 s.acc, .int .i64 r.s, .int .i64 r.v, .int .i64 r.rto, .int .i64 r.fails, .bool r.has], .agg #[.int .i64 f.seq, .int .i64 f.note.user, .int .i64 f.note.ver, .int .i64 f.note.stat, .int .i64 f.note.cnt, .int .i64 f.at_, .int .i64 f.tries], .bool ok]) (by simp [results, Try.results17, go_sem, c_A3, c_A4]) rfl ⟨p1, cap1, rfl, Lib.hid ?_, Lib.hid (by have hbsz := Below.size (BA.out); (repeat (first | (with_reducible exact BA.out) | (with_reducible refine bel_set (by first | omega | (simp; done) | (simp; omega)) ?_) | (with_reducible refine bel_alloc (by first | omega | (simp; done) | (simp; omega)) ?_) | (with_reducible refine bel_drew ?_) | (with_reducible refine bel_drewN ?_ _))); first | done | fail "left")⟩
  exact Own.mono (B := w.heap.size + 4) (by (repeat (first | (with_reducible exact O4.out) | (with_reducible refine Own.set ?_ _ _ (by first | omega | (simp; done) | (simp; omega))) | (with_reducible refine Own.alloc ?_ _) | (with_reducible refine Own.drew ?_) | (with_reducible refine Own.drewN ?_ _))); first | done | fail "left") (by omega)

set_option maxHeartbeats 2000000 in
theorem cvoid_any (n : Int) (v : Value) (c a : Int) (r : Rt) (l : List Fl) (user : Int) (w : World) (h : Fls w v l) (hl : l.length ≤ 1000) :
    Calls Try.prog 23 #[.agg #[.int .i64 n, v, .int .i64 c, .int .i64 a, .int .i64 r.s, .int .i64 r.v, .int .i64 r.rto, .int .i64 r.fails, .bool r.has], .int .i64 user] w (RetCh w (sdVoid ⟨n, l, c, a⟩ user) r) := by
  have FS := Lib.hid h
  obtain ⟨s, hs⟩ : ∃ s, s = sdVoid ⟨n, l, c, a⟩ user := ⟨_, rfl⟩
  have HC := Lib.hid (fun W (h : Fls W v l) => svoid_any n v c a l user W h hl)
  rw [← hs] at HC ⊢
  clear h hs
  go_enter Try.func23, Try.ntmps23
  go_upto_region 1 with fail
  refine gen_wp (fun w1 => Hid (w1.heap[w.heap.size]? = some (.cells #[.int .i64 n, v, .int .i64 c, .int .i64 a, .int .i64 r.s, .int .i64 r.v, .int .i64 r.rto, .int .i64 r.fails, .bool r.has] 28)) ∧ Hid (w1.heap[(w.heap.size + 1)]? = some (.cells #[.int .i64 0, .slice none 0 0, .int .i64 0, .int .i64 0, .int .i64 0, .int .i64 0, .int .i64 0, .int .i64 0, .bool false] 28)) ∧ Hid (Below w.heap.size w w1) ∧ Hid (w1.heap.size = w.heap.size + 2) ∧ True) ⟨Lib.hid (by first | (simp [World.setCell, Array.getElem?_modify]; done) | (simp [World.setCell, Array.getElem?_modify]; omega) | ((repeat (first | (with_reducible exact heap_new _ _ _ (by first | rfl | (simp; done))) | (with_reducible refine keepa ?_ _) | (simp [World.setCell, Array.getElem?_modify]; done))); done)), Lib.hid (by first | (simp [World.setCell, Array.getElem?_modify]; done) | (simp [World.setCell, Array.getElem?_modify]; omega) | ((repeat (first | (with_reducible exact heap_new _ _ _ (by first | rfl | (simp; done))) | (with_reducible refine keepa ?_ _) | (simp [World.setCell, Array.getElem?_modify]; done))); done)), Lib.hid (by (repeat (first | (with_reducible exact Below.refl _ _) | (with_reducible refine bel_set (by first | omega | (simp; done) | (simp; omega)) ?_) | (with_reducible refine bel_alloc (by first | omega | (simp; done) | (simp; omega)) ?_) | (with_reducible refine bel_drew ?_) | (with_reducible refine bel_drewN ?_ _))); first | done | fail "left"), Lib.hid (by simp), trivial⟩ ?_
  rintro w1 ⟨A1, A3, BA, SZ, -⟩
  have c_A1 := cell_of_block A1.out
  have f_A1 := frozen_of_block A1.out
  have c_A3 := cell_of_block A3.out
  have f_A3 := frozen_of_block A3.out
  go_wp2_with fail
  refine (HC.out _ (fls_keep FS BA).out).mono ?_
  rintro e w2 ⟨p1, cap1, rfl, O1, B1⟩
  replace A1 := Lib.hid (keepb A1.out B1.out)
  replace c_A1 := cell_of_block A1.out
  replace f_A1 := frozen_of_block A1.out
  replace A3 := Lib.hid (keepb A3.out B1.out)
  replace c_A3 := cell_of_block A3.out
  replace f_A3 := frozen_of_block A3.out
  replace BA := Lib.hid (chain BA.out B1.out)
  replace O1 := Lib.hid (show Own 40 7 (w.heap.size + 2) w2 (.slice p1 s.fl.length cap1) s.fl.length (flat Fl.cells s.fl) by rw [← SZ.out]; exact O1.out)
  go_upto_region 2 with fail
  refine gen_wp (fun w3 => Hid (w3.heap[w.heap.size]? = some (.cells #[.int .i64 s.next, .slice p1 s.fl.length cap1, .int .i64 s.cwnd, .int .i64 s.acc, .int .i64 r.s, .int .i64 r.v, .int .i64 r.rto, .int .i64 r.fails, .bool r.has] 28)) ∧ Hid (w3.heap[(w.heap.size + 1)]? = some (.cells #[.int .i64 0, .slice none 0 0, .int .i64 0, .int .i64 0, .int .i64 0, .int .i64 0, .int .i64 0, .int .i64 0, .bool false] 28)) ∧ Hid (Below w.heap.size w w3) ∧ Hid (Own 40 7 (w.heap.size + 2) w3 (.slice p1 s.fl.length cap1) s.fl.length (flat Fl.cells s.fl)) ∧ True) ⟨Lib.hid (by first | (simp [World.setCell, Array.getElem?_modify, A1.out, A3.out]; done) | (simp [World.setCell, Array.getElem?_modify, A1.out, A3.out]; omega) | ((repeat (first | (with_reducible exact A1.out) | (with_reducible exact A3.out) | (with_reducible exact heap_new _ _ _ (by first | rfl | (simp; done))) | (with_reducible refine keepa ?_ _) | (simp [World.setCell, Array.getElem?_modify, A1.out, A3.out]; done))); done)), Lib.hid (by first | (simp [World.setCell, Array.getElem?_modify, A1.out, A3.out]; done) | (simp [World.setCell, Array.getElem?_modify, A1.out, A3.out]; omega) | ((repeat (first | (with_reducible exact A1.out) | (with_reducible exact A3.out) | (with_reducible exact heap_new _ _ _ (by first | rfl | (simp; done))) | (with_reducible refine keepa ?_ _) | (simp [World.setCell, Array.getElem?_modify, A1.out, A3.out]; done))); done)), Lib.hid (by have hbsz := Below.size (BA.out); (repeat (first | (with_reducible exact BA.out) | (with_reducible refine bel_set (by first | omega | (simp; done) | (simp; omega)) ?_) | (with_reducible refine bel_alloc (by first | omega | (simp; done) | (simp; omega)) ?_) | (with_reducible refine bel_drew ?_) | (with_reducible refine bel_drewN ?_ _))); first | done | fail "left"), Lib.hid (by (repeat (first | (with_reducible exact O1.out) | (with_reducible refine Own.set ?_ _ _ (by first | omega | (simp; done) | (simp; omega))) | (with_reducible refine Own.alloc ?_ _) | (with_reducible refine Own.drew ?_) | (with_reducible refine Own.drewN ?_ _))); first | done | fail "left"), trivial⟩ ?_
  clear c_A1 f_A1 c_A3 f_A3
  rintro w3 ⟨A1, A3, BA, O3, -⟩
  have c_A1 := cell_of_block A1.out
  have f_A1 := frozen_of_block A1.out
  have c_A3 := cell_of_block A3.out
  have f_A3 := frozen_of_block A3.out
  go_wp2_with fail
  refine bodyPost_ret (v := .agg #[.int .i64 s.next, .slice p1 s.fl.length cap1, .int .i64 s.cwnd, .int .i64 s.acc, .int .i64 r.s, .int .i64 r.v, .int .i64 r.rto, .int .i64 r.fails, .bool r.has]) (by simp [results, Try.results23, go_sem, c_A3]) rfl ⟨p1, cap1, rfl, Lib.hid ?_, Lib.hid (by have hbsz := Below.size (BA.out); (repeat (first | (with_reducible exact BA.out) | (with_reducible refine bel_set (by first | omega | (simp; done) | (simp; omega)) ?_) | (with_reducible refine bel_alloc (by first | omega | (simp; done) | (simp; omega)) ?_) | (with_reducible refine bel_drew ?_) | (with_reducible refine bel_drewN ?_ _))); first | done | fail "left")⟩
  exact Own.mono (B := w.heap.size + 2) (by (repeat (first | (with_reducible exact O3.out) | (with_reducible refine Own.set ?_ _ _ (by first | omega | (simp; done) | (simp; omega))) | (with_reducible refine Own.alloc ?_ _) | (with_reducible refine Own.drew ?_) | (with_reducible refine Own.drewN ?_ _))); first | done | fail "left") (by omega)

set_option maxHeartbeats 2000000 in
theorem cack_any (n : Int) (v : Value) (c a : Int) (r : Rt) (l : List Fl) (ack sack now : Int) (w : World) (h : Fls w v l) (hR : sdRight ⟨n, l, c, a⟩ = true) (hnow : 0 ≤ now ∧ now ≤ 1099511627776)
    (d : Ch) (hd : chAck ⟨⟨n, l, c, a⟩, r⟩ ack sack now = d) :
    Calls Try.prog 11 #[.agg #[.int .i64 n, v, .int .i64 c, .int .i64 a, .int .i64 r.s, .int .i64 r.v, .int .i64 r.rto, .int .i64 r.fails, .bool r.has], .int .i64 ack, .int .i64 sack, .int .i64 now] w (RetCh w d.send d.rtt) := by
  have FS := Lib.hid h
  have HR := Lib.hid hR
  have HN := Lib.hid hnow
  obtain ⟨s, m, hsm⟩ : ∃ s m, sdAcked ⟨n, l, c, a⟩ ack sack now = (s, m) := ⟨_, _, rfl⟩
  obtain ⟨q, hq⟩ : ∃ q, q = if 0 ≤ m then rttSample r m else r := ⟨_, rfl⟩
  have hd2 : d = ⟨s, q⟩ := by rw [← hd]; unfold chAck; simp only [hsm, hq]
  subst hd2
  have HS := Lib.hid hsm
  have HQ := Lib.hid hq
  clear h hR hnow hsm hd hq
  show Calls _ _ _ _ (RetCh w s q)
  go_enter Try.func11, Try.ntmps11
  go_upto_region 1 with fail
  refine gen_wp (fun w1 => Hid (w1.heap[w.heap.size]? = some (.cells #[.int .i64 n, v, .int .i64 c, .int .i64 a, .int .i64 r.s, .int .i64 r.v, .int .i64 r.rto, .int .i64 r.fails, .bool r.has] 28)) ∧ Hid (w1.heap[(w.heap.size + 1)]? = some (.cells #[.int .i64 0, .slice none 0 0, .int .i64 0, .int .i64 0, .int .i64 0, .int .i64 0, .int .i64 0, .int .i64 0, .bool false] 28)) ∧ Hid (Below w.heap.size w w1) ∧ Hid (w1.heap.size = w.heap.size + 2) ∧ True) ⟨Lib.hid (by first | (simp [World.setCell, Array.getElem?_modify]; done) | (simp [World.setCell, Array.getElem?_modify]; omega) | ((repeat (first | (with_reducible exact heap_new _ _ _ (by first | rfl | (simp; done))) | (with_reducible refine keepa ?_ _) | (simp [World.setCell, Array.getElem?_modify]; done))); done)), Lib.hid (by first | (simp [World.setCell, Array.getElem?_modify]; done) | (simp [World.setCell, Array.getElem?_modify]; omega) | ((repeat (first | (with_reducible exact heap_new _ _ _ (by first | rfl | (simp; done))) | (with_reducible refine keepa ?_ _) | (simp [World.setCell, Array.getElem?_modify]; done))); done)), Lib.hid (by (repeat (first | (with_reducible exact Below.refl _ _) | (with_reducible refine bel_set (by first | omega | (simp; done) | (simp; omega)) ?_) | (with_reducible refine bel_alloc (by first | omega | (simp; done) | (simp; omega)) ?_) | (with_reducible refine bel_drew ?_) | (with_reducible refine bel_drewN ?_ _))); first | done | fail "left"), Lib.hid (by simp), trivial⟩ ?_
  rintro w1 ⟨A1, A3, BA, SZ, -⟩
  have c_A1 := cell_of_block A1.out
  have f_A1 := frozen_of_block A1.out
  have c_A3 := cell_of_block A3.out
  have f_A3 := frozen_of_block A3.out
  go_wp2_with fail
  refine (sacked_any n v c a l ack sack now _ (fls_keep FS BA).out HR.out HN.out s m HS.out).mono ?_
  rintro e w2 ⟨p1, cap1, rfl, O1, B1⟩
  replace A1 := Lib.hid (keepb A1.out B1.out)
  replace c_A1 := cell_of_block A1.out
  replace f_A1 := frozen_of_block A1.out
  replace A3 := Lib.hid (keepb A3.out B1.out)
  replace c_A3 := cell_of_block A3.out
  replace f_A3 := frozen_of_block A3.out
  replace BA := Lib.hid (chain BA.out B1.out)
  have SZ2 := Lib.hid (show w.heap.size + 2 ≤ w2.heap.size by have := B1.out.size; have := SZ.out; omega)
  replace O1 := Lib.hid (show Own 40 7 (w.heap.size + 2) w2 (.slice p1 s.fl.length cap1) s.fl.length (flat Fl.cells s.fl) by rw [← SZ.out]; exact O1.out)
  go_upto_region 2 with fail
  refine gen_wp (fun w3 => Hid (Below w2.heap.size w2 w3) ∧ Hid (w3.heap[w2.heap.size]? = some (.cells #[.int .i64 s.next, .slice p1 s.fl.length cap1, .int .i64 s.cwnd, .int .i64 s.acc] 24)) ∧ Hid (Own 40 7 (w.heap.size + 2) w3 (.slice p1 s.fl.length cap1) s.fl.length (flat Fl.cells s.fl)) ∧ Hid (w3.heap.size = w2.heap.size + 1) ∧ True) ⟨Lib.hid (by (repeat (first | (with_reducible exact Below.refl _ _) | (with_reducible refine bel_set (by first | omega | (simp; done) | (simp; omega)) ?_) | (with_reducible refine bel_alloc (by first | omega | (simp; done) | (simp; omega)) ?_) | (with_reducible refine bel_drew ?_) | (with_reducible refine bel_drewN ?_ _))); first | done | fail "left"), Lib.hid (by first | (simp [World.setCell, Array.getElem?_modify, A1.out, A3.out]; done) | (simp [World.setCell, Array.getElem?_modify, A1.out, A3.out]; omega) | ((repeat (first | (with_reducible exact A1.out) | (with_reducible exact A3.out) | (with_reducible exact heap_new _ _ _ (by first | rfl | (simp; done))) | (with_reducible refine keepa ?_ _) | (simp [World.setCell, Array.getElem?_modify, A1.out, A3.out]; done))); done)), Lib.hid (by (repeat (first | (with_reducible exact O1.out) | (with_reducible refine Own.set ?_ _ _ (by first | omega | (simp; done) | (simp; omega))) | (with_reducible refine Own.alloc ?_ _) | (with_reducible refine Own.drew ?_) | (with_reducible refine Own.drewN ?_ _))); first | done | fail "left"), Lib.hid (by simp), trivial⟩ ?_
  clear c_A1 f_A1 c_A3 f_A3
  rintro w3 ⟨N, A9, O3, SZ3, -⟩
  have c_A9 := cell_of_block A9.out
  have f_A9 := frozen_of_block A9.out
  replace A1 := Lib.hid (keepb A1.out N.out)
  replace c_A1 := cell_of_block A1.out
  replace f_A1 := frozen_of_block A1.out
  replace A3 := Lib.hid (keepb A3.out N.out)
  replace c_A3 := cell_of_block A3.out
  replace f_A3 := frozen_of_block A3.out
  replace BA := Lib.hid (chain BA.out N.out)
  clear N O1 B1
  have z2 := SZ2.out
  have m1 : w.heap.size ≠ w2.heap.size := by omega
  go_upto_region 3 with fail
  refine gen_wp (fun w4 => Hid (w4.heap[w.heap.size]? = some (.cells #[.int .i64 s.next, .slice p1 s.fl.length cap1, .int .i64 s.cwnd, .int .i64 s.acc, .int .i64 r.s, .int .i64 r.v, .int .i64 r.rto, .int .i64 r.fails, .bool r.has] 28)) ∧ Hid (w4.heap[(w.heap.size + 1)]? = some (.cells #[.int .i64 0, .slice none 0 0, .int .i64 0, .int .i64 0, .int .i64 0, .int .i64 0, .int .i64 0, .int .i64 0, .bool false] 28)) ∧ Hid (Below w.heap.size w w4) ∧ Hid (Own 40 7 (w.heap.size + 2) w4 (.slice p1 s.fl.length cap1) s.fl.length (flat Fl.cells s.fl)) ∧ True) ⟨Lib.hid (by first | (simp [World.setCell, Array.getElem?_modify, A1.out, A3.out, A9.out, m1, m1.symm]; done) | (simp [World.setCell, Array.getElem?_modify, A1.out, A3.out, A9.out, m1, m1.symm]; omega) | ((repeat (first | (with_reducible exact A1.out) | (with_reducible exact A3.out) | (with_reducible exact A9.out) | (with_reducible exact heap_new _ _ _ (by first | rfl | (simp; done))) | (with_reducible refine keepa ?_ _) | (simp [World.setCell, Array.getElem?_modify, A1.out, A3.out, A9.out, m1, m1.symm]; done))); done)), Lib.hid (by first | (simp [World.setCell, Array.getElem?_modify, A1.out, A3.out, A9.out, m1, m1.symm]; done) | (simp [World.setCell, Array.getElem?_modify, A1.out, A3.out, A9.out, m1, m1.symm]; omega) | ((repeat (first | (with_reducible exact A1.out) | (with_reducible exact A3.out) | (with_reducible exact A9.out) | (with_reducible exact heap_new _ _ _ (by first | rfl | (simp; done))) | (with_reducible refine keepa ?_ _) | (simp [World.setCell, Array.getElem?_modify, A1.out, A3.out, A9.out, m1, m1.symm]; done))); done)), Lib.hid (by have hbsz := Below.size (BA.out); (repeat (first | (with_reducible exact BA.out) | (with_reducible refine bel_set (by first | omega | (simp; done) | (simp; omega)) ?_) | (with_reducible refine bel_alloc (by first | omega | (simp; done) | (simp; omega)) ?_) | (with_reducible refine bel_drew ?_) | (with_reducible refine bel_drewN ?_ _))); first | done | fail "left"), Lib.hid (by (repeat (first | (with_reducible exact O3.out) | (with_reducible refine Own.set ?_ _ _ (by first | omega | (simp; done) | (simp; omega))) | (with_reducible refine Own.alloc ?_ _) | (with_reducible refine Own.drew ?_) | (with_reducible refine Own.drewN ?_ _))); first | done | fail "left"), trivial⟩ ?_
  clear c_A1 f_A1 c_A3 f_A3 c_A9 f_A9
  rintro w4 ⟨A1, A3, BA, O4, -⟩
  have c_A1 := cell_of_block A1.out
  have f_A1 := frozen_of_block A1.out
  have c_A3 := cell_of_block A3.out
  have f_A3 := frozen_of_block A3.out
  by_cases hm : 0 ≤ m
  · have HQ2 := Lib.hid (show rttSample r m = q by rw [HQ.out, if_pos hm])
    go_wp2_with fail
    refine (rttSample_at r m _ q HQ2.out).mono ?_; rintro e w5 ⟨rfl, B5⟩
    replace A1 := Lib.hid (keepb A1.out B5.out)
    replace c_A1 := cell_of_block A1.out
    replace f_A1 := frozen_of_block A1.out
    replace A3 := Lib.hid (keepb A3.out B5.out)
    replace c_A3 := cell_of_block A3.out
    replace f_A3 := frozen_of_block A3.out
    replace BA := Lib.hid (chain BA.out B5.out)
    replace O4 := Lib.hid (O4.out.keep B5.out)
    go_upto_region 5 with fail
    refine gen_wp (fun w6 => Hid (w6.heap[w.heap.size]? = some (.cells #[.int .i64 s.next, .slice p1 s.fl.length cap1, .int .i64 s.cwnd, .int .i64 s.acc, .int .i64 q.s, .int .i64 q.v, .int .i64 q.rto, .int .i64 q.fails, .bool q.has] 28)) ∧ Hid (w6.heap[(w.heap.size + 1)]? = some (.cells #[.int .i64 0, .slice none 0 0, .int .i64 0, .int .i64 0, .int .i64 0, .int .i64 0, .int .i64 0, .int .i64 0, .bool false] 28)) ∧ Hid (Below w.heap.size w w6) ∧ Hid (Own 40 7 (w.heap.size + 2) w6 (.slice p1 s.fl.length cap1) s.fl.length (flat Fl.cells s.fl)) ∧ True) ⟨Lib.hid (by first | (simp [World.setCell, Array.getElem?_modify, A1.out, A3.out]; done) | (simp [World.setCell, Array.getElem?_modify, A1.out, A3.out]; omega) | ((repeat (first | (with_reducible exact A1.out) | (with_reducible exact A3.out) | (with_reducible exact heap_new _ _ _ (by first | rfl | (simp; done))) | (with_reducible refine keepa ?_ _) | (simp [World.setCell, Array.getElem?_modify, A1.out, A3.out]; done))); done)), Lib.hid (by first | (simp [World.setCell, Array.getElem?_modify, A1.out, A3.out]; done) | (simp [World.setCell, Array.getElem?_modify, A1.out, A3.out]; omega) | ((repeat (first | (with_reducible exact A1.out) | (with_reducible exact A3.out) | (with_reducible exact heap_new _ _ _ (by first | rfl | (simp; done))) | (with_reducible refine keepa ?_ _) | (simp [World.setCell, Array.getElem?_modify, A1.out, A3.out]; done))); done)), Lib.hid (by have hbsz := Below.size (BA.out); (repeat (first | (with_reducible exact BA.out) | (with_reducible refine bel_set (by first | omega | (simp; done) | (simp; omega)) ?_) | (with_reducible refine bel_alloc (by first | omega | (simp; done) | (simp; omega)) ?_) | (with_reducible refine bel_drew ?_) | (with_reducible refine bel_drewN ?_ _))); first | done | fail "left"), Lib.hid (by (repeat (first | (with_reducible exact O4.out) | (with_reducible refine Own.set ?_ _ _ (by first | omega | (simp; done) | (simp; omega))) | (with_reducible refine Own.alloc ?_ _) | (with_reducible refine Own.drew ?_) | (with_reducible refine Own.drewN ?_ _))); first | done | fail "left"), trivial⟩ ?_
    clear c_A1 f_A1 c_A3 f_A3
    rintro w6 ⟨A1, A3, BA, O6, -⟩
    have c_A1 := cell_of_block A1.out
    have f_A1 := frozen_of_block A1.out
    have c_A3 := cell_of_block A3.out
    have f_A3 := frozen_of_block A3.out
    go_wp2_with fail
    refine bodyPost_ret (v := .agg #[.int .i64 s.next, .slice p1 s.fl.length cap1, .int .i64 s.cwnd, .int .i64 s.acc, .int .i64 q.s, .int .i64 q.v, .int .i64 q.rto, .int .i64 q.fails, .bool q.has]) (by simp [results, Try.results11, go_sem, c_A3]) rfl ⟨p1, cap1, rfl, Lib.hid ?_, Lib.hid (by have hbsz := Below.size (BA.out); (repeat (first | (with_reducible exact BA.out) | (with_reducible refine bel_set (by first | omega | (simp; done) | (simp; omega)) ?_) | (with_reducible refine bel_alloc (by first | omega | (simp; done) | (simp; omega)) ?_) | (with_reducible refine bel_drew ?_) | (with_reducible refine bel_drewN ?_ _))); first | done | fail "left")⟩
    exact Own.mono (B := w.heap.size + 2) (by (repeat (first | (with_reducible exact O6.out) | (with_reducible refine Own.set ?_ _ _ (by first | omega | (simp; done) | (simp; omega))) | (with_reducible refine Own.alloc ?_ _) | (with_reducible refine Own.drew ?_) | (with_reducible refine Own.drewN ?_ _))); first | done | fail "left") (by omega)
  · have hq2 : q = r := by rw [HQ.out, if_neg hm]
    subst hq2
    go_wp2_with fail
    refine bodyPost_ret (v := .agg #[.int .i64 s.next, .slice p1 s.fl.length cap1, .int .i64 s.cwnd, .int .i64 s.acc, .int .i64 q.s, .int .i64 q.v, .int .i64 q.rto, .int .i64 q.fails, .bool q.has]) (by simp [results, Try.results11, go_sem, c_A3]) rfl ⟨p1, cap1, rfl, Lib.hid ?_, Lib.hid (by have hbsz := Below.size (BA.out); (repeat (first | (with_reducible exact BA.out) | (with_reducible refine bel_set (by first | omega | (simp; done) | (simp; omega)) ?_) | (with_reducible refine bel_alloc (by first | omega | (simp; done) | (simp; omega)) ?_) | (with_reducible refine bel_drew ?_) | (with_reducible refine bel_drewN ?_ _))); first | done | fail "left")⟩
    exact Own.mono (B := w.heap.size + 2) (by (repeat (first | (with_reducible exact O4.out) | (with_reducible refine Own.set ?_ _ _ (by first | omega | (simp; done) | (simp; omega))) | (with_reducible refine Own.alloc ?_ _) | (with_reducible refine Own.drew ?_) | (with_reducible refine Own.drewN ?_ _))); first | done | fail "left") (by omega)
end Go.Proofs.Yteilgibfmljoeaa.K

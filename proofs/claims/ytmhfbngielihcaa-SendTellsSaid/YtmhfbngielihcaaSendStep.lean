/-
  CONTRACT of nightjarlaw11.step: both answers hold the same flights.
-/
import Derived.Test.YtmhfbngielihcaaSendRef7
import Derived.Test.YtmhfbngielihcaaSendRead
set_option linter.unusedVariables false
set_option linter.unusedSimpArgs false
namespace Go.Proofs.Ytmhfbngielihcaa.K
open Go Go.RowKit Nj

/-- two Sends that hold the same, and 'true' -/
def RetStep (w : World) (e : Ending) (w' : World) : Prop := ∃ (s : Sd) (p p' : Option Addr) (cap cap' : Nat), sdRight s = true ∧
  e = .returned (.tuple #[.agg #[.int .i64 s.next, .slice p s.fl.length cap, .int .i64 s.cwnd, .int .i64 s.acc], .agg #[.int .i64 s.next, .slice p' s.fl.length cap', .int .i64 s.cwnd, .int .i64 s.acc], .bool true]) ∧
  Hid (Own 34 7 w.heap.size w' (.slice p s.fl.length cap) s.fl.length (flat Fl.cells s.fl)) ∧ Hid (Own 34 7 w.heap.size w' (.slice p' s.fl.length cap') s.fl.length (flat Fl.cells s.fl)) ∧ Hid (Below w.heap.size w w')

theorem eql_fl (x : Fl) (w : World) : (binOp .eql 34 (.agg #[.int .i64 x.seq, .int .i64 x.note.user, .int .i64 x.note.ver, .int .i64 x.note.stat, .int .i64 x.note.cnt, .int .i64 x.at_, .int .i64 x.tries]) (.agg #[.int .i64 x.seq, .int .i64 x.note.user, .int .i64 x.note.ver, .int .i64 x.note.stat, .int .i64 x.note.cnt, .int .i64 x.at_, .int .i64 x.tries])).run Try.prog w = .ok (.bool true) w := by
  go_simp



set_option maxHeartbeats 4000000 in
theorem step11_any (n : Int) (v v' : Value) (c a : Int) (l : List Fl) (x : Ac) (w : World) (h : Fls w v l) (h' : Fls w v' l) (hR : sdRight ⟨n, l, c, a⟩ = true) (e1 : 0 ≤ x.now) (e2 : x.now ≤ 1099511627776) :
    Calls Try.prog 23 #[.agg #[.int .i64 n, v, .int .i64 c, .int .i64 a], .agg #[.int .i64 n, v', .int .i64 c, .int .i64 a], .agg #[.int .i64 x.do_, .int .i64 x.n, .int .i64 x.m, .int .i64 x.now, .int .i64 x.note.user, .int .i64 x.note.ver, .int .i64 x.note.stat, .int .i64 x.note.cnt]] w (RetStep w) := by
  have FS := Lib.hid h
  have FS' := Lib.hid h'
  have HR := Lib.hid hR
  have HP := Lib.hid (rightSd hR)
  have hl8 : l.length ≤ 8 := HP.out.len
  have hn0 : 1 ≤ n := HP.out.n0
  have hn1 : n ≤ 1073741824 := HP.out.n1
  have q0 : 1 ≤ c := HP.out.c0
  have q1 : c ≤ 8 := HP.out.c1
  have HFl := Lib.hid (show ∀ f ∈ l, (0 ≤ f.seq ∧ f.seq ≤ 1073741824) ∧ (0 ≤ f.tries ∧ f.tries ≤ 1073741824) from fun f hf => by have := HP.out.fl f hf; simp only at this; omega)
  obtain ⟨p, cap, rfl, hcap⟩ := fls_shape h
  obtain ⟨p', cap', rfl, hcap'⟩ := fls_shape h'
  clear h h' hR
  rcases (show x.do_ = 0 ∨ x.do_ = 1 ∨ x.do_ = 2 ∨ x.do_ = 3 ∨ (x.do_ ≠ 0 ∧ x.do_ ≠ 1 ∧ x.do_ ≠ 2 ∧ x.do_ ≠ 3) by omega) with hd | hd | hd | hd | ⟨hd0, hd1, hd2, hd3⟩
  · have z0 : (x.do_ == 0) = true := by simpa using hd
    clear hd
    obtain ⟨s, f, ok, hs⟩ : ∃ s f ok, sdPush ⟨n, l, c, a⟩ x.note x.now = (s, f, ok) := ⟨_, _, _, rfl⟩
    have HE := Lib.hid hs
    have HRs := Lib.hid (show sdRight s = true by
      unfold sdPush at hs
      split at hs
      · cases hs; exact HR.out
      · rename_i h0
        cases hs
        exact right_push HR.out (by have := (room_bound HP.out).1; omega) e1 e2)
    have heq := fun w => eql_fl f w
    clear hs
    go_enter Try.func23, Try.ntmps23
    go_upto_region 1 with fail
    simp only [Nat.add_assoc, Nat.reduceAdd]
    refine gen_wp (fun w1 => Hid (w1.heap[w.heap.size]? = some (.cells #[.int .i64 n, .slice p l.length cap, .int .i64 c, .int .i64 a] 24)) ∧ Hid (w1.heap[(w.heap.size + 1)]? = some (.cells #[.int .i64 n, .slice p' l.length cap', .int .i64 c, .int .i64 a] 24)) ∧ Hid (w1.heap[(w.heap.size + 2)]? = some (.cells #[.int .i64 x.do_, .int .i64 x.n, .int .i64 x.m, .int .i64 x.now, .int .i64 x.note.user, .int .i64 x.note.ver, .int .i64 x.note.stat, .int .i64 x.note.cnt] 31)) ∧ Hid (w1.heap[w.heap.size + 3]? = some (.cells #[.int .i64 0, .slice none 0 0, .int .i64 0, .int .i64 0] 24)) ∧ Hid (w1.heap[(w.heap.size + 4)]? = some (.cells #[.int .i64 0, .slice none 0 0, .int .i64 0, .int .i64 0] 24)) ∧ Hid (Below w.heap.size w w1) ∧ Hid (w1.heap.size = w.heap.size + 5) ∧ True) ⟨Lib.hid (by first | (simp [World.setCell, Array.getElem?_modify]; done) | (simp [World.setCell, Array.getElem?_modify]; omega) | ((repeat (first | (with_reducible exact heap_new _ _ _ (by first | rfl | (simp; done))) | (with_reducible refine keepa ?_ _) | (simp [World.setCell, Array.getElem?_modify]; done))); done)), Lib.hid (by first | (simp [World.setCell, Array.getElem?_modify]; done) | (simp [World.setCell, Array.getElem?_modify]; omega) | ((repeat (first | (with_reducible exact heap_new _ _ _ (by first | rfl | (simp; done))) | (with_reducible refine keepa ?_ _) | (simp [World.setCell, Array.getElem?_modify]; done))); done)), Lib.hid (by first | (simp [World.setCell, Array.getElem?_modify]; done) | (simp [World.setCell, Array.getElem?_modify]; omega) | ((repeat (first | (with_reducible exact heap_new _ _ _ (by first | rfl | (simp; done))) | (with_reducible refine keepa ?_ _) | (simp [World.setCell, Array.getElem?_modify]; done))); done)), Lib.hid (keepa (heap_new _ _ _ (by simp)) _), Lib.hid (by first | (simp [World.setCell, Array.getElem?_modify]; done) | (simp [World.setCell, Array.getElem?_modify]; omega) | ((repeat (first | (with_reducible exact heap_new _ _ _ (by first | rfl | (simp; done))) | (with_reducible refine keepa ?_ _) | (simp [World.setCell, Array.getElem?_modify]; done))); done)), Lib.hid (by repeat (first | (with_reducible exact Below.refl _ _) | (with_reducible refine bel_set (by first | omega | (simp; done) | (simp; omega)) ?_) | (with_reducible refine bel_alloc (by first | omega | (simp; done) | (simp; omega)) ?_) | (with_reducible refine bel_drew ?_) | (with_reducible refine bel_drewN ?_ _))), Lib.hid (by simp), trivial⟩ ?_
    rintro w1 ⟨A1, A2, A3, A4, A5, BA, SZ, -⟩
    have c_A1 := cell_of_block A1.out
    have f_A1 := frozen_of_block A1.out
    have c_A2 := cell_of_block A2.out
    have f_A2 := frozen_of_block A2.out
    have c_A3 := cell_of_block A3.out
    have f_A3 := frozen_of_block A3.out
    have c_A5 := cell_of_block A5.out
    have f_A5 := frozen_of_block A5.out
    have c_A4 := cell_of_block A4.out
    have f_A4 := frozen_of_block A4.out
    replace FS := fls_keep FS BA
    replace FS' := fls_keep FS' BA
    go_wp2_with fail
    refine (spush_any n _ c a l x.note x.now _ FS.out ⟨by omega, by omega⟩ ⟨by omega, by omega⟩ (by omega) (fun f hf => (HFl.out f hf).1) s f ok HE.out).mono ?_
    rintro e w2 ⟨p2, cap2, rfl, O2, B2⟩
    replace A1 := Lib.hid (keepb A1.out B2.out)
    replace c_A1 := cell_of_block A1.out
    replace f_A1 := frozen_of_block A1.out
    replace A2 := Lib.hid (keepb A2.out B2.out)
    replace c_A2 := cell_of_block A2.out
    replace f_A2 := frozen_of_block A2.out
    replace A3 := Lib.hid (keepb A3.out B2.out)
    replace c_A3 := cell_of_block A3.out
    replace f_A3 := frozen_of_block A3.out
    replace A4 := Lib.hid (keepb A4.out B2.out)
    replace c_A4 := cell_of_block A4.out
    replace f_A4 := frozen_of_block A4.out
    replace A5 := Lib.hid (keepb A5.out B2.out)
    replace c_A5 := cell_of_block A5.out
    replace f_A5 := frozen_of_block A5.out
    replace BA := Lib.hid (chain BA.out B2.out)
    replace FS' := fls_keep FS' B2
    have SZ2 := Lib.hid (show w.heap.size + 5 ≤ w2.heap.size by have := B2.out.size; have := SZ.out; omega)
    go_upto_region 4 with fail
    refine gen_wp (fun w3 => Hid (Below w2.heap.size w2 w3) ∧ Hid (w3.heap[w2.heap.size]? = some (.cells #[.int .i64 s.next, .slice p2 s.fl.length cap2, .int .i64 s.cwnd, .int .i64 s.acc] 24)) ∧ Hid (w3.heap[(w2.heap.size + 1)]? = some (.cells #[.int .i64 f.seq, .int .i64 f.note.user, .int .i64 f.note.ver, .int .i64 f.note.stat, .int .i64 f.note.cnt, .int .i64 f.at_, .int .i64 f.tries] 34)) ∧ True) ⟨Lib.hid (by repeat (first | (with_reducible exact Below.refl _ _) | (with_reducible refine bel_set (by first | omega | (simp; done) | (simp; omega)) ?_) | (with_reducible refine bel_alloc (by first | omega | (simp; done) | (simp; omega)) ?_) | (with_reducible refine bel_drew ?_) | (with_reducible refine bel_drewN ?_ _))), Lib.hid (by first | (simp [World.setCell, Array.getElem?_modify, A1.out, A2.out, A3.out, A4.out, A5.out]; done) | (simp [World.setCell, Array.getElem?_modify, A1.out, A2.out, A3.out, A4.out, A5.out]; omega) | ((repeat (first | (with_reducible exact A1.out) | (with_reducible exact A2.out) | (with_reducible exact A3.out) | (with_reducible exact A4.out) | (with_reducible exact A5.out) | (with_reducible exact heap_new _ _ _ (by first | rfl | (simp; done))) | (with_reducible refine keepa ?_ _) | (simp [World.setCell, Array.getElem?_modify, A1.out, A2.out, A3.out, A4.out, A5.out]; done))); done)), Lib.hid (by first | (simp [World.setCell, Array.getElem?_modify, A1.out, A2.out, A3.out, A4.out, A5.out]; done) | (simp [World.setCell, Array.getElem?_modify, A1.out, A2.out, A3.out, A4.out, A5.out]; omega) | ((repeat (first | (with_reducible exact A1.out) | (with_reducible exact A2.out) | (with_reducible exact A3.out) | (with_reducible exact A4.out) | (with_reducible exact A5.out) | (with_reducible exact heap_new _ _ _ (by first | rfl | (simp; done))) | (with_reducible refine keepa ?_ _) | (simp [World.setCell, Array.getElem?_modify, A1.out, A2.out, A3.out, A4.out, A5.out]; done))); done)), trivial⟩ ?_
    clear c_A1 f_A1 c_A2 f_A2 c_A3 f_A3 c_A4 f_A4 c_A5 f_A5
    rintro w3 ⟨N, A9, A10, -⟩
    have c_A9 := cell_of_block A9.out
    have f_A9 := frozen_of_block A9.out
    have c_A10 := cell_of_block A10.out
    have f_A10 := frozen_of_block A10.out
    replace A1 := Lib.hid (keepb A1.out N.out)
    replace c_A1 := cell_of_block A1.out
    replace f_A1 := frozen_of_block A1.out
    replace A2 := Lib.hid (keepb A2.out N.out)
    replace c_A2 := cell_of_block A2.out
    replace f_A2 := frozen_of_block A2.out
    replace A3 := Lib.hid (keepb A3.out N.out)
    replace c_A3 := cell_of_block A3.out
    replace f_A3 := frozen_of_block A3.out
    replace A4 := Lib.hid (keepb A4.out N.out)
    replace c_A4 := cell_of_block A4.out
    replace f_A4 := frozen_of_block A4.out
    replace A5 := Lib.hid (keepb A5.out N.out)
    replace c_A5 := cell_of_block A5.out
    replace f_A5 := frozen_of_block A5.out
    replace BA := Lib.hid (chain BA.out N.out)
    replace FS' := fls_keep FS' N
    replace O2 := Lib.hid (show Own 34 7 (w.heap.size + 5) w3 (.slice p2 s.fl.length cap2) s.fl.length (flat Fl.cells s.fl) from Own.mono (O2.out.keep N.out) (by have := SZ.out; omega))
    have SZ3 := Lib.hid (show w.heap.size + 5 ≤ w3.heap.size by have := N.out.size; have := SZ2.out; omega)
    clear N B2
    go_wp2_with fail
    refine (rpush_any n _ c a l x.note x.now _ FS'.out HR.out s f ok HE.out).mono ?_
    rintro e w4 ⟨p4, cap4, rfl, O4, B4⟩
    cases ok
    all_goals
      replace A1 := Lib.hid (keepb A1.out B4.out)
      replace c_A1 := cell_of_block A1.out
      replace f_A1 := frozen_of_block A1.out
      replace A2 := Lib.hid (keepb A2.out B4.out)
      replace c_A2 := cell_of_block A2.out
      replace f_A2 := frozen_of_block A2.out
      replace A3 := Lib.hid (keepb A3.out B4.out)
      replace c_A3 := cell_of_block A3.out
      replace f_A3 := frozen_of_block A3.out
      replace A4 := Lib.hid (keepb A4.out B4.out)
      replace c_A4 := cell_of_block A4.out
      replace f_A4 := frozen_of_block A4.out
      replace A5 := Lib.hid (keepb A5.out B4.out)
      replace c_A5 := cell_of_block A5.out
      replace f_A5 := frozen_of_block A5.out
      replace A9 := Lib.hid (keepb A9.out B4.out)
      replace c_A9 := cell_of_block A9.out
      replace f_A9 := frozen_of_block A9.out
      replace A10 := Lib.hid (keepb A10.out B4.out)
      replace c_A10 := cell_of_block A10.out
      replace f_A10 := frozen_of_block A10.out
      replace BA := Lib.hid (chain BA.out B4.out)
      replace O2 := Lib.hid (O2.out.keep B4.out)
      have SZ4 := Lib.hid (show w.heap.size + 5 ≤ w4.heap.size ∧ w2.heap.size < w4.heap.size by have := B4.out.size; have := SZ2.out; have := block_lt A9.out; omega)
      go_upto_region 5 with fail
      refine gen_wp (fun w5 => Hid (Below w4.heap.size w4 w5) ∧ Hid (w5.heap[w4.heap.size]? = some (.cells #[.int .i64 s.next, .slice p4 s.fl.length cap4, .int .i64 s.cwnd, .int .i64 s.acc] 24)) ∧ Hid (w5.heap[(w4.heap.size + 1)]? = some (.cells #[.int .i64 f.seq, .int .i64 f.note.user, .int .i64 f.note.ver, .int .i64 f.note.stat, .int .i64 f.note.cnt, .int .i64 f.at_, .int .i64 f.tries] 34)) ∧ True) ⟨Lib.hid (by repeat (first | (with_reducible exact Below.refl _ _) | (with_reducible refine bel_set (by first | omega | (simp; done) | (simp; omega)) ?_) | (with_reducible refine bel_alloc (by first | omega | (simp; done) | (simp; omega)) ?_) | (with_reducible refine bel_drew ?_) | (with_reducible refine bel_drewN ?_ _))), Lib.hid (by first | (simp [World.setCell, Array.getElem?_modify, A1.out, A2.out, A3.out, A4.out, A5.out, A9.out, A10.out]; done) | (simp [World.setCell, Array.getElem?_modify, A1.out, A2.out, A3.out, A4.out, A5.out, A9.out, A10.out]; omega) | ((repeat (first | (with_reducible exact A1.out) | (with_reducible exact A2.out) | (with_reducible exact A3.out) | (with_reducible exact A4.out) | (with_reducible exact A5.out) | (with_reducible exact A9.out) | (with_reducible exact A10.out) | (with_reducible exact heap_new _ _ _ (by first | rfl | (simp; done))) | (with_reducible refine keepa ?_ _) | (simp [World.setCell, Array.getElem?_modify, A1.out, A2.out, A3.out, A4.out, A5.out, A9.out, A10.out]; done))); done)), Lib.hid (by first | (simp [World.setCell, Array.getElem?_modify, A1.out, A2.out, A3.out, A4.out, A5.out, A9.out, A10.out]; done) | (simp [World.setCell, Array.getElem?_modify, A1.out, A2.out, A3.out, A4.out, A5.out, A9.out, A10.out]; omega) | ((repeat (first | (with_reducible exact A1.out) | (with_reducible exact A2.out) | (with_reducible exact A3.out) | (with_reducible exact A4.out) | (with_reducible exact A5.out) | (with_reducible exact A9.out) | (with_reducible exact A10.out) | (with_reducible exact heap_new _ _ _ (by first | rfl | (simp; done))) | (with_reducible refine keepa ?_ _) | (simp [World.setCell, Array.getElem?_modify, A1.out, A2.out, A3.out, A4.out, A5.out, A9.out, A10.out]; done))); done)), trivial⟩ ?_
      clear c_A1 f_A1 c_A2 f_A2 c_A3 f_A3 c_A4 f_A4 c_A5 f_A5 c_A9 f_A9 c_A10 f_A10
      rintro w5 ⟨N, A11, A12, -⟩
      have c_A11 := cell_of_block A11.out
      have f_A11 := frozen_of_block A11.out
      have c_A12 := cell_of_block A12.out
      have f_A12 := frozen_of_block A12.out
      replace A1 := Lib.hid (keepb A1.out N.out)
      replace c_A1 := cell_of_block A1.out
      replace f_A1 := frozen_of_block A1.out
      replace A2 := Lib.hid (keepb A2.out N.out)
      replace c_A2 := cell_of_block A2.out
      replace f_A2 := frozen_of_block A2.out
      replace A3 := Lib.hid (keepb A3.out N.out)
      replace c_A3 := cell_of_block A3.out
      replace f_A3 := frozen_of_block A3.out
      replace A4 := Lib.hid (keepb A4.out N.out)
      replace c_A4 := cell_of_block A4.out
      replace f_A4 := frozen_of_block A4.out
      replace A5 := Lib.hid (keepb A5.out N.out)
      replace c_A5 := cell_of_block A5.out
      replace f_A5 := frozen_of_block A5.out
      replace A9 := Lib.hid (keepb A9.out N.out)
      replace c_A9 := cell_of_block A9.out
      replace f_A9 := frozen_of_block A9.out
      replace A10 := Lib.hid (keepb A10.out N.out)
      replace c_A10 := cell_of_block A10.out
      replace f_A10 := frozen_of_block A10.out
      replace BA := Lib.hid (chain BA.out N.out)
      replace O2 := Lib.hid (O2.out.keep N.out)
      replace O4 := Lib.hid (show Own 34 7 (w.heap.size + 5) w5 (.slice p4 s.fl.length cap4) s.fl.length (flat Fl.cells s.fl) from Own.mono (O4.out.keep N.out) SZ3.out)
      clear N B4
      obtain ⟨z4, z5⟩ := SZ4.out
      have z2 := SZ2.out
      have k1 : w.heap.size + 3 ≠ w2.heap.size := by omega
      have k2 : w.heap.size + 4 ≠ w2.heap.size := by omega
      have k3 : w.heap.size + 3 ≠ w4.heap.size := by omega
      have k4 : w.heap.size + 4 ≠ w4.heap.size := by omega
      go_region
      go_wp2_with fail
      refine bodyPost_ret (v := .tuple #[.agg #[.int .i64 s.next, .slice p2 s.fl.length cap2, .int .i64 s.cwnd, .int .i64 s.acc], .agg #[.int .i64 s.next, .slice p4 s.fl.length cap4, .int .i64 s.cwnd, .int .i64 s.acc], .bool true]) (by simp [results, Try.results23, go_sem, c_A4, c_A5]) rfl ⟨s, p2, p4, cap2, cap4, HRs.out, rfl, Lib.hid (Own.mono (B := w.heap.size + 5) (by repeat (first | (with_reducible exact O2.out) | (with_reducible refine Own.set ?_ _ _ (by first | omega | (simp; done) | (simp; omega))) | (with_reducible refine Own.alloc ?_ _) | (with_reducible refine Own.drew ?_) | (with_reducible refine Own.drewN ?_ _))) (by omega)), Lib.hid (Own.mono (B := w.heap.size + 5) (by repeat (first | (with_reducible exact O4.out) | (with_reducible refine Own.set ?_ _ _ (by first | omega | (simp; done) | (simp; omega))) | (with_reducible refine Own.alloc ?_ _) | (with_reducible refine Own.drew ?_) | (with_reducible refine Own.drewN ?_ _))) (by omega)), Lib.hid (by have hbsz := Below.size (BA.out); repeat (first | (with_reducible exact BA.out) | (with_reducible refine bel_set (by first | omega | (simp; done) | (simp; omega)) ?_) | (with_reducible refine bel_alloc (by first | omega | (simp; done) | (simp; omega)) ?_) | (with_reducible refine bel_drew ?_) | (with_reducible refine bel_drewN ?_ _)))⟩
  · have z0 : (x.do_ == 0) = false := by simp; omega
    have z1 : (x.do_ == 1) = true := by simpa using hd
    clear hd
    obtain ⟨s, m, hs⟩ : ∃ s m, sdAcked ⟨n, l, c, a⟩ x.n x.m x.now = (s, m) := ⟨_, _, rfl⟩
    have HE := Lib.hid hs
    have HRs := Lib.hid (acked_facts HR.out e2 hs).1
    clear hs
    go_enter Try.func23, Try.ntmps23
    go_upto_region 1 with fail
    simp only [Nat.add_assoc, Nat.reduceAdd]
    refine gen_wp (fun w1 => Hid (w1.heap[w.heap.size]? = some (.cells #[.int .i64 n, .slice p l.length cap, .int .i64 c, .int .i64 a] 24)) ∧ Hid (w1.heap[(w.heap.size + 1)]? = some (.cells #[.int .i64 n, .slice p' l.length cap', .int .i64 c, .int .i64 a] 24)) ∧ Hid (w1.heap[(w.heap.size + 2)]? = some (.cells #[.int .i64 x.do_, .int .i64 x.n, .int .i64 x.m, .int .i64 x.now, .int .i64 x.note.user, .int .i64 x.note.ver, .int .i64 x.note.stat, .int .i64 x.note.cnt] 31)) ∧ Hid (w1.heap[w.heap.size + 3]? = some (.cells #[.int .i64 0, .slice none 0 0, .int .i64 0, .int .i64 0] 24)) ∧ Hid (w1.heap[(w.heap.size + 4)]? = some (.cells #[.int .i64 0, .slice none 0 0, .int .i64 0, .int .i64 0] 24)) ∧ Hid (Below w.heap.size w w1) ∧ Hid (w1.heap.size = w.heap.size + 5) ∧ True) ⟨Lib.hid (by first | (simp [World.setCell, Array.getElem?_modify]; done) | (simp [World.setCell, Array.getElem?_modify]; omega) | ((repeat (first | (with_reducible exact heap_new _ _ _ (by first | rfl | (simp; done))) | (with_reducible refine keepa ?_ _) | (simp [World.setCell, Array.getElem?_modify]; done))); done)), Lib.hid (by first | (simp [World.setCell, Array.getElem?_modify]; done) | (simp [World.setCell, Array.getElem?_modify]; omega) | ((repeat (first | (with_reducible exact heap_new _ _ _ (by first | rfl | (simp; done))) | (with_reducible refine keepa ?_ _) | (simp [World.setCell, Array.getElem?_modify]; done))); done)), Lib.hid (by first | (simp [World.setCell, Array.getElem?_modify]; done) | (simp [World.setCell, Array.getElem?_modify]; omega) | ((repeat (first | (with_reducible exact heap_new _ _ _ (by first | rfl | (simp; done))) | (with_reducible refine keepa ?_ _) | (simp [World.setCell, Array.getElem?_modify]; done))); done)), Lib.hid (keepa (heap_new _ _ _ (by simp)) _), Lib.hid (by first | (simp [World.setCell, Array.getElem?_modify]; done) | (simp [World.setCell, Array.getElem?_modify]; omega) | ((repeat (first | (with_reducible exact heap_new _ _ _ (by first | rfl | (simp; done))) | (with_reducible refine keepa ?_ _) | (simp [World.setCell, Array.getElem?_modify]; done))); done)), Lib.hid (by repeat (first | (with_reducible exact Below.refl _ _) | (with_reducible refine bel_set (by first | omega | (simp; done) | (simp; omega)) ?_) | (with_reducible refine bel_alloc (by first | omega | (simp; done) | (simp; omega)) ?_) | (with_reducible refine bel_drew ?_) | (with_reducible refine bel_drewN ?_ _))), Lib.hid (by simp), trivial⟩ ?_
    rintro w1 ⟨A1, A2, A3, A4, A5, BA, SZ, -⟩
    have c_A1 := cell_of_block A1.out
    have f_A1 := frozen_of_block A1.out
    have c_A2 := cell_of_block A2.out
    have f_A2 := frozen_of_block A2.out
    have c_A3 := cell_of_block A3.out
    have f_A3 := frozen_of_block A3.out
    have c_A5 := cell_of_block A5.out
    have f_A5 := frozen_of_block A5.out
    have c_A4 := cell_of_block A4.out
    have f_A4 := frozen_of_block A4.out
    replace FS := fls_keep FS BA
    replace FS' := fls_keep FS' BA
    go_wp2_with fail
    refine (sacked_any n _ c a l x.n x.m x.now _ FS.out HR.out ⟨e1, e2⟩ s m HE.out).mono ?_
    rintro e w2 ⟨p2, cap2, rfl, O2, B2⟩
    replace A1 := Lib.hid (keepb A1.out B2.out)
    replace c_A1 := cell_of_block A1.out
    replace f_A1 := frozen_of_block A1.out
    replace A2 := Lib.hid (keepb A2.out B2.out)
    replace c_A2 := cell_of_block A2.out
    replace f_A2 := frozen_of_block A2.out
    replace A3 := Lib.hid (keepb A3.out B2.out)
    replace c_A3 := cell_of_block A3.out
    replace f_A3 := frozen_of_block A3.out
    replace A4 := Lib.hid (keepb A4.out B2.out)
    replace c_A4 := cell_of_block A4.out
    replace f_A4 := frozen_of_block A4.out
    replace A5 := Lib.hid (keepb A5.out B2.out)
    replace c_A5 := cell_of_block A5.out
    replace f_A5 := frozen_of_block A5.out
    replace BA := Lib.hid (chain BA.out B2.out)
    replace FS' := fls_keep FS' B2
    have SZ2 := Lib.hid (show w.heap.size + 5 ≤ w2.heap.size by have := B2.out.size; have := SZ.out; omega)
    go_upto_region 8 with fail
    refine gen_wp (fun w3 => Hid (Below w2.heap.size w2 w3) ∧ Hid (w3.heap[w2.heap.size]? = some (.cells #[.int .i64 s.next, .slice p2 s.fl.length cap2, .int .i64 s.cwnd, .int .i64 s.acc] 24)) ∧ True) ⟨Lib.hid (by repeat (first | (with_reducible exact Below.refl _ _) | (with_reducible refine bel_set (by first | omega | (simp; done) | (simp; omega)) ?_) | (with_reducible refine bel_alloc (by first | omega | (simp; done) | (simp; omega)) ?_) | (with_reducible refine bel_drew ?_) | (with_reducible refine bel_drewN ?_ _))), Lib.hid (by first | (simp [World.setCell, Array.getElem?_modify, A1.out, A2.out, A3.out, A4.out, A5.out]; done) | (simp [World.setCell, Array.getElem?_modify, A1.out, A2.out, A3.out, A4.out, A5.out]; omega) | ((repeat (first | (with_reducible exact A1.out) | (with_reducible exact A2.out) | (with_reducible exact A3.out) | (with_reducible exact A4.out) | (with_reducible exact A5.out) | (with_reducible exact heap_new _ _ _ (by first | rfl | (simp; done))) | (with_reducible refine keepa ?_ _) | (simp [World.setCell, Array.getElem?_modify, A1.out, A2.out, A3.out, A4.out, A5.out]; done))); done)), trivial⟩ ?_
    clear c_A1 f_A1 c_A2 f_A2 c_A3 f_A3 c_A4 f_A4 c_A5 f_A5
    rintro w3 ⟨N, A9, -⟩
    have c_A9 := cell_of_block A9.out
    have f_A9 := frozen_of_block A9.out
    replace A1 := Lib.hid (keepb A1.out N.out)
    replace c_A1 := cell_of_block A1.out
    replace f_A1 := frozen_of_block A1.out
    replace A2 := Lib.hid (keepb A2.out N.out)
    replace c_A2 := cell_of_block A2.out
    replace f_A2 := frozen_of_block A2.out
    replace A3 := Lib.hid (keepb A3.out N.out)
    replace c_A3 := cell_of_block A3.out
    replace f_A3 := frozen_of_block A3.out
    replace A4 := Lib.hid (keepb A4.out N.out)
    replace c_A4 := cell_of_block A4.out
    replace f_A4 := frozen_of_block A4.out
    replace A5 := Lib.hid (keepb A5.out N.out)
    replace c_A5 := cell_of_block A5.out
    replace f_A5 := frozen_of_block A5.out
    replace BA := Lib.hid (chain BA.out N.out)
    replace FS' := fls_keep FS' N
    replace O2 := Lib.hid (show Own 34 7 (w.heap.size + 5) w3 (.slice p2 s.fl.length cap2) s.fl.length (flat Fl.cells s.fl) from Own.mono (O2.out.keep N.out) (by have := SZ.out; omega))
    have SZ3 := Lib.hid (show w.heap.size + 5 ≤ w3.heap.size by have := N.out.size; have := SZ2.out; omega)
    clear N B2
    go_wp2_with fail
    refine (racked_any n _ c a l x.n x.m x.now _ FS'.out HR.out ⟨e1, e2⟩ s m HE.out).mono ?_
    rintro e w4 ⟨p4, cap4, rfl, O4, B4⟩
    replace A1 := Lib.hid (keepb A1.out B4.out)
    replace c_A1 := cell_of_block A1.out
    replace f_A1 := frozen_of_block A1.out
    replace A2 := Lib.hid (keepb A2.out B4.out)
    replace c_A2 := cell_of_block A2.out
    replace f_A2 := frozen_of_block A2.out
    replace A3 := Lib.hid (keepb A3.out B4.out)
    replace c_A3 := cell_of_block A3.out
    replace f_A3 := frozen_of_block A3.out
    replace A4 := Lib.hid (keepb A4.out B4.out)
    replace c_A4 := cell_of_block A4.out
    replace f_A4 := frozen_of_block A4.out
    replace A5 := Lib.hid (keepb A5.out B4.out)
    replace c_A5 := cell_of_block A5.out
    replace f_A5 := frozen_of_block A5.out
    replace A9 := Lib.hid (keepb A9.out B4.out)
    replace c_A9 := cell_of_block A9.out
    replace f_A9 := frozen_of_block A9.out
    replace BA := Lib.hid (chain BA.out B4.out)
    replace O2 := Lib.hid (O2.out.keep B4.out)
    have SZ4 := Lib.hid (show w.heap.size + 5 ≤ w4.heap.size ∧ w2.heap.size < w4.heap.size by have := B4.out.size; have := SZ2.out; have := block_lt A9.out; omega)
    go_upto_region 9 with fail
    refine gen_wp (fun w5 => Hid (Below w4.heap.size w4 w5) ∧ Hid (w5.heap[w4.heap.size]? = some (.cells #[.int .i64 s.next, .slice p4 s.fl.length cap4, .int .i64 s.cwnd, .int .i64 s.acc] 24)) ∧ True) ⟨Lib.hid (by repeat (first | (with_reducible exact Below.refl _ _) | (with_reducible refine bel_set (by first | omega | (simp; done) | (simp; omega)) ?_) | (with_reducible refine bel_alloc (by first | omega | (simp; done) | (simp; omega)) ?_) | (with_reducible refine bel_drew ?_) | (with_reducible refine bel_drewN ?_ _))), Lib.hid (by first | (simp [World.setCell, Array.getElem?_modify, A1.out, A2.out, A3.out, A4.out, A5.out, A9.out]; done) | (simp [World.setCell, Array.getElem?_modify, A1.out, A2.out, A3.out, A4.out, A5.out, A9.out]; omega) | ((repeat (first | (with_reducible exact A1.out) | (with_reducible exact A2.out) | (with_reducible exact A3.out) | (with_reducible exact A4.out) | (with_reducible exact A5.out) | (with_reducible exact A9.out) | (with_reducible exact heap_new _ _ _ (by first | rfl | (simp; done))) | (with_reducible refine keepa ?_ _) | (simp [World.setCell, Array.getElem?_modify, A1.out, A2.out, A3.out, A4.out, A5.out, A9.out]; done))); done)), trivial⟩ ?_
    clear c_A1 f_A1 c_A2 f_A2 c_A3 f_A3 c_A4 f_A4 c_A5 f_A5 c_A9 f_A9
    rintro w5 ⟨N, A11, -⟩
    have c_A11 := cell_of_block A11.out
    have f_A11 := frozen_of_block A11.out
    replace A1 := Lib.hid (keepb A1.out N.out)
    replace c_A1 := cell_of_block A1.out
    replace f_A1 := frozen_of_block A1.out
    replace A2 := Lib.hid (keepb A2.out N.out)
    replace c_A2 := cell_of_block A2.out
    replace f_A2 := frozen_of_block A2.out
    replace A3 := Lib.hid (keepb A3.out N.out)
    replace c_A3 := cell_of_block A3.out
    replace f_A3 := frozen_of_block A3.out
    replace A4 := Lib.hid (keepb A4.out N.out)
    replace c_A4 := cell_of_block A4.out
    replace f_A4 := frozen_of_block A4.out
    replace A5 := Lib.hid (keepb A5.out N.out)
    replace c_A5 := cell_of_block A5.out
    replace f_A5 := frozen_of_block A5.out
    replace A9 := Lib.hid (keepb A9.out N.out)
    replace c_A9 := cell_of_block A9.out
    replace f_A9 := frozen_of_block A9.out
    replace BA := Lib.hid (chain BA.out N.out)
    replace O2 := Lib.hid (O2.out.keep N.out)
    replace O4 := Lib.hid (show Own 34 7 (w.heap.size + 5) w5 (.slice p4 s.fl.length cap4) s.fl.length (flat Fl.cells s.fl) from Own.mono (O4.out.keep N.out) SZ3.out)
    clear N B4
    obtain ⟨z4, z5⟩ := SZ4.out
    have z2 := SZ2.out
    have k1 : w.heap.size + 3 ≠ w2.heap.size := by omega
    have k2 : w.heap.size + 4 ≠ w2.heap.size := by omega
    have k3 : w.heap.size + 3 ≠ w4.heap.size := by omega
    have k4 : w.heap.size + 4 ≠ w4.heap.size := by omega
    go_region
    go_wp2_with fail
    refine bodyPost_ret (v := .tuple #[.agg #[.int .i64 s.next, .slice p2 s.fl.length cap2, .int .i64 s.cwnd, .int .i64 s.acc], .agg #[.int .i64 s.next, .slice p4 s.fl.length cap4, .int .i64 s.cwnd, .int .i64 s.acc], .bool true]) (by simp [results, Try.results23, go_sem, c_A4, c_A5]) rfl ⟨s, p2, p4, cap2, cap4, HRs.out, rfl, Lib.hid (Own.mono (B := w.heap.size + 5) (by repeat (first | (with_reducible exact O2.out) | (with_reducible refine Own.set ?_ _ _ (by first | omega | (simp; done) | (simp; omega))) | (with_reducible refine Own.alloc ?_ _) | (with_reducible refine Own.drew ?_) | (with_reducible refine Own.drewN ?_ _))) (by omega)), Lib.hid (Own.mono (B := w.heap.size + 5) (by repeat (first | (with_reducible exact O4.out) | (with_reducible refine Own.set ?_ _ _ (by first | omega | (simp; done) | (simp; omega))) | (with_reducible refine Own.alloc ?_ _) | (with_reducible refine Own.drew ?_) | (with_reducible refine Own.drewN ?_ _))) (by omega)), Lib.hid (by have hbsz := Below.size (BA.out); repeat (first | (with_reducible exact BA.out) | (with_reducible refine bel_set (by first | omega | (simp; done) | (simp; omega)) ?_) | (with_reducible refine bel_alloc (by first | omega | (simp; done) | (simp; omega)) ?_) | (with_reducible refine bel_drew ?_) | (with_reducible refine bel_drewN ?_ _)))⟩
  · have z0 : (x.do_ == 0) = false := by simp; omega
    have z1 : (x.do_ == 1) = false := by simp; omega
    have z2 : (x.do_ == 2) = true := by simpa using hd
    clear hd
    obtain ⟨s, f, ok, hs⟩ : ∃ s f ok, sdResend ⟨n, l, c, a⟩ x.n x.now = (s, f, ok) := ⟨_, _, _, rfl⟩
    have HE := Lib.hid hs
    have HRs := Lib.hid (resend_facts HR.out e1 e2 hs).1
    have heq := fun w => eql_fl f w
    clear hs
    go_enter Try.func23, Try.ntmps23
    go_upto_region 1 with fail
    simp only [Nat.add_assoc, Nat.reduceAdd]
    refine gen_wp (fun w1 => Hid (w1.heap[w.heap.size]? = some (.cells #[.int .i64 n, .slice p l.length cap, .int .i64 c, .int .i64 a] 24)) ∧ Hid (w1.heap[(w.heap.size + 1)]? = some (.cells #[.int .i64 n, .slice p' l.length cap', .int .i64 c, .int .i64 a] 24)) ∧ Hid (w1.heap[(w.heap.size + 2)]? = some (.cells #[.int .i64 x.do_, .int .i64 x.n, .int .i64 x.m, .int .i64 x.now, .int .i64 x.note.user, .int .i64 x.note.ver, .int .i64 x.note.stat, .int .i64 x.note.cnt] 31)) ∧ Hid (w1.heap[w.heap.size + 3]? = some (.cells #[.int .i64 0, .slice none 0 0, .int .i64 0, .int .i64 0] 24)) ∧ Hid (w1.heap[(w.heap.size + 4)]? = some (.cells #[.int .i64 0, .slice none 0 0, .int .i64 0, .int .i64 0] 24)) ∧ Hid (Below w.heap.size w w1) ∧ Hid (w1.heap.size = w.heap.size + 5) ∧ True) ⟨Lib.hid (by first | (simp [World.setCell, Array.getElem?_modify]; done) | (simp [World.setCell, Array.getElem?_modify]; omega) | ((repeat (first | (with_reducible exact heap_new _ _ _ (by first | rfl | (simp; done))) | (with_reducible refine keepa ?_ _) | (simp [World.setCell, Array.getElem?_modify]; done))); done)), Lib.hid (by first | (simp [World.setCell, Array.getElem?_modify]; done) | (simp [World.setCell, Array.getElem?_modify]; omega) | ((repeat (first | (with_reducible exact heap_new _ _ _ (by first | rfl | (simp; done))) | (with_reducible refine keepa ?_ _) | (simp [World.setCell, Array.getElem?_modify]; done))); done)), Lib.hid (by first | (simp [World.setCell, Array.getElem?_modify]; done) | (simp [World.setCell, Array.getElem?_modify]; omega) | ((repeat (first | (with_reducible exact heap_new _ _ _ (by first | rfl | (simp; done))) | (with_reducible refine keepa ?_ _) | (simp [World.setCell, Array.getElem?_modify]; done))); done)), Lib.hid (keepa (heap_new _ _ _ (by simp)) _), Lib.hid (by first | (simp [World.setCell, Array.getElem?_modify]; done) | (simp [World.setCell, Array.getElem?_modify]; omega) | ((repeat (first | (with_reducible exact heap_new _ _ _ (by first | rfl | (simp; done))) | (with_reducible refine keepa ?_ _) | (simp [World.setCell, Array.getElem?_modify]; done))); done)), Lib.hid (by repeat (first | (with_reducible exact Below.refl _ _) | (with_reducible refine bel_set (by first | omega | (simp; done) | (simp; omega)) ?_) | (with_reducible refine bel_alloc (by first | omega | (simp; done) | (simp; omega)) ?_) | (with_reducible refine bel_drew ?_) | (with_reducible refine bel_drewN ?_ _))), Lib.hid (by simp), trivial⟩ ?_
    rintro w1 ⟨A1, A2, A3, A4, A5, BA, SZ, -⟩
    have c_A1 := cell_of_block A1.out
    have f_A1 := frozen_of_block A1.out
    have c_A2 := cell_of_block A2.out
    have f_A2 := frozen_of_block A2.out
    have c_A3 := cell_of_block A3.out
    have f_A3 := frozen_of_block A3.out
    have c_A5 := cell_of_block A5.out
    have f_A5 := frozen_of_block A5.out
    have c_A4 := cell_of_block A4.out
    have f_A4 := frozen_of_block A4.out
    replace FS := fls_keep FS BA
    replace FS' := fls_keep FS' BA
    go_wp2_with fail
    refine (sresend_any n _ c a l x.n x.now _ FS.out (by omega) (fun f hf => (HFl.out f hf).2) s f ok HE.out).mono ?_
    rintro e w2 ⟨p2, cap2, rfl, O2, B2⟩
    replace A1 := Lib.hid (keepb A1.out B2.out)
    replace c_A1 := cell_of_block A1.out
    replace f_A1 := frozen_of_block A1.out
    replace A2 := Lib.hid (keepb A2.out B2.out)
    replace c_A2 := cell_of_block A2.out
    replace f_A2 := frozen_of_block A2.out
    replace A3 := Lib.hid (keepb A3.out B2.out)
    replace c_A3 := cell_of_block A3.out
    replace f_A3 := frozen_of_block A3.out
    replace A4 := Lib.hid (keepb A4.out B2.out)
    replace c_A4 := cell_of_block A4.out
    replace f_A4 := frozen_of_block A4.out
    replace A5 := Lib.hid (keepb A5.out B2.out)
    replace c_A5 := cell_of_block A5.out
    replace f_A5 := frozen_of_block A5.out
    replace BA := Lib.hid (chain BA.out B2.out)
    replace FS' := fls_keep FS' B2
    have SZ2 := Lib.hid (show w.heap.size + 5 ≤ w2.heap.size by have := B2.out.size; have := SZ.out; omega)
    go_upto_region 12 with fail
    refine gen_wp (fun w3 => Hid (Below w2.heap.size w2 w3) ∧ Hid (w3.heap[w2.heap.size]? = some (.cells #[.int .i64 s.next, .slice p2 s.fl.length cap2, .int .i64 s.cwnd, .int .i64 s.acc] 24)) ∧ Hid (w3.heap[(w2.heap.size + 1)]? = some (.cells #[.int .i64 f.seq, .int .i64 f.note.user, .int .i64 f.note.ver, .int .i64 f.note.stat, .int .i64 f.note.cnt, .int .i64 f.at_, .int .i64 f.tries] 34)) ∧ True) ⟨Lib.hid (by repeat (first | (with_reducible exact Below.refl _ _) | (with_reducible refine bel_set (by first | omega | (simp; done) | (simp; omega)) ?_) | (with_reducible refine bel_alloc (by first | omega | (simp; done) | (simp; omega)) ?_) | (with_reducible refine bel_drew ?_) | (with_reducible refine bel_drewN ?_ _))), Lib.hid (by first | (simp [World.setCell, Array.getElem?_modify, A1.out, A2.out, A3.out, A4.out, A5.out]; done) | (simp [World.setCell, Array.getElem?_modify, A1.out, A2.out, A3.out, A4.out, A5.out]; omega) | ((repeat (first | (with_reducible exact A1.out) | (with_reducible exact A2.out) | (with_reducible exact A3.out) | (with_reducible exact A4.out) | (with_reducible exact A5.out) | (with_reducible exact heap_new _ _ _ (by first | rfl | (simp; done))) | (with_reducible refine keepa ?_ _) | (simp [World.setCell, Array.getElem?_modify, A1.out, A2.out, A3.out, A4.out, A5.out]; done))); done)), Lib.hid (by first | (simp [World.setCell, Array.getElem?_modify, A1.out, A2.out, A3.out, A4.out, A5.out]; done) | (simp [World.setCell, Array.getElem?_modify, A1.out, A2.out, A3.out, A4.out, A5.out]; omega) | ((repeat (first | (with_reducible exact A1.out) | (with_reducible exact A2.out) | (with_reducible exact A3.out) | (with_reducible exact A4.out) | (with_reducible exact A5.out) | (with_reducible exact heap_new _ _ _ (by first | rfl | (simp; done))) | (with_reducible refine keepa ?_ _) | (simp [World.setCell, Array.getElem?_modify, A1.out, A2.out, A3.out, A4.out, A5.out]; done))); done)), trivial⟩ ?_
    clear c_A1 f_A1 c_A2 f_A2 c_A3 f_A3 c_A4 f_A4 c_A5 f_A5
    rintro w3 ⟨N, A9, A10, -⟩
    have c_A9 := cell_of_block A9.out
    have f_A9 := frozen_of_block A9.out
    have c_A10 := cell_of_block A10.out
    have f_A10 := frozen_of_block A10.out
    replace A1 := Lib.hid (keepb A1.out N.out)
    replace c_A1 := cell_of_block A1.out
    replace f_A1 := frozen_of_block A1.out
    replace A2 := Lib.hid (keepb A2.out N.out)
    replace c_A2 := cell_of_block A2.out
    replace f_A2 := frozen_of_block A2.out
    replace A3 := Lib.hid (keepb A3.out N.out)
    replace c_A3 := cell_of_block A3.out
    replace f_A3 := frozen_of_block A3.out
    replace A4 := Lib.hid (keepb A4.out N.out)
    replace c_A4 := cell_of_block A4.out
    replace f_A4 := frozen_of_block A4.out
    replace A5 := Lib.hid (keepb A5.out N.out)
    replace c_A5 := cell_of_block A5.out
    replace f_A5 := frozen_of_block A5.out
    replace BA := Lib.hid (chain BA.out N.out)
    replace FS' := fls_keep FS' N
    replace O2 := Lib.hid (show Own 34 7 (w.heap.size + 5) w3 (.slice p2 s.fl.length cap2) s.fl.length (flat Fl.cells s.fl) from Own.mono (O2.out.keep N.out) (by have := SZ.out; omega))
    have SZ3 := Lib.hid (show w.heap.size + 5 ≤ w3.heap.size by have := N.out.size; have := SZ2.out; omega)
    clear N B2
    go_wp2_with fail
    refine (rresend_any n _ c a l x.n x.now _ FS'.out (by omega) (fun f hf => (HFl.out f hf).2) s f ok HE.out).mono ?_
    rintro e w4 ⟨p4, cap4, rfl, O4, B4⟩
    cases ok
    all_goals
      replace A1 := Lib.hid (keepb A1.out B4.out)
      replace c_A1 := cell_of_block A1.out
      replace f_A1 := frozen_of_block A1.out
      replace A2 := Lib.hid (keepb A2.out B4.out)
      replace c_A2 := cell_of_block A2.out
      replace f_A2 := frozen_of_block A2.out
      replace A3 := Lib.hid (keepb A3.out B4.out)
      replace c_A3 := cell_of_block A3.out
      replace f_A3 := frozen_of_block A3.out
      replace A4 := Lib.hid (keepb A4.out B4.out)
      replace c_A4 := cell_of_block A4.out
      replace f_A4 := frozen_of_block A4.out
      replace A5 := Lib.hid (keepb A5.out B4.out)
      replace c_A5 := cell_of_block A5.out
      replace f_A5 := frozen_of_block A5.out
      replace A9 := Lib.hid (keepb A9.out B4.out)
      replace c_A9 := cell_of_block A9.out
      replace f_A9 := frozen_of_block A9.out
      replace A10 := Lib.hid (keepb A10.out B4.out)
      replace c_A10 := cell_of_block A10.out
      replace f_A10 := frozen_of_block A10.out
      replace BA := Lib.hid (chain BA.out B4.out)
      replace O2 := Lib.hid (O2.out.keep B4.out)
      have SZ4 := Lib.hid (show w.heap.size + 5 ≤ w4.heap.size ∧ w2.heap.size < w4.heap.size by have := B4.out.size; have := SZ2.out; have := block_lt A9.out; omega)
      go_upto_region 13 with fail
      refine gen_wp (fun w5 => Hid (Below w4.heap.size w4 w5) ∧ Hid (w5.heap[w4.heap.size]? = some (.cells #[.int .i64 s.next, .slice p4 s.fl.length cap4, .int .i64 s.cwnd, .int .i64 s.acc] 24)) ∧ Hid (w5.heap[(w4.heap.size + 1)]? = some (.cells #[.int .i64 f.seq, .int .i64 f.note.user, .int .i64 f.note.ver, .int .i64 f.note.stat, .int .i64 f.note.cnt, .int .i64 f.at_, .int .i64 f.tries] 34)) ∧ True) ⟨Lib.hid (by repeat (first | (with_reducible exact Below.refl _ _) | (with_reducible refine bel_set (by first | omega | (simp; done) | (simp; omega)) ?_) | (with_reducible refine bel_alloc (by first | omega | (simp; done) | (simp; omega)) ?_) | (with_reducible refine bel_drew ?_) | (with_reducible refine bel_drewN ?_ _))), Lib.hid (by first | (simp [World.setCell, Array.getElem?_modify, A1.out, A2.out, A3.out, A4.out, A5.out, A9.out, A10.out]; done) | (simp [World.setCell, Array.getElem?_modify, A1.out, A2.out, A3.out, A4.out, A5.out, A9.out, A10.out]; omega) | ((repeat (first | (with_reducible exact A1.out) | (with_reducible exact A2.out) | (with_reducible exact A3.out) | (with_reducible exact A4.out) | (with_reducible exact A5.out) | (with_reducible exact A9.out) | (with_reducible exact A10.out) | (with_reducible exact heap_new _ _ _ (by first | rfl | (simp; done))) | (with_reducible refine keepa ?_ _) | (simp [World.setCell, Array.getElem?_modify, A1.out, A2.out, A3.out, A4.out, A5.out, A9.out, A10.out]; done))); done)), Lib.hid (by first | (simp [World.setCell, Array.getElem?_modify, A1.out, A2.out, A3.out, A4.out, A5.out, A9.out, A10.out]; done) | (simp [World.setCell, Array.getElem?_modify, A1.out, A2.out, A3.out, A4.out, A5.out, A9.out, A10.out]; omega) | ((repeat (first | (with_reducible exact A1.out) | (with_reducible exact A2.out) | (with_reducible exact A3.out) | (with_reducible exact A4.out) | (with_reducible exact A5.out) | (with_reducible exact A9.out) | (with_reducible exact A10.out) | (with_reducible exact heap_new _ _ _ (by first | rfl | (simp; done))) | (with_reducible refine keepa ?_ _) | (simp [World.setCell, Array.getElem?_modify, A1.out, A2.out, A3.out, A4.out, A5.out, A9.out, A10.out]; done))); done)), trivial⟩ ?_
      clear c_A1 f_A1 c_A2 f_A2 c_A3 f_A3 c_A4 f_A4 c_A5 f_A5 c_A9 f_A9 c_A10 f_A10
      rintro w5 ⟨N, A11, A12, -⟩
      have c_A11 := cell_of_block A11.out
      have f_A11 := frozen_of_block A11.out
      have c_A12 := cell_of_block A12.out
      have f_A12 := frozen_of_block A12.out
      replace A1 := Lib.hid (keepb A1.out N.out)
      replace c_A1 := cell_of_block A1.out
      replace f_A1 := frozen_of_block A1.out
      replace A2 := Lib.hid (keepb A2.out N.out)
      replace c_A2 := cell_of_block A2.out
      replace f_A2 := frozen_of_block A2.out
      replace A3 := Lib.hid (keepb A3.out N.out)
      replace c_A3 := cell_of_block A3.out
      replace f_A3 := frozen_of_block A3.out
      replace A4 := Lib.hid (keepb A4.out N.out)
      replace c_A4 := cell_of_block A4.out
      replace f_A4 := frozen_of_block A4.out
      replace A5 := Lib.hid (keepb A5.out N.out)
      replace c_A5 := cell_of_block A5.out
      replace f_A5 := frozen_of_block A5.out
      replace A9 := Lib.hid (keepb A9.out N.out)
      replace c_A9 := cell_of_block A9.out
      replace f_A9 := frozen_of_block A9.out
      replace A10 := Lib.hid (keepb A10.out N.out)
      replace c_A10 := cell_of_block A10.out
      replace f_A10 := frozen_of_block A10.out
      replace BA := Lib.hid (chain BA.out N.out)
      replace O2 := Lib.hid (O2.out.keep N.out)
      replace O4 := Lib.hid (show Own 34 7 (w.heap.size + 5) w5 (.slice p4 s.fl.length cap4) s.fl.length (flat Fl.cells s.fl) from Own.mono (O4.out.keep N.out) SZ3.out)
      clear N B4
      obtain ⟨z4, z5⟩ := SZ4.out
      have z2 := SZ2.out
      have k1 : w.heap.size + 3 ≠ w2.heap.size := by omega
      have k2 : w.heap.size + 4 ≠ w2.heap.size := by omega
      have k3 : w.heap.size + 3 ≠ w4.heap.size := by omega
      have k4 : w.heap.size + 4 ≠ w4.heap.size := by omega
      go_region
      go_wp2_with fail
      refine bodyPost_ret (v := .tuple #[.agg #[.int .i64 s.next, .slice p2 s.fl.length cap2, .int .i64 s.cwnd, .int .i64 s.acc], .agg #[.int .i64 s.next, .slice p4 s.fl.length cap4, .int .i64 s.cwnd, .int .i64 s.acc], .bool true]) (by simp [results, Try.results23, go_sem, c_A4, c_A5]) rfl ⟨s, p2, p4, cap2, cap4, HRs.out, rfl, Lib.hid (Own.mono (B := w.heap.size + 5) (by repeat (first | (with_reducible exact O2.out) | (with_reducible refine Own.set ?_ _ _ (by first | omega | (simp; done) | (simp; omega))) | (with_reducible refine Own.alloc ?_ _) | (with_reducible refine Own.drew ?_) | (with_reducible refine Own.drewN ?_ _))) (by omega)), Lib.hid (Own.mono (B := w.heap.size + 5) (by repeat (first | (with_reducible exact O4.out) | (with_reducible refine Own.set ?_ _ _ (by first | omega | (simp; done) | (simp; omega))) | (with_reducible refine Own.alloc ?_ _) | (with_reducible refine Own.drew ?_) | (with_reducible refine Own.drewN ?_ _))) (by omega)), Lib.hid (by have hbsz := Below.size (BA.out); repeat (first | (with_reducible exact BA.out) | (with_reducible refine bel_set (by first | omega | (simp; done) | (simp; omega)) ?_) | (with_reducible refine bel_alloc (by first | omega | (simp; done) | (simp; omega)) ?_) | (with_reducible refine bel_drew ?_) | (with_reducible refine bel_drewN ?_ _)))⟩
  · have z0 : (x.do_ == 0) = false := by simp; omega
    have z1 : (x.do_ == 1) = false := by simp; omega
    have z2 : (x.do_ == 2) = false := by simp; omega
    have z3 : (x.do_ == 3) = true := by simpa using hd
    clear hd
    obtain ⟨s, hs⟩ : ∃ s, s = sdLost ⟨n, l, c, a⟩ := ⟨_, rfl⟩
    have HRs := Lib.hid (show sdRight s = true by rw [hs]; exact right_lost HR.out)
    have HC := Lib.hid (fun W (h : Fls W (.slice p l.length cap) l) => slost_at ⟨n, l, c, a⟩ p cap W h HR.out)
    have HC' := Lib.hid (fun W (h : Fls W (.slice p' l.length cap') l) => rlost_any n _ c a l W h (by omega) ⟨by omega, by omega⟩)
    rw [← hs] at HC HC'
    clear hs
    go_enter Try.func23, Try.ntmps23
    go_upto_region 1 with fail
    simp only [Nat.add_assoc, Nat.reduceAdd]
    refine gen_wp (fun w1 => Hid (w1.heap[w.heap.size]? = some (.cells #[.int .i64 n, .slice p l.length cap, .int .i64 c, .int .i64 a] 24)) ∧ Hid (w1.heap[(w.heap.size + 1)]? = some (.cells #[.int .i64 n, .slice p' l.length cap', .int .i64 c, .int .i64 a] 24)) ∧ Hid (w1.heap[(w.heap.size + 2)]? = some (.cells #[.int .i64 x.do_, .int .i64 x.n, .int .i64 x.m, .int .i64 x.now, .int .i64 x.note.user, .int .i64 x.note.ver, .int .i64 x.note.stat, .int .i64 x.note.cnt] 31)) ∧ Hid (w1.heap[w.heap.size + 3]? = some (.cells #[.int .i64 0, .slice none 0 0, .int .i64 0, .int .i64 0] 24)) ∧ Hid (w1.heap[(w.heap.size + 4)]? = some (.cells #[.int .i64 0, .slice none 0 0, .int .i64 0, .int .i64 0] 24)) ∧ Hid (Below w.heap.size w w1) ∧ Hid (w1.heap.size = w.heap.size + 5) ∧ True) ⟨Lib.hid (by first | (simp [World.setCell, Array.getElem?_modify]; done) | (simp [World.setCell, Array.getElem?_modify]; omega) | ((repeat (first | (with_reducible exact heap_new _ _ _ (by first | rfl | (simp; done))) | (with_reducible refine keepa ?_ _) | (simp [World.setCell, Array.getElem?_modify]; done))); done)), Lib.hid (by first | (simp [World.setCell, Array.getElem?_modify]; done) | (simp [World.setCell, Array.getElem?_modify]; omega) | ((repeat (first | (with_reducible exact heap_new _ _ _ (by first | rfl | (simp; done))) | (with_reducible refine keepa ?_ _) | (simp [World.setCell, Array.getElem?_modify]; done))); done)), Lib.hid (by first | (simp [World.setCell, Array.getElem?_modify]; done) | (simp [World.setCell, Array.getElem?_modify]; omega) | ((repeat (first | (with_reducible exact heap_new _ _ _ (by first | rfl | (simp; done))) | (with_reducible refine keepa ?_ _) | (simp [World.setCell, Array.getElem?_modify]; done))); done)), Lib.hid (keepa (heap_new _ _ _ (by simp)) _), Lib.hid (by first | (simp [World.setCell, Array.getElem?_modify]; done) | (simp [World.setCell, Array.getElem?_modify]; omega) | ((repeat (first | (with_reducible exact heap_new _ _ _ (by first | rfl | (simp; done))) | (with_reducible refine keepa ?_ _) | (simp [World.setCell, Array.getElem?_modify]; done))); done)), Lib.hid (by repeat (first | (with_reducible exact Below.refl _ _) | (with_reducible refine bel_set (by first | omega | (simp; done) | (simp; omega)) ?_) | (with_reducible refine bel_alloc (by first | omega | (simp; done) | (simp; omega)) ?_) | (with_reducible refine bel_drew ?_) | (with_reducible refine bel_drewN ?_ _))), Lib.hid (by simp), trivial⟩ ?_
    rintro w1 ⟨A1, A2, A3, A4, A5, BA, SZ, -⟩
    have c_A1 := cell_of_block A1.out
    have f_A1 := frozen_of_block A1.out
    have c_A2 := cell_of_block A2.out
    have f_A2 := frozen_of_block A2.out
    have c_A3 := cell_of_block A3.out
    have f_A3 := frozen_of_block A3.out
    have c_A5 := cell_of_block A5.out
    have f_A5 := frozen_of_block A5.out
    have c_A4 := cell_of_block A4.out
    have f_A4 := frozen_of_block A4.out
    replace FS := fls_keep FS BA
    replace FS' := fls_keep FS' BA
    have z5 := SZ.out
    have HSZ : Hid (w.heap.size + 5 ≤ w1.heap.size) := Lib.hid (by omega)
    clear z5
    go_upto_region 15 with fail
    have FSd := Lib.hid (show Fls w1.drew (.slice p l.length cap) l from FS.out)
    have FSd' := Lib.hid (show Fls w1.drew (.slice p' l.length cap') l from FS'.out)
    go_region_with ((first
      | (go_at_call 17; refine (HC.out _ FSd.out).mono ?_; rintro e w4 ⟨p2, cap2, rfl, O2, B2⟩; have A1e := Lib.hid (keepb (w := w1.drew) A1.out B2.out); have A2e := Lib.hid (keepb (w := w1.drew) A2.out B2.out); have A3e := Lib.hid (keepb (w := w1.drew) A3.out B2.out); have A4e := Lib.hid (keepb (w := w1.drew) A4.out B2.out); have A5e := Lib.hid (keepb (w := w1.drew) A5.out B2.out); have BAe := Lib.hid (chain (w := w1.drew) BA.out.drew B2.out); have FSe' := Lib.hid (Sl.keep (by decide) FSd'.out B2.out); have c_A1e := cell_of_block A1e.out; have c_A2e := cell_of_block A2e.out; have c_A3e := cell_of_block A3e.out)
      | (go_at_call 40; refine (HC'.out _ FSe'.out).mono ?_; rintro e w5 ⟨p4, cap4, rfl, O4, B4⟩; have A4f := Lib.hid (keepb A4e.out B4.out); have A5f := Lib.hid (keepb A5e.out B4.out); have BAf := Lib.hid (chain BAe.out B4.out); have O2f := Lib.hid (Own.keep O2.out B4.out); have c_A1f := cell_of_block (keepb A1e.out B4.out); have c_A2f := cell_of_block (keepb A2e.out B4.out); have c_A3f := cell_of_block (keepb A3e.out B4.out); have c_A4f := cell_of_block A4f.out; have f_A4f := frozen_of_block A4f.out; have c_A5f := cell_of_block A5f.out; have f_A5f := frozen_of_block A5f.out)))
    all_goals go_wp2_with fail
    all_goals
      have hz := B2.out.size
      have hz1 := HSZ.out
      have hz2 : w1.drew.heap.size = w1.heap.size := rfl
      refine bodyPost_ret (v := .tuple #[.agg #[.int .i64 s.next, .slice p2 s.fl.length cap2, .int .i64 s.cwnd, .int .i64 s.acc], .agg #[.int .i64 s.next, .slice p4 s.fl.length cap4, .int .i64 s.cwnd, .int .i64 s.acc], .bool true]) (by simp [results, Try.results23, go_sem, c_A4f, c_A5f]) rfl ⟨s, p2, p4, cap2, cap4, HRs.out, rfl, Lib.hid (by have hO := O2f.out.mono (B' := w.heap.size + 5) (by omega); exact Own.mono (B := w.heap.size + 5) (by repeat (first | (with_reducible exact hO) | (with_reducible refine Own.set ?_ _ _ (by first | omega | (simp; done) | (simp; omega))) | (with_reducible refine Own.alloc ?_ _) | (with_reducible refine Own.drew ?_) | (with_reducible refine Own.drewN ?_ _))) (by omega)), Lib.hid (by have hO := O4.out.mono (B' := w.heap.size + 5) (by omega); exact Own.mono (B := w.heap.size + 5) (by repeat (first | (with_reducible exact hO) | (with_reducible refine Own.set ?_ _ _ (by first | omega | (simp; done) | (simp; omega))) | (with_reducible refine Own.alloc ?_ _) | (with_reducible refine Own.drew ?_) | (with_reducible refine Own.drewN ?_ _))) (by omega)), Lib.hid (by have hbsz := Below.size (BAf.out); repeat (first | (with_reducible exact BAf.out) | (with_reducible refine bel_set (by first | omega | (simp; done) | (simp; omega)) ?_) | (with_reducible refine bel_alloc (by first | omega | (simp; done) | (simp; omega)) ?_) | (with_reducible refine bel_drew ?_) | (with_reducible refine bel_drewN ?_ _)))⟩
  · have z0 : (x.do_ == 0) = false := by simpa using hd0
    have z1 : (x.do_ == 1) = false := by simpa using hd1
    have z2 : (x.do_ == 2) = false := by simpa using hd2
    have z3 : (x.do_ == 3) = false := by simpa using hd3
    clear hd0 hd1 hd2 hd3
    obtain ⟨s, hs⟩ : ∃ s, s = sdVoid ⟨n, l, c, a⟩ x.n := ⟨_, rfl⟩
    have HRs := Lib.hid (show sdRight s = true by rw [hs]; exact right_void HR.out)
    have HC := Lib.hid (fun W (h : Fls W (.slice p l.length cap) l) => svoid_any n _ c a l x.n W h (by omega))
    have HC' := Lib.hid (fun W (h : Fls W (.slice p' l.length cap') l) => rvoid_any n _ c a l x.n W h (by omega))
    rw [← hs] at HC HC'
    clear hs
    go_enter Try.func23, Try.ntmps23
    go_upto_region 1 with fail
    simp only [Nat.add_assoc, Nat.reduceAdd]
    refine gen_wp (fun w1 => Hid (w1.heap[w.heap.size]? = some (.cells #[.int .i64 n, .slice p l.length cap, .int .i64 c, .int .i64 a] 24)) ∧ Hid (w1.heap[(w.heap.size + 1)]? = some (.cells #[.int .i64 n, .slice p' l.length cap', .int .i64 c, .int .i64 a] 24)) ∧ Hid (w1.heap[(w.heap.size + 2)]? = some (.cells #[.int .i64 x.do_, .int .i64 x.n, .int .i64 x.m, .int .i64 x.now, .int .i64 x.note.user, .int .i64 x.note.ver, .int .i64 x.note.stat, .int .i64 x.note.cnt] 31)) ∧ Hid (w1.heap[w.heap.size + 3]? = some (.cells #[.int .i64 0, .slice none 0 0, .int .i64 0, .int .i64 0] 24)) ∧ Hid (w1.heap[(w.heap.size + 4)]? = some (.cells #[.int .i64 0, .slice none 0 0, .int .i64 0, .int .i64 0] 24)) ∧ Hid (Below w.heap.size w w1) ∧ Hid (w1.heap.size = w.heap.size + 5) ∧ True) ⟨Lib.hid (by first | (simp [World.setCell, Array.getElem?_modify]; done) | (simp [World.setCell, Array.getElem?_modify]; omega) | ((repeat (first | (with_reducible exact heap_new _ _ _ (by first | rfl | (simp; done))) | (with_reducible refine keepa ?_ _) | (simp [World.setCell, Array.getElem?_modify]; done))); done)), Lib.hid (by first | (simp [World.setCell, Array.getElem?_modify]; done) | (simp [World.setCell, Array.getElem?_modify]; omega) | ((repeat (first | (with_reducible exact heap_new _ _ _ (by first | rfl | (simp; done))) | (with_reducible refine keepa ?_ _) | (simp [World.setCell, Array.getElem?_modify]; done))); done)), Lib.hid (by first | (simp [World.setCell, Array.getElem?_modify]; done) | (simp [World.setCell, Array.getElem?_modify]; omega) | ((repeat (first | (with_reducible exact heap_new _ _ _ (by first | rfl | (simp; done))) | (with_reducible refine keepa ?_ _) | (simp [World.setCell, Array.getElem?_modify]; done))); done)), Lib.hid (keepa (heap_new _ _ _ (by simp)) _), Lib.hid (by first | (simp [World.setCell, Array.getElem?_modify]; done) | (simp [World.setCell, Array.getElem?_modify]; omega) | ((repeat (first | (with_reducible exact heap_new _ _ _ (by first | rfl | (simp; done))) | (with_reducible refine keepa ?_ _) | (simp [World.setCell, Array.getElem?_modify]; done))); done)), Lib.hid (by repeat (first | (with_reducible exact Below.refl _ _) | (with_reducible refine bel_set (by first | omega | (simp; done) | (simp; omega)) ?_) | (with_reducible refine bel_alloc (by first | omega | (simp; done) | (simp; omega)) ?_) | (with_reducible refine bel_drew ?_) | (with_reducible refine bel_drewN ?_ _))), Lib.hid (by simp), trivial⟩ ?_
    rintro w1 ⟨A1, A2, A3, A4, A5, BA, SZ, -⟩
    have c_A1 := cell_of_block A1.out
    have f_A1 := frozen_of_block A1.out
    have c_A2 := cell_of_block A2.out
    have f_A2 := frozen_of_block A2.out
    have c_A3 := cell_of_block A3.out
    have f_A3 := frozen_of_block A3.out
    have c_A5 := cell_of_block A5.out
    have f_A5 := frozen_of_block A5.out
    have c_A4 := cell_of_block A4.out
    have f_A4 := frozen_of_block A4.out
    replace FS := fls_keep FS BA
    replace FS' := fls_keep FS' BA
    have z5 := SZ.out
    have HSZ : Hid (w.heap.size + 5 ≤ w1.heap.size) := Lib.hid (by omega)
    clear z5
    go_upto_region 16 with fail
    have FSd := Lib.hid (show Fls w1.drew (.slice p l.length cap) l from FS.out)
    have FSd' := Lib.hid (show Fls w1.drew (.slice p' l.length cap') l from FS'.out)
    go_region_held3 (fun w' => w'.cell? ⟨w.heap.size, 0, none⟩ = some (.int .i64 n) ∧ w'.cell? ⟨w.heap.size, 1, none⟩ = some (.slice p l.length cap) ∧ w'.cell? ⟨w.heap.size, 2, none⟩ = some (.int .i64 c) ∧ w'.cell? ⟨w.heap.size, 3, none⟩ = some (.int .i64 a) ∧ w'.cell? ⟨w.heap.size + 1, 0, none⟩ = some (.int .i64 n) ∧ w'.cell? ⟨w.heap.size + 1, 1, none⟩ = some (.slice p' l.length cap') ∧ w'.cell? ⟨w.heap.size + 1, 2, none⟩ = some (.int .i64 c) ∧ w'.cell? ⟨w.heap.size + 1, 3, none⟩ = some (.int .i64 a) ∧ w'.cell? ⟨w.heap.size + 2, 1, none⟩ = some (.int .i64 x.n)) (go_keep) ((first
      | (go_at_call 18; refine (HC.out _ FSd.out).mono ?_; rintro e w4 ⟨p2, cap2, rfl, O2, B2⟩; have A1e := Lib.hid (keepb (w := w1.drew) A1.out B2.out); have A2e := Lib.hid (keepb (w := w1.drew) A2.out B2.out); have A3e := Lib.hid (keepb (w := w1.drew) A3.out B2.out); have A4e := Lib.hid (keepb (w := w1.drew) A4.out B2.out); have A5e := Lib.hid (keepb (w := w1.drew) A5.out B2.out); have BAe := Lib.hid (chain (w := w1.drew) BA.out.drew B2.out); have FSe' := Lib.hid (Sl.keep (by decide) FSd'.out B2.out); have c_A1e := cell_of_block A1e.out; have c_A2e := cell_of_block A2e.out; have c_A3e := cell_of_block A3e.out)
      | (go_at_call 41; refine (HC'.out _ FSe'.out).mono ?_; rintro e w5 ⟨p4, cap4, rfl, O4, B4⟩; have A4f := Lib.hid (keepb A4e.out B4.out); have A5f := Lib.hid (keepb A5e.out B4.out); have BAf := Lib.hid (chain BAe.out B4.out); have O2f := Lib.hid (Own.keep O2.out B4.out); have c_A1f := cell_of_block (keepb A1e.out B4.out); have c_A2f := cell_of_block (keepb A2e.out B4.out); have c_A3f := cell_of_block (keepb A3e.out B4.out); have c_A4f := cell_of_block A4f.out; have f_A4f := frozen_of_block A4f.out; have c_A5f := cell_of_block A5f.out; have f_A5f := frozen_of_block A5f.out)))
    all_goals go_wp2_with fail
    all_goals
      have hz := B2.out.size
      have hz1 := HSZ.out
      have hz2 : w1.drew.heap.size = w1.heap.size := rfl
      refine bodyPost_ret (v := .tuple #[.agg #[.int .i64 s.next, .slice p2 s.fl.length cap2, .int .i64 s.cwnd, .int .i64 s.acc], .agg #[.int .i64 s.next, .slice p4 s.fl.length cap4, .int .i64 s.cwnd, .int .i64 s.acc], .bool true]) (by simp [results, Try.results23, go_sem, c_A4f, c_A5f]) rfl ⟨s, p2, p4, cap2, cap4, HRs.out, rfl, Lib.hid (by have hO := O2f.out.mono (B' := w.heap.size + 5) (by omega); exact Own.mono (B := w.heap.size + 5) (by repeat (first | (with_reducible exact hO) | (with_reducible refine Own.set ?_ _ _ (by first | omega | (simp; done) | (simp; omega))) | (with_reducible refine Own.alloc ?_ _) | (with_reducible refine Own.drew ?_) | (with_reducible refine Own.drewN ?_ _))) (by omega)), Lib.hid (by have hO := O4.out.mono (B' := w.heap.size + 5) (by omega); exact Own.mono (B := w.heap.size + 5) (by repeat (first | (with_reducible exact hO) | (with_reducible refine Own.set ?_ _ _ (by first | omega | (simp; done) | (simp; omega))) | (with_reducible refine Own.alloc ?_ _) | (with_reducible refine Own.drew ?_) | (with_reducible refine Own.drewN ?_ _))) (by omega)), Lib.hid (by have hbsz := Below.size (BAf.out); repeat (first | (with_reducible exact BAf.out) | (with_reducible refine bel_set (by first | omega | (simp; done) | (simp; omega)) ?_) | (with_reducible refine bel_alloc (by first | omega | (simp; done) | (simp; omega)) ?_) | (with_reducible refine bel_drew ?_) | (with_reducible refine bel_drewN ?_ _)))⟩
end Go.Proofs.Ytmhfbngielihcaa.K

/-
  CONTRACTS of nightjarlaw12.Flights (of equal rows) and nightjarlaw12.step: both answers hold the same channel.
-/
import Derived.Test.YteilgibfmljoeaaChanRef2
import Derived.Test.YteilgibfmljoeaaChanSendP
import Derived.Test.YteilgibfmljoeaaChanRead
set_option linter.unusedVariables false
set_option linter.unusedSimpArgs false
namespace Go.Proofs.Yteilgibfmljoeaa.K
open Go Go.RowKit Nj

/-- two channels that hold the same, and 'true' -/
def RetStep12 (w : World) (e : Ending) (w' : World) : Prop := ∃ (s : Sd) (q : Rt) (p p' : Option Addr) (cap cap' : Nat), chRight ⟨s, q⟩ = true ∧
  e = .returned (.tuple #[.agg #[.int .i64 s.next, .slice p s.fl.length cap, .int .i64 s.cwnd, .int .i64 s.acc, .int .i64 q.s, .int .i64 q.v, .int .i64 q.rto, .int .i64 q.fails, .bool q.has], .agg #[.int .i64 s.next, .slice p' s.fl.length cap', .int .i64 s.cwnd, .int .i64 s.acc, .int .i64 q.s, .int .i64 q.v, .int .i64 q.rto, .int .i64 q.fails, .bool q.has], .bool true]) ∧
  Hid (Own 40 7 w.heap.size w' (.slice p s.fl.length cap) s.fl.length (flat Fl.cells s.fl)) ∧ Hid (Own 40 7 w.heap.size w' (.slice p' s.fl.length cap') s.fl.length (flat Fl.cells s.fl)) ∧ Hid (Below w.heap.size w w')

theorem eql_fl (x : Fl) (w : World) : (binOp .eql 40 (.agg #[.int .i64 x.seq, .int .i64 x.note.user, .int .i64 x.note.ver, .int .i64 x.note.stat, .int .i64 x.note.cnt, .int .i64 x.at_, .int .i64 x.tries]) (.agg #[.int .i64 x.seq, .int .i64 x.note.user, .int .i64 x.note.ver, .int .i64 x.note.stat, .int .i64 x.note.cnt, .int .i64 x.at_, .int .i64 x.tries])).run Try.prog w = .ok (.bool true) w := by
  go_simp

set_option maxHeartbeats 4000000 in
theorem qflights_any (l : List Fl) (v v' : Value) (w : World) (h : Fls w v l) (h' : Fls w v' l) :
    Calls Try.prog 44 #[v, v'] w fun e w' => e = .returned (.bool true) ∧ Hid (Below w.heap.size w w') := by
  have HS := Lib.hid h
  have HS' := Lib.hid h'
  have hm : l.length ≤ 9223372036854775807 := h.1
  obtain ⟨p, cap, rfl, hcap⟩ := fls_shape h
  obtain ⟨p', cap', rfl, hcap'⟩ := fls_shape h'
  clear h h'
  obtain ⟨nl, hn⟩ : ∃ n, n = l.length := ⟨_, rfl⟩
  rw [← hn] at hm hcap hcap' HS HS' ⊢
  have HN := Lib.hid hn
  clear hn
  go_enter Try.func44, Try.ntmps44
  have BA := Lib.hid (Below.refl w.heap.size w)
  go_wp2_with fail
  go_loopw [5] (fun i wr => ∃ k : Nat, k ≤ nl ∧ i = .int .i64 k ∧ Below w.heap.size w wr) (fun i _ => nl - (intOf i).toNat)
  case atStart => exact ⟨0, by omega, rfl, Below.refl _ _⟩
  case round =>
    obtain ⟨k, hk, rfl, hwb⟩ := hrel
    have HW := Lib.hid hwb
    clear hwb
    by_cases hlt : k < nl
    · have hltl : k < l.length := by rw [← HN.out]; exact hlt
      obtain ⟨b, o, rfl, _⟩ := HS.out.open (by omega)
      obtain ⟨b', o', rfl, _⟩ := HS'.out.open (by omega)
      obtain ⟨x, hx⟩ : ∃ x, x = l[k] := ⟨_, rfl⟩
      obtain ⟨c0, c1, c2, c3, c4, c5, c6⟩ := fls_row HS HW.out k hltl x hx
      obtain ⟨d0, d1, d2, d3, d4, d5, d6⟩ := fls_row HS' HW.out k hltl x hx
      have t1 : (k : Int) < (nl : Int) := by omega
      have t2 : (0 : Int) ≤ (k : Int) := by omega
      have hne := fun w => neq_fl x x w
      simp only [decide_true, Bool.not_true] at hne
      clear hx
      go_wp2_with fail
      go_quiet (fail)
      go_wp2_with fail
      go_roundw
      case rel => exact ⟨k + 1, by omega, by go_num, bel_drewN HW.out _⟩
      case measure => simp [intOf]; omega
    · have hke : k = nl := by omega
      subst hke
      have t1 : decide ((k : Int) < (k : Int)) = false := by simp
      go_wp2_with fail
      go_ret
      exact ⟨rfl, Lib.hid HW.out⟩





set_option maxRecDepth 100000 in
set_option maxHeartbeats 8000000 in
theorem step12_any (n : Int) (v v' : Value) (c a : Int) (r : Rt) (l : List Fl) (x : Ac) (w : World) (h : Fls w v l) (h' : Fls w v' l) (hR : chRight ⟨⟨n, l, c, a⟩, r⟩ = true) (e1 : 0 ≤ x.now) (e2 : x.now ≤ 1099511627776) (hxn : x.n ≤ 9223372036854775807) :
    Calls Try.prog 20 #[.agg #[.int .i64 n, v, .int .i64 c, .int .i64 a, .int .i64 r.s, .int .i64 r.v, .int .i64 r.rto, .int .i64 r.fails, .bool r.has], .agg #[.int .i64 n, v', .int .i64 c, .int .i64 a, .int .i64 r.s, .int .i64 r.v, .int .i64 r.rto, .int .i64 r.fails, .bool r.has], .agg #[.int .i64 x.do_, .int .i64 x.n, .int .i64 x.m, .int .i64 x.now, .int .i64 x.note.user, .int .i64 x.note.ver, .int .i64 x.note.stat, .int .i64 x.note.cnt]] w (RetStep12 w) := by
  have FS := Lib.hid h
  have FS' := Lib.hid h'
  have HRc := Lib.hid (chan_right hR)
  have HR := Lib.hid HRc.out.1
  have HP := Lib.hid (rightSd HR.out)
  have hl8 : l.length ≤ 8 := HP.out.len
  have hn0 : 1 ≤ n := HP.out.n0
  have hn1 : n ≤ 1073741824 := HP.out.n1
  have q0 : 1 ≤ c := HP.out.c0
  have q1 : c ≤ 8 := HP.out.c1
  have rr0 : 2 ≤ r.rto := HRc.out.2.r0
  have rr1 : r.rto ≤ 64 := HRc.out.2.r1
  obtain ⟨p, cap, rfl, hcap⟩ := fls_shape h
  obtain ⟨p', cap', rfl, hcap'⟩ := fls_shape h'
  clear h h' hR
  rcases (show x.do_ = 0 ∨ x.do_ = 1 ∨ x.do_ = 2 ∨ (x.do_ ≠ 0 ∧ x.do_ ≠ 1 ∧ x.do_ ≠ 2) by omega) with hd | hd | hd | ⟨hd0, hd1, hd2⟩
  · have z0 : (x.do_ == 0) = true := by simpa using hd
    clear hd
    obtain ⟨s, f, ok, hs⟩ : ∃ s f ok, sdPush ⟨n, l, c, a⟩ x.note x.now = (s, f, ok) := ⟨_, _, _, rfl⟩
    have HE := Lib.hid hs
    have HRs := Lib.hid (show chRight ⟨s, r⟩ = true by
      unfold chRight; simp only [Bool.and_eq_true]
      refine ⟨?_, (right_iff r).2 HRc.out.2⟩
      unfold sdPush at hs
      split at hs
      · cases hs; exact HR.out
      · rename_i h0
        cases hs
        exact right_push HR.out (by have := (room_bound HP.out).1; omega) e1 e2)
    have heq := fun w => eql_fl f w
    clear hs
    go_enter Try.func20, Try.ntmps20
    go_upto_region 1 with fail
    simp only [Nat.add_assoc, Nat.reduceAdd]
    refine gen_wp (fun w1 => Hid (w1.heap[w.heap.size]? = some (.cells #[.int .i64 n, .slice p l.length cap, .int .i64 c, .int .i64 a, .int .i64 r.s, .int .i64 r.v, .int .i64 r.rto, .int .i64 r.fails, .bool r.has] 28)) ∧ Hid (w1.heap[(w.heap.size + 1)]? = some (.cells #[.int .i64 n, .slice p' l.length cap', .int .i64 c, .int .i64 a, .int .i64 r.s, .int .i64 r.v, .int .i64 r.rto, .int .i64 r.fails, .bool r.has] 28)) ∧ Hid (w1.heap[(w.heap.size + 2)]? = some (.cells #[.int .i64 x.do_, .int .i64 x.n, .int .i64 x.m, .int .i64 x.now, .int .i64 x.note.user, .int .i64 x.note.ver, .int .i64 x.note.stat, .int .i64 x.note.cnt] 47)) ∧ Hid (w1.heap[w.heap.size + 3]? = some (.cells #[.int .i64 0, .slice none 0 0, .int .i64 0, .int .i64 0, .int .i64 0, .int .i64 0, .int .i64 0, .int .i64 0, .bool false] 28)) ∧ Hid (w1.heap[(w.heap.size + 4)]? = some (.cells #[.int .i64 0, .slice none 0 0, .int .i64 0, .int .i64 0, .int .i64 0, .int .i64 0, .int .i64 0, .int .i64 0, .bool false] 28)) ∧ Hid (Below w.heap.size w w1) ∧ Hid (w1.heap.size = w.heap.size + 5) ∧ True) ⟨Lib.hid (by first | (simp [World.setCell, Array.getElem?_modify]; done) | (simp [World.setCell, Array.getElem?_modify]; omega) | ((repeat (first | (with_reducible exact heap_new _ _ _ (by first | rfl | (simp; done))) | (with_reducible refine keepa ?_ _) | (simp [World.setCell, Array.getElem?_modify]; done))); done)), Lib.hid (by first | (simp [World.setCell, Array.getElem?_modify]; done) | (simp [World.setCell, Array.getElem?_modify]; omega) | ((repeat (first | (with_reducible exact heap_new _ _ _ (by first | rfl | (simp; done))) | (with_reducible refine keepa ?_ _) | (simp [World.setCell, Array.getElem?_modify]; done))); done)), Lib.hid (by first | (simp [World.setCell, Array.getElem?_modify]; done) | (simp [World.setCell, Array.getElem?_modify]; omega) | ((repeat (first | (with_reducible exact heap_new _ _ _ (by first | rfl | (simp; done))) | (with_reducible refine keepa ?_ _) | (simp [World.setCell, Array.getElem?_modify]; done))); done)), Lib.hid (keepa (heap_new _ _ _ (by simp)) _), Lib.hid (by first | (simp [World.setCell, Array.getElem?_modify]; done) | (simp [World.setCell, Array.getElem?_modify]; omega) | ((repeat (first | (with_reducible exact heap_new _ _ _ (by first | rfl | (simp; done))) | (with_reducible refine keepa ?_ _) | (simp [World.setCell, Array.getElem?_modify]; done))); done)), Lib.hid (by (repeat (first | (with_reducible exact Below.refl _ _) | (with_reducible refine bel_set (by first | omega | (simp; done) | (simp; omega)) ?_) | (with_reducible refine bel_alloc (by first | omega | (simp; done) | (simp; omega)) ?_) | (with_reducible refine bel_drew ?_) | (with_reducible refine bel_drewN ?_ _))); first | done | fail "left"), Lib.hid (by simp), trivial⟩ ?_
    rintro w1 ⟨A1, A2, A3, A4, A5, BA, SZ, -⟩
    have c_A1 := cell_of_block A1.out
    have f_A1 := frozen_of_block A1.out
    have c_A2 := cell_of_block A2.out
    have f_A2 := frozen_of_block A2.out
    have c_A3 := cell_of_block A3.out
    have f_A3 := frozen_of_block A3.out
    have c_A5 := cell_of_block A5.out
    have f_A5 := frozen_of_block A5.out
    have c_A4 := cell_of_block A4.out
    have f_A4 := frozen_of_block A4.out
    replace FS := fls_keep FS BA
    replace FS' := fls_keep FS' BA
    go_wp2_with fail
    refine (cpush_any n _ c a r l x.note x.now _ FS.out HR.out s f ok HE.out).mono ?_
    rintro e w2 ⟨p2, cap2, rfl, O2, B2⟩
    replace A1 := Lib.hid (keepb A1.out B2.out)
    replace c_A1 := cell_of_block A1.out
    replace f_A1 := frozen_of_block A1.out
    replace A2 := Lib.hid (keepb A2.out B2.out)
    replace c_A2 := cell_of_block A2.out
    replace f_A2 := frozen_of_block A2.out
    replace A3 := Lib.hid (keepb A3.out B2.out)
    replace c_A3 := cell_of_block A3.out
    replace f_A3 := frozen_of_block A3.out
    replace A4 := Lib.hid (keepb A4.out B2.out)
    replace c_A4 := cell_of_block A4.out
    replace f_A4 := frozen_of_block A4.out
    replace A5 := Lib.hid (keepb A5.out B2.out)
    replace c_A5 := cell_of_block A5.out
    replace f_A5 := frozen_of_block A5.out
    replace BA := Lib.hid (chain BA.out B2.out)
    replace FS' := fls_keep FS' B2
    have SZ2 := Lib.hid (show w.heap.size + 5 ≤ w2.heap.size by have := B2.out.size; have := SZ.out; omega)
    go_upto_region 4 with fail
    refine gen_wp (fun w3 => Hid (Below w2.heap.size w2 w3) ∧ Hid (w3.heap[w2.heap.size]? = some (.cells #[.int .i64 s.next, .slice p2 s.fl.length cap2, .int .i64 s.cwnd, .int .i64 s.acc, .int .i64 r.s, .int .i64 r.v, .int .i64 r.rto, .int .i64 r.fails, .bool r.has] 28)) ∧ Hid (w3.heap[(w2.heap.size + 1)]? = some (.cells #[.int .i64 f.seq, .int .i64 f.note.user, .int .i64 f.note.ver, .int .i64 f.note.stat, .int .i64 f.note.cnt, .int .i64 f.at_, .int .i64 f.tries] 40)) ∧ True) ⟨Lib.hid (by (repeat (first | (with_reducible exact Below.refl _ _) | (with_reducible refine bel_set (by first | omega | (simp; done) | (simp; omega)) ?_) | (with_reducible refine bel_alloc (by first | omega | (simp; done) | (simp; omega)) ?_) | (with_reducible refine bel_drew ?_) | (with_reducible refine bel_drewN ?_ _))); first | done | fail "left"), Lib.hid (by first | (simp [World.setCell, Array.getElem?_modify, A1.out, A2.out, A3.out, A4.out, A5.out]; done) | (simp [World.setCell, Array.getElem?_modify, A1.out, A2.out, A3.out, A4.out, A5.out]; omega) | ((repeat (first | (with_reducible exact A1.out) | (with_reducible exact A2.out) | (with_reducible exact A3.out) | (with_reducible exact A4.out) | (with_reducible exact A5.out) | (with_reducible exact heap_new _ _ _ (by first | rfl | (simp; done))) | (with_reducible refine keepa ?_ _) | (simp [World.setCell, Array.getElem?_modify, A1.out, A2.out, A3.out, A4.out, A5.out]; done))); done)), Lib.hid (by first | (simp [World.setCell, Array.getElem?_modify, A1.out, A2.out, A3.out, A4.out, A5.out]; done) | (simp [World.setCell, Array.getElem?_modify, A1.out, A2.out, A3.out, A4.out, A5.out]; omega) | ((repeat (first | (with_reducible exact A1.out) | (with_reducible exact A2.out) | (with_reducible exact A3.out) | (with_reducible exact A4.out) | (with_reducible exact A5.out) | (with_reducible exact heap_new _ _ _ (by first | rfl | (simp; done))) | (with_reducible refine keepa ?_ _) | (simp [World.setCell, Array.getElem?_modify, A1.out, A2.out, A3.out, A4.out, A5.out]; done))); done)), trivial⟩ ?_
    clear c_A1 f_A1 c_A2 f_A2 c_A3 f_A3 c_A4 f_A4 c_A5 f_A5
    rintro w3 ⟨N, A9, A10, -⟩
    have c_A9 := cell_of_block A9.out
    have f_A9 := frozen_of_block A9.out
    have c_A10 := cell_of_block A10.out
    have f_A10 := frozen_of_block A10.out
    replace A1 := Lib.hid (keepb A1.out N.out)
    replace c_A1 := cell_of_block A1.out
    replace f_A1 := frozen_of_block A1.out
    replace A2 := Lib.hid (keepb A2.out N.out)
    replace c_A2 := cell_of_block A2.out
    replace f_A2 := frozen_of_block A2.out
    replace A3 := Lib.hid (keepb A3.out N.out)
    replace c_A3 := cell_of_block A3.out
    replace f_A3 := frozen_of_block A3.out
    replace A4 := Lib.hid (keepb A4.out N.out)
    replace c_A4 := cell_of_block A4.out
    replace f_A4 := frozen_of_block A4.out
    replace A5 := Lib.hid (keepb A5.out N.out)
    replace c_A5 := cell_of_block A5.out
    replace f_A5 := frozen_of_block A5.out
    replace BA := Lib.hid (chain BA.out N.out)
    replace FS' := fls_keep FS' N
    replace O2 := Lib.hid (show Own 40 7 (w.heap.size + 5) w3 (.slice p2 s.fl.length cap2) s.fl.length (flat Fl.cells s.fl) from Own.mono (O2.out.keep N.out) (by have := SZ.out; omega))
    have SZ3 := Lib.hid (show w.heap.size + 5 ≤ w3.heap.size by have := N.out.size; have := SZ2.out; omega)
    skip
    clear N B2
    go_wp2_with fail
    refine (qcpush_any n _ c a r l x.note x.now _ FS'.out HR.out s f ok HE.out).mono ?_
    rintro e w4 ⟨p4, cap4, rfl, O4, B4⟩
    cases ok
    all_goals
      replace A1 := Lib.hid (keepb A1.out B4.out)
      replace c_A1 := cell_of_block A1.out
      replace f_A1 := frozen_of_block A1.out
      replace A2 := Lib.hid (keepb A2.out B4.out)
      replace c_A2 := cell_of_block A2.out
      replace f_A2 := frozen_of_block A2.out
      replace A3 := Lib.hid (keepb A3.out B4.out)
      replace c_A3 := cell_of_block A3.out
      replace f_A3 := frozen_of_block A3.out
      replace A4 := Lib.hid (keepb A4.out B4.out)
      replace c_A4 := cell_of_block A4.out
      replace f_A4 := frozen_of_block A4.out
      replace A5 := Lib.hid (keepb A5.out B4.out)
      replace c_A5 := cell_of_block A5.out
      replace f_A5 := frozen_of_block A5.out
      replace A9 := Lib.hid (keepb A9.out B4.out)
      replace c_A9 := cell_of_block A9.out
      replace f_A9 := frozen_of_block A9.out
      replace A10 := Lib.hid (keepb A10.out B4.out)
      replace c_A10 := cell_of_block A10.out
      replace f_A10 := frozen_of_block A10.out
      replace BA := Lib.hid (chain BA.out B4.out)
      replace O2 := Lib.hid (O2.out.keep B4.out)
      skip
      have SZ4 := Lib.hid (show w.heap.size + 5 ≤ w4.heap.size ∧ w2.heap.size < w4.heap.size by have := B4.out.size; have := SZ2.out; have := block_lt A9.out; omega)
      go_upto_region 5 with fail
      refine gen_wp (fun w5 => Hid (Below w4.heap.size w4 w5) ∧ Hid (w5.heap[w4.heap.size]? = some (.cells #[.int .i64 s.next, .slice p4 s.fl.length cap4, .int .i64 s.cwnd, .int .i64 s.acc, .int .i64 r.s, .int .i64 r.v, .int .i64 r.rto, .int .i64 r.fails, .bool r.has] 28)) ∧ Hid (w5.heap[(w4.heap.size + 1)]? = some (.cells #[.int .i64 f.seq, .int .i64 f.note.user, .int .i64 f.note.ver, .int .i64 f.note.stat, .int .i64 f.note.cnt, .int .i64 f.at_, .int .i64 f.tries] 40)) ∧ True) ⟨Lib.hid (by (repeat (first | (with_reducible exact Below.refl _ _) | (with_reducible refine bel_set (by first | omega | (simp; done) | (simp; omega)) ?_) | (with_reducible refine bel_alloc (by first | omega | (simp; done) | (simp; omega)) ?_) | (with_reducible refine bel_drew ?_) | (with_reducible refine bel_drewN ?_ _))); first | done | fail "left"), Lib.hid (by first | (simp [World.setCell, Array.getElem?_modify, A1.out, A2.out, A3.out, A4.out, A5.out, A9.out, A10.out]; done) | (simp [World.setCell, Array.getElem?_modify, A1.out, A2.out, A3.out, A4.out, A5.out, A9.out, A10.out]; omega) | ((repeat (first | (with_reducible exact A1.out) | (with_reducible exact A2.out) | (with_reducible exact A3.out) | (with_reducible exact A4.out) | (with_reducible exact A5.out) | (with_reducible exact A9.out) | (with_reducible exact A10.out) | (with_reducible exact heap_new _ _ _ (by first | rfl | (simp; done))) | (with_reducible refine keepa ?_ _) | (simp [World.setCell, Array.getElem?_modify, A1.out, A2.out, A3.out, A4.out, A5.out, A9.out, A10.out]; done))); done)), Lib.hid (by first | (simp [World.setCell, Array.getElem?_modify, A1.out, A2.out, A3.out, A4.out, A5.out, A9.out, A10.out]; done) | (simp [World.setCell, Array.getElem?_modify, A1.out, A2.out, A3.out, A4.out, A5.out, A9.out, A10.out]; omega) | ((repeat (first | (with_reducible exact A1.out) | (with_reducible exact A2.out) | (with_reducible exact A3.out) | (with_reducible exact A4.out) | (with_reducible exact A5.out) | (with_reducible exact A9.out) | (with_reducible exact A10.out) | (with_reducible exact heap_new _ _ _ (by first | rfl | (simp; done))) | (with_reducible refine keepa ?_ _) | (simp [World.setCell, Array.getElem?_modify, A1.out, A2.out, A3.out, A4.out, A5.out, A9.out, A10.out]; done))); done)), trivial⟩ ?_
      clear c_A1 f_A1 c_A2 f_A2 c_A3 f_A3 c_A4 f_A4 c_A5 f_A5 c_A9 f_A9 c_A10 f_A10
      rintro w5 ⟨N, A11, A12, -⟩
      have c_A11 := cell_of_block A11.out
      have f_A11 := frozen_of_block A11.out
      have c_A12 := cell_of_block A12.out
      have f_A12 := frozen_of_block A12.out
      replace A1 := Lib.hid (keepb A1.out N.out)
      replace c_A1 := cell_of_block A1.out
      replace f_A1 := frozen_of_block A1.out
      replace A2 := Lib.hid (keepb A2.out N.out)
      replace c_A2 := cell_of_block A2.out
      replace f_A2 := frozen_of_block A2.out
      replace A3 := Lib.hid (keepb A3.out N.out)
      replace c_A3 := cell_of_block A3.out
      replace f_A3 := frozen_of_block A3.out
      replace A4 := Lib.hid (keepb A4.out N.out)
      replace c_A4 := cell_of_block A4.out
      replace f_A4 := frozen_of_block A4.out
      replace A5 := Lib.hid (keepb A5.out N.out)
      replace c_A5 := cell_of_block A5.out
      replace f_A5 := frozen_of_block A5.out
      replace A9 := Lib.hid (keepb A9.out N.out)
      replace c_A9 := cell_of_block A9.out
      replace f_A9 := frozen_of_block A9.out
      replace A10 := Lib.hid (keepb A10.out N.out)
      replace c_A10 := cell_of_block A10.out
      replace f_A10 := frozen_of_block A10.out
      replace BA := Lib.hid (chain BA.out N.out)
      replace O2 := Lib.hid (O2.out.keep N.out)
      replace O4 := Lib.hid (show Own 40 7 (w.heap.size + 5) w5 (.slice p4 s.fl.length cap4) s.fl.length (flat Fl.cells s.fl) from Own.mono (O4.out.keep N.out) SZ3.out)
      skip
      clear N B4
      obtain ⟨z4, z5⟩ := SZ4.out
      have z2 := SZ2.out
      have k1 : w.heap.size + 3 ≠ w2.heap.size := by omega
      have k2 : w.heap.size + 4 ≠ w2.heap.size := by omega
      have k3 : w.heap.size + 3 ≠ w4.heap.size := by omega
      have k4 : w.heap.size + 4 ≠ w4.heap.size := by omega
      go_region
      go_wp2_with fail
      refine bodyPost_ret (v := .tuple #[.agg #[.int .i64 s.next, .slice p2 s.fl.length cap2, .int .i64 s.cwnd, .int .i64 s.acc, .int .i64 r.s, .int .i64 r.v, .int .i64 r.rto, .int .i64 r.fails, .bool r.has], .agg #[.int .i64 s.next, .slice p4 s.fl.length cap4, .int .i64 s.cwnd, .int .i64 s.acc, .int .i64 r.s, .int .i64 r.v, .int .i64 r.rto, .int .i64 r.fails, .bool r.has], .bool true]) (by simp [results, Try.results20, go_sem, c_A4, c_A5]) rfl ⟨s, r, p2, p4, cap2, cap4, HRs.out, rfl, Lib.hid (Own.mono (B := w.heap.size + 5) (by (repeat (first | (with_reducible exact O2.out) | (with_reducible refine Own.set ?_ _ _ (by first | omega | (simp; done) | (simp; omega))) | (with_reducible refine Own.alloc ?_ _) | (with_reducible refine Own.drew ?_) | (with_reducible refine Own.drewN ?_ _))); first | done | fail "left") (by omega)), Lib.hid (Own.mono (B := w.heap.size + 5) (by (repeat (first | (with_reducible exact O4.out) | (with_reducible refine Own.set ?_ _ _ (by first | omega | (simp; done) | (simp; omega))) | (with_reducible refine Own.alloc ?_ _) | (with_reducible refine Own.drew ?_) | (with_reducible refine Own.drewN ?_ _))); first | done | fail "left") (by omega)), Lib.hid (by have hbsz := Below.size (BA.out); (repeat (first | (with_reducible exact BA.out) | (with_reducible refine bel_set (by first | omega | (simp; done) | (simp; omega)) ?_) | (with_reducible refine bel_alloc (by first | omega | (simp; done) | (simp; omega)) ?_) | (with_reducible refine bel_drew ?_) | (with_reducible refine bel_drewN ?_ _))); first | done | fail "left")⟩
  · have z0 : (x.do_ == 0) = false := by simp; omega
    have z1 : (x.do_ == 1) = true := by simpa using hd
    clear hd
    obtain ⟨⟨s, q⟩, hS'⟩ : ∃ d, chAck ⟨⟨n, l, c, a⟩, r⟩ x.n x.m x.now = d := ⟨_, rfl⟩
    obtain ⟨s1, mm, hsm⟩ : ∃ s1 mm, sdAcked ⟨n, l, c, a⟩ x.n x.m x.now = (s1, mm) := ⟨_, _, rfl⟩
    obtain ⟨hr1, hr2, -⟩ := acked_facts HR.out e2 hsm
    have hE : s = s1 ∧ q = (if 0 ≤ mm then rttSample r mm else r) := by
      unfold chAck at hS'; simp only [hsm] at hS'; cases hS'; exact ⟨rfl, rfl⟩
    have HRs := Lib.hid (show chRight ⟨s, q⟩ = true by
      unfold chRight; simp only [Bool.and_eq_true]
      refine ⟨by rw [hE.1]; exact hr1, ?_⟩
      rw [hE.2]; split
      · exact sample_right _ _
      · exact (right_iff r).2 HRc.out.2)
    have HC := Lib.hid (fun W (hW : Fls W (.slice p l.length cap) l) => cack_any n (.slice p l.length cap) c a r l x.n x.m x.now W hW HR.out ⟨e1, e2⟩ ⟨s, q⟩ hS')
    have HC' := Lib.hid (fun W (hW : Fls W (.slice p' l.length cap') l) => qcack_any n (.slice p' l.length cap') c a r l x.n x.m x.now W hW HR.out ⟨e1, e2⟩ ⟨s, q⟩ hS')
    simp only at HC HC'
    clear hS' hr1 hr2 hE hsm
    go_enter Try.func20, Try.ntmps20
    go_upto_region 1 with fail
    simp only [Nat.add_assoc, Nat.reduceAdd]
    refine gen_wp (fun w1 => Hid (w1.heap[w.heap.size]? = some (.cells #[.int .i64 n, .slice p l.length cap, .int .i64 c, .int .i64 a, .int .i64 r.s, .int .i64 r.v, .int .i64 r.rto, .int .i64 r.fails, .bool r.has] 28)) ∧ Hid (w1.heap[(w.heap.size + 1)]? = some (.cells #[.int .i64 n, .slice p' l.length cap', .int .i64 c, .int .i64 a, .int .i64 r.s, .int .i64 r.v, .int .i64 r.rto, .int .i64 r.fails, .bool r.has] 28)) ∧ Hid (w1.heap[(w.heap.size + 2)]? = some (.cells #[.int .i64 x.do_, .int .i64 x.n, .int .i64 x.m, .int .i64 x.now, .int .i64 x.note.user, .int .i64 x.note.ver, .int .i64 x.note.stat, .int .i64 x.note.cnt] 47)) ∧ Hid (w1.heap[w.heap.size + 3]? = some (.cells #[.int .i64 0, .slice none 0 0, .int .i64 0, .int .i64 0, .int .i64 0, .int .i64 0, .int .i64 0, .int .i64 0, .bool false] 28)) ∧ Hid (w1.heap[(w.heap.size + 4)]? = some (.cells #[.int .i64 0, .slice none 0 0, .int .i64 0, .int .i64 0, .int .i64 0, .int .i64 0, .int .i64 0, .int .i64 0, .bool false] 28)) ∧ Hid (Below w.heap.size w w1) ∧ Hid (w1.heap.size = w.heap.size + 5) ∧ True) ⟨Lib.hid (by first | (simp [World.setCell, Array.getElem?_modify]; done) | (simp [World.setCell, Array.getElem?_modify]; omega) | ((repeat (first | (with_reducible exact heap_new _ _ _ (by first | rfl | (simp; done))) | (with_reducible refine keepa ?_ _) | (simp [World.setCell, Array.getElem?_modify]; done))); done)), Lib.hid (by first | (simp [World.setCell, Array.getElem?_modify]; done) | (simp [World.setCell, Array.getElem?_modify]; omega) | ((repeat (first | (with_reducible exact heap_new _ _ _ (by first | rfl | (simp; done))) | (with_reducible refine keepa ?_ _) | (simp [World.setCell, Array.getElem?_modify]; done))); done)), Lib.hid (by first | (simp [World.setCell, Array.getElem?_modify]; done) | (simp [World.setCell, Array.getElem?_modify]; omega) | ((repeat (first | (with_reducible exact heap_new _ _ _ (by first | rfl | (simp; done))) | (with_reducible refine keepa ?_ _) | (simp [World.setCell, Array.getElem?_modify]; done))); done)), Lib.hid (keepa (heap_new _ _ _ (by simp)) _), Lib.hid (by first | (simp [World.setCell, Array.getElem?_modify]; done) | (simp [World.setCell, Array.getElem?_modify]; omega) | ((repeat (first | (with_reducible exact heap_new _ _ _ (by first | rfl | (simp; done))) | (with_reducible refine keepa ?_ _) | (simp [World.setCell, Array.getElem?_modify]; done))); done)), Lib.hid (by (repeat (first | (with_reducible exact Below.refl _ _) | (with_reducible refine bel_set (by first | omega | (simp; done) | (simp; omega)) ?_) | (with_reducible refine bel_alloc (by first | omega | (simp; done) | (simp; omega)) ?_) | (with_reducible refine bel_drew ?_) | (with_reducible refine bel_drewN ?_ _))); first | done | fail "left"), Lib.hid (by simp), trivial⟩ ?_
    rintro w1 ⟨A1, A2, A3, A4, A5, BA, SZ, -⟩
    have c_A1 := cell_of_block A1.out
    have f_A1 := frozen_of_block A1.out
    have c_A2 := cell_of_block A2.out
    have f_A2 := frozen_of_block A2.out
    have c_A3 := cell_of_block A3.out
    have f_A3 := frozen_of_block A3.out
    have c_A5 := cell_of_block A5.out
    have f_A5 := frozen_of_block A5.out
    have c_A4 := cell_of_block A4.out
    have f_A4 := frozen_of_block A4.out
    replace FS := fls_keep FS BA
    replace FS' := fls_keep FS' BA
    have z5 := SZ.out
    have HSZ : Hid (w.heap.size + 5 ≤ w1.heap.size) := Lib.hid (by omega)
    clear z5
    go_upto_region 7 with fail
    have FSd := Lib.hid (show Fls w1.drew (.slice p l.length cap) l from FS.out)
    have FSd' := Lib.hid (show Fls w1.drew (.slice p' l.length cap') l from FS'.out)
    go_region_held3 (fun w' => w'.cell? ⟨w.heap.size, 0, none⟩ = some (.int .i64 n) ∧ w'.cell? ⟨w.heap.size, 1, none⟩ = some (.slice p l.length cap) ∧ w'.cell? ⟨w.heap.size, 2, none⟩ = some (.int .i64 c) ∧ w'.cell? ⟨w.heap.size, 3, none⟩ = some (.int .i64 a) ∧ w'.cell? ⟨w.heap.size, 4, none⟩ = some (.int .i64 r.s) ∧ w'.cell? ⟨w.heap.size, 5, none⟩ = some (.int .i64 r.v) ∧ w'.cell? ⟨w.heap.size, 6, none⟩ = some (.int .i64 r.rto) ∧ w'.cell? ⟨w.heap.size, 7, none⟩ = some (.int .i64 r.fails) ∧ w'.cell? ⟨w.heap.size, 8, none⟩ = some (.bool r.has) ∧ w'.cell? ⟨w.heap.size + 1, 0, none⟩ = some (.int .i64 n) ∧ w'.cell? ⟨w.heap.size + 1, 1, none⟩ = some (.slice p' l.length cap') ∧ w'.cell? ⟨w.heap.size + 1, 2, none⟩ = some (.int .i64 c) ∧ w'.cell? ⟨w.heap.size + 1, 3, none⟩ = some (.int .i64 a) ∧ w'.cell? ⟨w.heap.size + 1, 4, none⟩ = some (.int .i64 r.s) ∧ w'.cell? ⟨w.heap.size + 1, 5, none⟩ = some (.int .i64 r.v) ∧ w'.cell? ⟨w.heap.size + 1, 6, none⟩ = some (.int .i64 r.rto) ∧ w'.cell? ⟨w.heap.size + 1, 7, none⟩ = some (.int .i64 r.fails) ∧ w'.cell? ⟨w.heap.size + 1, 8, none⟩ = some (.bool r.has) ∧ w'.cell? ⟨w.heap.size + 2, 1, none⟩ = some (.int .i64 x.n) ∧ w'.cell? ⟨w.heap.size + 2, 2, none⟩ = some (.int .i64 x.m) ∧ w'.cell? ⟨w.heap.size + 2, 3, none⟩ = some (.int .i64 x.now)) (go_keep) ((first
      | (go_at_call 11; refine (HC.out _ FSd.out).mono ?_; rintro e w4 ⟨p2, cap2, rfl, O2, B2⟩; have A1e := Lib.hid (keepb (w := w1.drew) A1.out B2.out); have A2e := Lib.hid (keepb (w := w1.drew) A2.out B2.out); have A3e := Lib.hid (keepb (w := w1.drew) A3.out B2.out); have A4e := Lib.hid (keepb (w := w1.drew) A4.out B2.out); have A5e := Lib.hid (keepb (w := w1.drew) A5.out B2.out); have BAe := Lib.hid (chain (w := w1.drew) BA.out.drew B2.out); have FSe' := Lib.hid (Sl.keep (by decide) FSd'.out B2.out); have c_A1e := cell_of_block A1e.out; have c_A2e := cell_of_block A2e.out; have c_A3e := cell_of_block A3e.out)
      | (go_at_call 42; refine (HC'.out _ FSe'.out).mono ?_; rintro e w5 ⟨p4, cap4, rfl, O4, B4⟩; have A4f := Lib.hid (keepb A4e.out B4.out); have A5f := Lib.hid (keepb A5e.out B4.out); have BAf := Lib.hid (chain BAe.out B4.out); have O2f := Lib.hid (Own.keep O2.out B4.out); have c_A1f := cell_of_block (keepb A1e.out B4.out); have c_A2f := cell_of_block (keepb A2e.out B4.out); have c_A3f := cell_of_block (keepb A3e.out B4.out); have c_A4f := cell_of_block A4f.out; have f_A4f := frozen_of_block A4f.out; have c_A5f := cell_of_block A5f.out; have f_A5f := frozen_of_block A5f.out)))
    all_goals go_wp2_with fail
    all_goals
      have hz := B2.out.size
      have hz1 := HSZ.out
      have hz2 : w1.drew.heap.size = w1.heap.size := rfl
      refine bodyPost_ret (v := .tuple #[.agg #[.int .i64 s.next, .slice p2 s.fl.length cap2, .int .i64 s.cwnd, .int .i64 s.acc, .int .i64 q.s, .int .i64 q.v, .int .i64 q.rto, .int .i64 q.fails, .bool q.has], .agg #[.int .i64 s.next, .slice p4 s.fl.length cap4, .int .i64 s.cwnd, .int .i64 s.acc, .int .i64 q.s, .int .i64 q.v, .int .i64 q.rto, .int .i64 q.fails, .bool q.has], .bool true]) (by simp [results, Try.results20, go_sem, c_A4f, c_A5f]) rfl ⟨s, q, p2, p4, cap2, cap4, HRs.out, rfl, Lib.hid (by have hO := O2f.out.mono (B' := w.heap.size + 5) (by omega); exact Own.mono (B := w.heap.size + 5) (by (repeat (first | (with_reducible exact hO) | (with_reducible refine Own.set ?_ _ _ (by first | omega | (simp; done) | (simp; omega))) | (with_reducible refine Own.alloc ?_ _) | (with_reducible refine Own.drew ?_) | (with_reducible refine Own.drewN ?_ _))); first | done | fail "left") (by omega)), Lib.hid (by have hO := O4.out.mono (B' := w.heap.size + 5) (by omega); exact Own.mono (B := w.heap.size + 5) (by (repeat (first | (with_reducible exact hO) | (with_reducible refine Own.set ?_ _ _ (by first | omega | (simp; done) | (simp; omega))) | (with_reducible refine Own.alloc ?_ _) | (with_reducible refine Own.drew ?_) | (with_reducible refine Own.drewN ?_ _))); first | done | fail "left") (by omega)), Lib.hid (by have hbsz := Below.size (BAf.out); (repeat (first | (with_reducible exact BAf.out) | (with_reducible refine bel_set (by first | omega | (simp; done) | (simp; omega)) ?_) | (with_reducible refine bel_alloc (by first | omega | (simp; done) | (simp; omega)) ?_) | (with_reducible refine bel_drew ?_) | (with_reducible refine bel_drewN ?_ _))); first | done | fail "left")⟩
  · have z0 : (x.do_ == 0) = false := by simp; omega
    have z1 : (x.do_ == 1) = false := by simp; omega
    have z2 : (x.do_ == 2) = true := by simpa using hd
    clear hd
    obtain ⟨⟨s, q⟩, o, hS'⟩ : ∃ d o, chTick ⟨⟨n, l, c, a⟩, r⟩ x.now x.n = (d, o) := ⟨_, _, rfl⟩
    obtain ⟨hr1, hr2, -, -, -, -⟩ := tick_sends HR.out HRc.out.2 e1 e2 hS'
    simp only at hr1 hr2
    have HRs := Lib.hid (show chRight ⟨s, q⟩ = true by unfold chRight; simp only [Bool.and_eq_true]; exact ⟨hr1, (right_iff q).2 hr2⟩)
    have HE := Lib.hid hS'
    clear hS' hr1 hr2
    go_enter Try.func20, Try.ntmps20
    go_upto_region 1 with fail
    simp only [Nat.add_assoc, Nat.reduceAdd]
    refine gen_wp (fun w1 => Hid (w1.heap[w.heap.size]? = some (.cells #[.int .i64 n, .slice p l.length cap, .int .i64 c, .int .i64 a, .int .i64 r.s, .int .i64 r.v, .int .i64 r.rto, .int .i64 r.fails, .bool r.has] 28)) ∧ Hid (w1.heap[(w.heap.size + 1)]? = some (.cells #[.int .i64 n, .slice p' l.length cap', .int .i64 c, .int .i64 a, .int .i64 r.s, .int .i64 r.v, .int .i64 r.rto, .int .i64 r.fails, .bool r.has] 28)) ∧ Hid (w1.heap[(w.heap.size + 2)]? = some (.cells #[.int .i64 x.do_, .int .i64 x.n, .int .i64 x.m, .int .i64 x.now, .int .i64 x.note.user, .int .i64 x.note.ver, .int .i64 x.note.stat, .int .i64 x.note.cnt] 47)) ∧ Hid (w1.heap[w.heap.size + 3]? = some (.cells #[.int .i64 0, .slice none 0 0, .int .i64 0, .int .i64 0, .int .i64 0, .int .i64 0, .int .i64 0, .int .i64 0, .bool false] 28)) ∧ Hid (w1.heap[(w.heap.size + 4)]? = some (.cells #[.int .i64 0, .slice none 0 0, .int .i64 0, .int .i64 0, .int .i64 0, .int .i64 0, .int .i64 0, .int .i64 0, .bool false] 28)) ∧ Hid (Below w.heap.size w w1) ∧ Hid (w1.heap.size = w.heap.size + 5) ∧ True) ⟨Lib.hid (by first | (simp [World.setCell, Array.getElem?_modify]; done) | (simp [World.setCell, Array.getElem?_modify]; omega) | ((repeat (first | (with_reducible exact heap_new _ _ _ (by first | rfl | (simp; done))) | (with_reducible refine keepa ?_ _) | (simp [World.setCell, Array.getElem?_modify]; done))); done)), Lib.hid (by first | (simp [World.setCell, Array.getElem?_modify]; done) | (simp [World.setCell, Array.getElem?_modify]; omega) | ((repeat (first | (with_reducible exact heap_new _ _ _ (by first | rfl | (simp; done))) | (with_reducible refine keepa ?_ _) | (simp [World.setCell, Array.getElem?_modify]; done))); done)), Lib.hid (by first | (simp [World.setCell, Array.getElem?_modify]; done) | (simp [World.setCell, Array.getElem?_modify]; omega) | ((repeat (first | (with_reducible exact heap_new _ _ _ (by first | rfl | (simp; done))) | (with_reducible refine keepa ?_ _) | (simp [World.setCell, Array.getElem?_modify]; done))); done)), Lib.hid (keepa (heap_new _ _ _ (by simp)) _), Lib.hid (by first | (simp [World.setCell, Array.getElem?_modify]; done) | (simp [World.setCell, Array.getElem?_modify]; omega) | ((repeat (first | (with_reducible exact heap_new _ _ _ (by first | rfl | (simp; done))) | (with_reducible refine keepa ?_ _) | (simp [World.setCell, Array.getElem?_modify]; done))); done)), Lib.hid (by (repeat (first | (with_reducible exact Below.refl _ _) | (with_reducible refine bel_set (by first | omega | (simp; done) | (simp; omega)) ?_) | (with_reducible refine bel_alloc (by first | omega | (simp; done) | (simp; omega)) ?_) | (with_reducible refine bel_drew ?_) | (with_reducible refine bel_drewN ?_ _))); first | done | fail "left"), Lib.hid (by simp), trivial⟩ ?_
    rintro w1 ⟨A1, A2, A3, A4, A5, BA, SZ, -⟩
    have c_A1 := cell_of_block A1.out
    have f_A1 := frozen_of_block A1.out
    have c_A2 := cell_of_block A2.out
    have f_A2 := frozen_of_block A2.out
    have c_A3 := cell_of_block A3.out
    have f_A3 := frozen_of_block A3.out
    have c_A5 := cell_of_block A5.out
    have f_A5 := frozen_of_block A5.out
    have c_A4 := cell_of_block A4.out
    have f_A4 := frozen_of_block A4.out
    replace FS := fls_keep FS BA
    replace FS' := fls_keep FS' BA
    go_wp2_with fail
    refine (ctick_any n _ c a r l x.now x.n _ FS.out HR.out ⟨e1, e2⟩ ⟨by omega, by omega⟩ hxn _ _ HE.out).mono ?_
    rintro e w2 ⟨p2, cap2, po, capo, rfl, O2, P2, B2⟩
    simp only at O2 ⊢
    replace A1 := Lib.hid (keepb A1.out B2.out)
    replace c_A1 := cell_of_block A1.out
    replace f_A1 := frozen_of_block A1.out
    replace A2 := Lib.hid (keepb A2.out B2.out)
    replace c_A2 := cell_of_block A2.out
    replace f_A2 := frozen_of_block A2.out
    replace A3 := Lib.hid (keepb A3.out B2.out)
    replace c_A3 := cell_of_block A3.out
    replace f_A3 := frozen_of_block A3.out
    replace A4 := Lib.hid (keepb A4.out B2.out)
    replace c_A4 := cell_of_block A4.out
    replace f_A4 := frozen_of_block A4.out
    replace A5 := Lib.hid (keepb A5.out B2.out)
    replace c_A5 := cell_of_block A5.out
    replace f_A5 := frozen_of_block A5.out
    replace BA := Lib.hid (chain BA.out B2.out)
    replace FS' := fls_keep FS' B2
    have SZ2 := Lib.hid (show w.heap.size + 5 ≤ w2.heap.size by have := B2.out.size; have := SZ.out; omega)
    go_upto_region 10 with fail
    refine gen_wp (fun w3 => Hid (Below w2.heap.size w2 w3) ∧ Hid (w3.heap[w2.heap.size]? = some (.cells #[.int .i64 s.next, .slice p2 s.fl.length cap2, .int .i64 s.cwnd, .int .i64 s.acc, .int .i64 q.s, .int .i64 q.v, .int .i64 q.rto, .int .i64 q.fails, .bool q.has] 28)) ∧ True) ⟨Lib.hid (by (repeat (first | (with_reducible exact Below.refl _ _) | (with_reducible refine bel_set (by first | omega | (simp; done) | (simp; omega)) ?_) | (with_reducible refine bel_alloc (by first | omega | (simp; done) | (simp; omega)) ?_) | (with_reducible refine bel_drew ?_) | (with_reducible refine bel_drewN ?_ _))); first | done | fail "left"), Lib.hid (by first | (simp [World.setCell, Array.getElem?_modify, A1.out, A2.out, A3.out, A4.out, A5.out]; done) | (simp [World.setCell, Array.getElem?_modify, A1.out, A2.out, A3.out, A4.out, A5.out]; omega) | ((repeat (first | (with_reducible exact A1.out) | (with_reducible exact A2.out) | (with_reducible exact A3.out) | (with_reducible exact A4.out) | (with_reducible exact A5.out) | (with_reducible exact heap_new _ _ _ (by first | rfl | (simp; done))) | (with_reducible refine keepa ?_ _) | (simp [World.setCell, Array.getElem?_modify, A1.out, A2.out, A3.out, A4.out, A5.out]; done))); done)), trivial⟩ ?_
    clear c_A1 f_A1 c_A2 f_A2 c_A3 f_A3 c_A4 f_A4 c_A5 f_A5
    rintro w3 ⟨N, A9, -⟩
    have c_A9 := cell_of_block A9.out
    have f_A9 := frozen_of_block A9.out
    replace A1 := Lib.hid (keepb A1.out N.out)
    replace c_A1 := cell_of_block A1.out
    replace f_A1 := frozen_of_block A1.out
    replace A2 := Lib.hid (keepb A2.out N.out)
    replace c_A2 := cell_of_block A2.out
    replace f_A2 := frozen_of_block A2.out
    replace A3 := Lib.hid (keepb A3.out N.out)
    replace c_A3 := cell_of_block A3.out
    replace f_A3 := frozen_of_block A3.out
    replace A4 := Lib.hid (keepb A4.out N.out)
    replace c_A4 := cell_of_block A4.out
    replace f_A4 := frozen_of_block A4.out
    replace A5 := Lib.hid (keepb A5.out N.out)
    replace c_A5 := cell_of_block A5.out
    replace f_A5 := frozen_of_block A5.out
    replace BA := Lib.hid (chain BA.out N.out)
    replace FS' := fls_keep FS' N
    replace O2 := Lib.hid (show Own 40 7 (w.heap.size + 5) w3 (.slice p2 s.fl.length cap2) s.fl.length (flat Fl.cells s.fl) from Own.mono (O2.out.keep N.out) (by have := SZ.out; omega))
    have SZ3 := Lib.hid (show w.heap.size + 5 ≤ w3.heap.size by have := N.out.size; have := SZ2.out; omega)
    replace P2 := Lib.hid (P2.out.keep N.out)
    clear N B2
    go_wp2_with fail
    refine (qctick_any n _ c a r l x.now x.n _ FS'.out HR.out ⟨e1, e2⟩ ⟨by omega, by omega⟩ hxn _ _ HE.out).mono ?_
    rintro e w4 ⟨p4, cap4, po4, capo4, rfl, O4, P4, B4⟩
    simp only at O4 ⊢
    replace A1 := Lib.hid (keepb A1.out B4.out)
    replace c_A1 := cell_of_block A1.out
    replace f_A1 := frozen_of_block A1.out
    replace A2 := Lib.hid (keepb A2.out B4.out)
    replace c_A2 := cell_of_block A2.out
    replace f_A2 := frozen_of_block A2.out
    replace A3 := Lib.hid (keepb A3.out B4.out)
    replace c_A3 := cell_of_block A3.out
    replace f_A3 := frozen_of_block A3.out
    replace A4 := Lib.hid (keepb A4.out B4.out)
    replace c_A4 := cell_of_block A4.out
    replace f_A4 := frozen_of_block A4.out
    replace A5 := Lib.hid (keepb A5.out B4.out)
    replace c_A5 := cell_of_block A5.out
    replace f_A5 := frozen_of_block A5.out
    replace A9 := Lib.hid (keepb A9.out B4.out)
    replace c_A9 := cell_of_block A9.out
    replace f_A9 := frozen_of_block A9.out
    replace BA := Lib.hid (chain BA.out B4.out)
    replace O2 := Lib.hid (O2.out.keep B4.out)
    replace P2 := Lib.hid (P2.out.keep B4.out)
    have SZ4 := Lib.hid (show w.heap.size + 5 ≤ w4.heap.size ∧ w2.heap.size < w4.heap.size by have := B4.out.size; have := SZ2.out; have := block_lt A9.out; omega)
    go_upto_region 11 with fail
    refine gen_wp (fun w5 => Hid (Below w4.heap.size w4 w5) ∧ Hid (w5.heap[w4.heap.size]? = some (.cells #[.int .i64 s.next, .slice p4 s.fl.length cap4, .int .i64 s.cwnd, .int .i64 s.acc, .int .i64 q.s, .int .i64 q.v, .int .i64 q.rto, .int .i64 q.fails, .bool q.has] 28)) ∧ True) ⟨Lib.hid (by (repeat (first | (with_reducible exact Below.refl _ _) | (with_reducible refine bel_set (by first | omega | (simp; done) | (simp; omega)) ?_) | (with_reducible refine bel_alloc (by first | omega | (simp; done) | (simp; omega)) ?_) | (with_reducible refine bel_drew ?_) | (with_reducible refine bel_drewN ?_ _))); first | done | fail "left"), Lib.hid (by first | (simp [World.setCell, Array.getElem?_modify, A1.out, A2.out, A3.out, A4.out, A5.out, A9.out]; done) | (simp [World.setCell, Array.getElem?_modify, A1.out, A2.out, A3.out, A4.out, A5.out, A9.out]; omega) | ((repeat (first | (with_reducible exact A1.out) | (with_reducible exact A2.out) | (with_reducible exact A3.out) | (with_reducible exact A4.out) | (with_reducible exact A5.out) | (with_reducible exact A9.out) | (with_reducible exact heap_new _ _ _ (by first | rfl | (simp; done))) | (with_reducible refine keepa ?_ _) | (simp [World.setCell, Array.getElem?_modify, A1.out, A2.out, A3.out, A4.out, A5.out, A9.out]; done))); done)), trivial⟩ ?_
    clear c_A1 f_A1 c_A2 f_A2 c_A3 f_A3 c_A4 f_A4 c_A5 f_A5 c_A9 f_A9
    rintro w5 ⟨N, A11, -⟩
    have c_A11 := cell_of_block A11.out
    have f_A11 := frozen_of_block A11.out
    replace A1 := Lib.hid (keepb A1.out N.out)
    replace c_A1 := cell_of_block A1.out
    replace f_A1 := frozen_of_block A1.out
    replace A2 := Lib.hid (keepb A2.out N.out)
    replace c_A2 := cell_of_block A2.out
    replace f_A2 := frozen_of_block A2.out
    replace A3 := Lib.hid (keepb A3.out N.out)
    replace c_A3 := cell_of_block A3.out
    replace f_A3 := frozen_of_block A3.out
    replace A4 := Lib.hid (keepb A4.out N.out)
    replace c_A4 := cell_of_block A4.out
    replace f_A4 := frozen_of_block A4.out
    replace A5 := Lib.hid (keepb A5.out N.out)
    replace c_A5 := cell_of_block A5.out
    replace f_A5 := frozen_of_block A5.out
    replace A9 := Lib.hid (keepb A9.out N.out)
    replace c_A9 := cell_of_block A9.out
    replace f_A9 := frozen_of_block A9.out
    replace BA := Lib.hid (chain BA.out N.out)
    replace O2 := Lib.hid (O2.out.keep N.out)
    replace O4 := Lib.hid (show Own 40 7 (w.heap.size + 5) w5 (.slice p4 s.fl.length cap4) s.fl.length (flat Fl.cells s.fl) from Own.mono (O4.out.keep N.out) SZ3.out)
    replace P2 := Lib.hid (P2.out.keep N.out); replace P4 := Lib.hid (P4.out.keep N.out)
    clear N B4
    obtain ⟨z4, z5⟩ := SZ4.out
    have z2 := SZ2.out
    have k1 : w.heap.size + 3 ≠ w2.heap.size := by omega
    have k2 : w.heap.size + 4 ≠ w2.heap.size := by omega
    have k3 : w.heap.size + 3 ≠ w4.heap.size := by omega
    have k4 : w.heap.size + 4 ≠ w4.heap.size := by omega
    have FL2 := Lib.hid (show Fls w5.drew (.slice po o.length capo) o from P2.out.sl)
    have FL4 := Lib.hid (show Fls w5.drew (.slice po4 o.length capo4) o from P4.out.sl)
    have HF := Lib.hid (fun W v v' (h : Fls W v o) (h' : Fls W v' o) => qflights_any o v v' W h h')
    go_region_held3 (fun w' => w'.cell? ⟨w2.heap.size, 0, none⟩ = some (.int .i64 s.next) ∧ w'.cell? ⟨w2.heap.size, 1, none⟩ = some (.slice p2 s.fl.length cap2) ∧ w'.cell? ⟨w2.heap.size, 2, none⟩ = some (.int .i64 s.cwnd) ∧ w'.cell? ⟨w2.heap.size, 3, none⟩ = some (.int .i64 s.acc) ∧ w'.cell? ⟨w2.heap.size, 4, none⟩ = some (.int .i64 q.s) ∧ w'.cell? ⟨w2.heap.size, 5, none⟩ = some (.int .i64 q.v) ∧ w'.cell? ⟨w2.heap.size, 6, none⟩ = some (.int .i64 q.rto) ∧ w'.cell? ⟨w2.heap.size, 7, none⟩ = some (.int .i64 q.fails) ∧ w'.cell? ⟨w2.heap.size, 8, none⟩ = some (.bool q.has) ∧ w'.cell? ⟨w4.heap.size, 0, none⟩ = some (.int .i64 s.next) ∧ w'.cell? ⟨w4.heap.size, 1, none⟩ = some (.slice p4 s.fl.length cap4) ∧ w'.cell? ⟨w4.heap.size, 2, none⟩ = some (.int .i64 s.cwnd) ∧ w'.cell? ⟨w4.heap.size, 3, none⟩ = some (.int .i64 s.acc) ∧ w'.cell? ⟨w4.heap.size, 4, none⟩ = some (.int .i64 q.s) ∧ w'.cell? ⟨w4.heap.size, 5, none⟩ = some (.int .i64 q.v) ∧ w'.cell? ⟨w4.heap.size, 6, none⟩ = some (.int .i64 q.rto) ∧ w'.cell? ⟨w4.heap.size, 7, none⟩ = some (.int .i64 q.fails) ∧ w'.cell? ⟨w4.heap.size, 8, none⟩ = some (.bool q.has)) (go_keep)
      ((first
        | (go_at_call 44; refine (HF.out _ _ _ FL2.out FL4.out).mono ?_; rintro e w7 ⟨rfl, B7⟩; have A4e := Lib.hid (keepb (w := w5.drew) A4.out B7.out); have A5e := Lib.hid (keepb (w := w5.drew) A5.out B7.out); have A9e := Lib.hid (keepb (w := w5.drew) A9.out B7.out); have A11e := Lib.hid (keepb (w := w5.drew) A11.out B7.out); have BAe := Lib.hid (chain (w := w5.drew) BA.out.drew B7.out); have O2e := Lib.hid (Own.keep (w := w5.drew) O2.out B7.out); have O4e := Lib.hid (Own.keep (w := w5.drew) O4.out B7.out); have c_A4e := cell_of_block A4e.out; have f_A4e := frozen_of_block A4e.out; have c_A5e := cell_of_block A5e.out; have f_A5e := frozen_of_block A5e.out; have c_A9e := cell_of_block A9e.out; have c_A11e := cell_of_block A11e.out)
        | fail))
    go_wp2_with fail
    refine bodyPost_ret (v := .tuple #[.agg #[.int .i64 s.next, .slice p2 s.fl.length cap2, .int .i64 s.cwnd, .int .i64 s.acc, .int .i64 q.s, .int .i64 q.v, .int .i64 q.rto, .int .i64 q.fails, .bool q.has], .agg #[.int .i64 s.next, .slice p4 s.fl.length cap4, .int .i64 s.cwnd, .int .i64 s.acc, .int .i64 q.s, .int .i64 q.v, .int .i64 q.rto, .int .i64 q.fails, .bool q.has], .bool true]) (by simp [results, Try.results20, go_sem, c_A4e, c_A5e]) rfl ⟨s, q, p2, p4, cap2, cap4, HRs.out, rfl, Lib.hid (Own.mono (B := w.heap.size + 5) (by (repeat (first | (with_reducible exact O2e.out) | (with_reducible refine Own.set ?_ _ _ (by first | omega | (simp; done) | (simp; omega))) | (with_reducible refine Own.alloc ?_ _) | (with_reducible refine Own.drew ?_) | (with_reducible refine Own.drewN ?_ _))); first | done | fail "left") (by omega)), Lib.hid (Own.mono (B := w.heap.size + 5) (by (repeat (first | (with_reducible exact O4e.out) | (with_reducible refine Own.set ?_ _ _ (by first | omega | (simp; done) | (simp; omega))) | (with_reducible refine Own.alloc ?_ _) | (with_reducible refine Own.drew ?_) | (with_reducible refine Own.drewN ?_ _))); first | done | fail "left") (by omega)), Lib.hid (by have hbsz := Below.size (BAe.out); (repeat (first | (with_reducible exact BAe.out) | (with_reducible refine bel_set (by first | omega | (simp; done) | (simp; omega)) ?_) | (with_reducible refine bel_alloc (by first | omega | (simp; done) | (simp; omega)) ?_) | (with_reducible refine bel_drew ?_) | (with_reducible refine bel_drewN ?_ _))); first | done | fail "left")⟩
  · have z0 : (x.do_ == 0) = false := by simpa using hd0
    have z1 : (x.do_ == 1) = false := by simpa using hd1
    have z2 : (x.do_ == 2) = false := by simpa using hd2
    clear hd0 hd1 hd2
    obtain ⟨s, hs⟩ : ∃ s, s = sdVoid ⟨n, l, c, a⟩ x.n := ⟨_, rfl⟩
    have HRs := Lib.hid (show chRight ⟨s, r⟩ = true by unfold chRight; simp only [Bool.and_eq_true]; exact ⟨by rw [hs]; exact right_void HR.out, (right_iff r).2 HRc.out.2⟩)
    have HC := Lib.hid (fun W (h : Fls W (.slice p l.length cap) l) => cvoid_any n _ c a r l x.n W h (by omega))
    have HC' := Lib.hid (fun W (h : Fls W (.slice p' l.length cap') l) => qcvoid_any n _ c a r l x.n W h (by omega))
    rw [← hs] at HC HC'
    clear hs
    go_enter Try.func20, Try.ntmps20
    go_upto_region 1 with fail
    simp only [Nat.add_assoc, Nat.reduceAdd]
    refine gen_wp (fun w1 => Hid (w1.heap[w.heap.size]? = some (.cells #[.int .i64 n, .slice p l.length cap, .int .i64 c, .int .i64 a, .int .i64 r.s, .int .i64 r.v, .int .i64 r.rto, .int .i64 r.fails, .bool r.has] 28)) ∧ Hid (w1.heap[(w.heap.size + 1)]? = some (.cells #[.int .i64 n, .slice p' l.length cap', .int .i64 c, .int .i64 a, .int .i64 r.s, .int .i64 r.v, .int .i64 r.rto, .int .i64 r.fails, .bool r.has] 28)) ∧ Hid (w1.heap[(w.heap.size + 2)]? = some (.cells #[.int .i64 x.do_, .int .i64 x.n, .int .i64 x.m, .int .i64 x.now, .int .i64 x.note.user, .int .i64 x.note.ver, .int .i64 x.note.stat, .int .i64 x.note.cnt] 47)) ∧ Hid (w1.heap[w.heap.size + 3]? = some (.cells #[.int .i64 0, .slice none 0 0, .int .i64 0, .int .i64 0, .int .i64 0, .int .i64 0, .int .i64 0, .int .i64 0, .bool false] 28)) ∧ Hid (w1.heap[(w.heap.size + 4)]? = some (.cells #[.int .i64 0, .slice none 0 0, .int .i64 0, .int .i64 0, .int .i64 0, .int .i64 0, .int .i64 0, .int .i64 0, .bool false] 28)) ∧ Hid (Below w.heap.size w w1) ∧ Hid (w1.heap.size = w.heap.size + 5) ∧ True) ⟨Lib.hid (by first | (simp [World.setCell, Array.getElem?_modify]; done) | (simp [World.setCell, Array.getElem?_modify]; omega) | ((repeat (first | (with_reducible exact heap_new _ _ _ (by first | rfl | (simp; done))) | (with_reducible refine keepa ?_ _) | (simp [World.setCell, Array.getElem?_modify]; done))); done)), Lib.hid (by first | (simp [World.setCell, Array.getElem?_modify]; done) | (simp [World.setCell, Array.getElem?_modify]; omega) | ((repeat (first | (with_reducible exact heap_new _ _ _ (by first | rfl | (simp; done))) | (with_reducible refine keepa ?_ _) | (simp [World.setCell, Array.getElem?_modify]; done))); done)), Lib.hid (by first | (simp [World.setCell, Array.getElem?_modify]; done) | (simp [World.setCell, Array.getElem?_modify]; omega) | ((repeat (first | (with_reducible exact heap_new _ _ _ (by first | rfl | (simp; done))) | (with_reducible refine keepa ?_ _) | (simp [World.setCell, Array.getElem?_modify]; done))); done)), Lib.hid (keepa (heap_new _ _ _ (by simp)) _), Lib.hid (by first | (simp [World.setCell, Array.getElem?_modify]; done) | (simp [World.setCell, Array.getElem?_modify]; omega) | ((repeat (first | (with_reducible exact heap_new _ _ _ (by first | rfl | (simp; done))) | (with_reducible refine keepa ?_ _) | (simp [World.setCell, Array.getElem?_modify]; done))); done)), Lib.hid (by (repeat (first | (with_reducible exact Below.refl _ _) | (with_reducible refine bel_set (by first | omega | (simp; done) | (simp; omega)) ?_) | (with_reducible refine bel_alloc (by first | omega | (simp; done) | (simp; omega)) ?_) | (with_reducible refine bel_drew ?_) | (with_reducible refine bel_drewN ?_ _))); first | done | fail "left"), Lib.hid (by simp), trivial⟩ ?_
    rintro w1 ⟨A1, A2, A3, A4, A5, BA, SZ, -⟩
    have c_A1 := cell_of_block A1.out
    have f_A1 := frozen_of_block A1.out
    have c_A2 := cell_of_block A2.out
    have f_A2 := frozen_of_block A2.out
    have c_A3 := cell_of_block A3.out
    have f_A3 := frozen_of_block A3.out
    have c_A5 := cell_of_block A5.out
    have f_A5 := frozen_of_block A5.out
    have c_A4 := cell_of_block A4.out
    have f_A4 := frozen_of_block A4.out
    replace FS := fls_keep FS BA
    replace FS' := fls_keep FS' BA
    have z5 := SZ.out
    have HSZ : Hid (w.heap.size + 5 ≤ w1.heap.size) := Lib.hid (by omega)
    clear z5
    go_upto_region 12 with fail
    have FSd := Lib.hid (show Fls w1.drew (.slice p l.length cap) l from FS.out)
    have FSd' := Lib.hid (show Fls w1.drew (.slice p' l.length cap') l from FS'.out)
    go_region_held3 (fun w' => w'.cell? ⟨w.heap.size, 0, none⟩ = some (.int .i64 n) ∧ w'.cell? ⟨w.heap.size, 1, none⟩ = some (.slice p l.length cap) ∧ w'.cell? ⟨w.heap.size, 2, none⟩ = some (.int .i64 c) ∧ w'.cell? ⟨w.heap.size, 3, none⟩ = some (.int .i64 a) ∧ w'.cell? ⟨w.heap.size, 4, none⟩ = some (.int .i64 r.s) ∧ w'.cell? ⟨w.heap.size, 5, none⟩ = some (.int .i64 r.v) ∧ w'.cell? ⟨w.heap.size, 6, none⟩ = some (.int .i64 r.rto) ∧ w'.cell? ⟨w.heap.size, 7, none⟩ = some (.int .i64 r.fails) ∧ w'.cell? ⟨w.heap.size, 8, none⟩ = some (.bool r.has) ∧ w'.cell? ⟨w.heap.size + 1, 0, none⟩ = some (.int .i64 n) ∧ w'.cell? ⟨w.heap.size + 1, 1, none⟩ = some (.slice p' l.length cap') ∧ w'.cell? ⟨w.heap.size + 1, 2, none⟩ = some (.int .i64 c) ∧ w'.cell? ⟨w.heap.size + 1, 3, none⟩ = some (.int .i64 a) ∧ w'.cell? ⟨w.heap.size + 1, 4, none⟩ = some (.int .i64 r.s) ∧ w'.cell? ⟨w.heap.size + 1, 5, none⟩ = some (.int .i64 r.v) ∧ w'.cell? ⟨w.heap.size + 1, 6, none⟩ = some (.int .i64 r.rto) ∧ w'.cell? ⟨w.heap.size + 1, 7, none⟩ = some (.int .i64 r.fails) ∧ w'.cell? ⟨w.heap.size + 1, 8, none⟩ = some (.bool r.has) ∧ w'.cell? ⟨w.heap.size + 2, 1, none⟩ = some (.int .i64 x.n)) (go_keep) ((first
      | (go_at_call 23; refine (HC.out _ FSd.out).mono ?_; rintro e w4 ⟨p2, cap2, rfl, O2, B2⟩; have A1e := Lib.hid (keepb (w := w1.drew) A1.out B2.out); have A2e := Lib.hid (keepb (w := w1.drew) A2.out B2.out); have A3e := Lib.hid (keepb (w := w1.drew) A3.out B2.out); have A4e := Lib.hid (keepb (w := w1.drew) A4.out B2.out); have A5e := Lib.hid (keepb (w := w1.drew) A5.out B2.out); have BAe := Lib.hid (chain (w := w1.drew) BA.out.drew B2.out); have FSe' := Lib.hid (Sl.keep (by decide) FSd'.out B2.out); have c_A1e := cell_of_block A1e.out; have c_A2e := cell_of_block A2e.out; have c_A3e := cell_of_block A3e.out)
      | (go_at_call 45; refine (HC'.out _ FSe'.out).mono ?_; rintro e w5 ⟨p4, cap4, rfl, O4, B4⟩; have A4f := Lib.hid (keepb A4e.out B4.out); have A5f := Lib.hid (keepb A5e.out B4.out); have BAf := Lib.hid (chain BAe.out B4.out); have O2f := Lib.hid (Own.keep O2.out B4.out); have c_A1f := cell_of_block (keepb A1e.out B4.out); have c_A2f := cell_of_block (keepb A2e.out B4.out); have c_A3f := cell_of_block (keepb A3e.out B4.out); have c_A4f := cell_of_block A4f.out; have f_A4f := frozen_of_block A4f.out; have c_A5f := cell_of_block A5f.out; have f_A5f := frozen_of_block A5f.out)))
    all_goals go_wp2_with fail
    all_goals
      have hz := B2.out.size
      have hz1 := HSZ.out
      have hz2 : w1.drew.heap.size = w1.heap.size := rfl
      refine bodyPost_ret (v := .tuple #[.agg #[.int .i64 s.next, .slice p2 s.fl.length cap2, .int .i64 s.cwnd, .int .i64 s.acc, .int .i64 r.s, .int .i64 r.v, .int .i64 r.rto, .int .i64 r.fails, .bool r.has], .agg #[.int .i64 s.next, .slice p4 s.fl.length cap4, .int .i64 s.cwnd, .int .i64 s.acc, .int .i64 r.s, .int .i64 r.v, .int .i64 r.rto, .int .i64 r.fails, .bool r.has], .bool true]) (by simp [results, Try.results20, go_sem, c_A4f, c_A5f]) rfl ⟨s, r, p2, p4, cap2, cap4, HRs.out, rfl, Lib.hid (by have hO := O2f.out.mono (B' := w.heap.size + 5) (by omega); exact Own.mono (B := w.heap.size + 5) (by (repeat (first | (with_reducible exact hO) | (with_reducible refine Own.set ?_ _ _ (by first | omega | (simp; done) | (simp; omega))) | (with_reducible refine Own.alloc ?_ _) | (with_reducible refine Own.drew ?_) | (with_reducible refine Own.drewN ?_ _))); first | done | fail "left") (by omega)), Lib.hid (by have hO := O4.out.mono (B' := w.heap.size + 5) (by omega); exact Own.mono (B := w.heap.size + 5) (by (repeat (first | (with_reducible exact hO) | (with_reducible refine Own.set ?_ _ _ (by first | omega | (simp; done) | (simp; omega))) | (with_reducible refine Own.alloc ?_ _) | (with_reducible refine Own.drew ?_) | (with_reducible refine Own.drewN ?_ _))); first | done | fail "left") (by omega)), Lib.hid (by have hbsz := Below.size (BAf.out); (repeat (first | (with_reducible exact BAf.out) | (with_reducible refine bel_set (by first | omega | (simp; done) | (simp; omega)) ?_) | (with_reducible refine bel_alloc (by first | omega | (simp; done) | (simp; omega)) ?_) | (with_reducible refine bel_drew ?_) | (with_reducible refine bel_drewN ?_ _))); first | done | fail "left")⟩
end Go.Proofs.Yteilgibfmljoeaa.K

/-
  THE STATEMENT 'Rows.SendRightSaid': nightjarlaw11.SendRight returns true for every input, and its arguments read afterwards as they read before. No condition.
-/
import Derived.Test.YtmhfbngielihcaaSendRead
import Derived.Test.YtmhfbngielihcaaSendPlain
import Derived.Test.YtmhfbngielihcaaRows
import Derived.ProofKit
import Derived.OpenShut
import Derived.ShutString
import Derived.ChangeOld
import Derived.Below
set_option linter.unusedVariables false
set_option linter.unusedSimpArgs false
namespace Go.Proofs.Ytmhfbngielihcaa.lawSendRight
open Go Go.RowKit Nj K


set_option maxRecDepth 100000 in
set_option maxHeartbeats 8000000 in
theorem walk (n : Int) (v : Value) (c a : Int) (l : List Fl) (va : Value) (la : List Ac) (w : World) (h : Fls w v l) (wn : (Lit.int .i64 n).wf = true) (ha : Acs w va la) :
    Calls Try.prog 3 #[.agg #[.int .i64 n, v, .int .i64 c, .int .i64 a], va] w fun e w' => e = .returned (.bool true) ∧ Below w.heap.size w w' := by
  have FS := Lib.hid h
  have HA := Lib.hid ha
  obtain ⟨hn0, hn1⟩ := wf_i64 wn
  obtain ⟨p, cap, rfl, hcap⟩ := fls_shape h
  obtain ⟨pa, capa, rfl, hcapa⟩ := acs_shape ha
  have hm : la.length ≤ 9223372036854775807 := ha.1
  clear h wn ha
  by_cases hlong : 200 < la.length
  · have d1 := dec_t (show (200 : Int) < (la.length : Int) by omega)
    go_enter Try.func3, Try.ntmps3
    go_upto_region 1 with fail
    refine gen_wp (fun w1 => Hid (w1.heap[w.heap.size]? = some (.cells #[.int .i64 n, .slice p l.length cap, .int .i64 c, .int .i64 a] 24)) ∧ Hid (Below w.heap.size w w1) ∧ True) ⟨Lib.hid (by first | (simp [World.setCell, Array.getElem?_modify]; done) | (simp [World.setCell, Array.getElem?_modify]; omega) | ((repeat (first | (with_reducible exact heap_new _ _ _ (by first | rfl | (simp; done))) | (with_reducible refine keepa ?_ _) | (simp [World.setCell, Array.getElem?_modify]; done))); done)), Lib.hid (by repeat (first | (with_reducible exact Below.refl _ _) | (with_reducible refine bel_set (by first | omega | (simp; done) | (simp; omega)) ?_) | (with_reducible refine bel_alloc (by first | omega | (simp; done) | (simp; omega)) ?_) | (with_reducible refine bel_drew ?_) | (with_reducible refine bel_drewN ?_ _))), trivial⟩ ?_
    rintro w1 ⟨A1, BA, -⟩
    have c_A1 := cell_of_block A1.out
    have f_A1 := frozen_of_block A1.out
    replace FS := fls_keep FS BA
    go_wp2_with fail
    refine (small11_any _).mono ?_; rintro e w2 ⟨rfl, B2⟩
    replace A1 := Lib.hid (keepb A1.out B2.out)
    replace c_A1 := cell_of_block A1.out
    replace f_A1 := frozen_of_block A1.out
    replace FS := fls_keep FS B2
    replace BA := Lib.hid (chain BA.out B2.out)
    go_wp2_with fail
    go_ret
    exact ⟨rfl, BA.out⟩
  have d1 := dec_f (show ¬ (200 : Int) < (la.length : Int) by omega)
  cases hr : sdRight ⟨n, l, c, a⟩ with
  | false =>
    have HR := Lib.hid hr
    clear hr
    go_enter Try.func3, Try.ntmps3
    go_upto_region 1 with fail
    refine gen_wp (fun w1 => Hid (w1.heap[w.heap.size]? = some (.cells #[.int .i64 n, .slice p l.length cap, .int .i64 c, .int .i64 a] 24)) ∧ Hid (Below w.heap.size w w1) ∧ True) ⟨Lib.hid (by first | (simp [World.setCell, Array.getElem?_modify]; done) | (simp [World.setCell, Array.getElem?_modify]; omega) | ((repeat (first | (with_reducible exact heap_new _ _ _ (by first | rfl | (simp; done))) | (with_reducible refine keepa ?_ _) | (simp [World.setCell, Array.getElem?_modify]; done))); done)), Lib.hid (by repeat (first | (with_reducible exact Below.refl _ _) | (with_reducible refine bel_set (by first | omega | (simp; done) | (simp; omega)) ?_) | (with_reducible refine bel_alloc (by first | omega | (simp; done) | (simp; omega)) ?_) | (with_reducible refine bel_drew ?_) | (with_reducible refine bel_drewN ?_ _))), trivial⟩ ?_
    rintro w1 ⟨A1, BA, -⟩
    have c_A1 := cell_of_block A1.out
    have f_A1 := frozen_of_block A1.out
    replace FS := fls_keep FS BA
    go_wp2_with fail
    refine (small11_any _).mono ?_; rintro e w2 ⟨rfl, B2⟩
    replace A1 := Lib.hid (keepb A1.out B2.out)
    replace c_A1 := cell_of_block A1.out
    replace f_A1 := frozen_of_block A1.out
    replace FS := fls_keep FS B2
    replace BA := Lib.hid (chain BA.out B2.out)
    go_wp2_with fail
    refine (sright_at _ _ _ _ _ _ _ FS.out hn1 HR.out).mono ?_; rintro e w3 ⟨rfl, B3⟩
    replace A1 := Lib.hid (keepb A1.out B3.out)
    replace c_A1 := cell_of_block A1.out
    replace f_A1 := frozen_of_block A1.out
    replace FS := fls_keep FS B3
    replace BA := Lib.hid (chain BA.out B3.out)
    clear B2 B3
    go_wp2_with fail
    go_ret
    exact ⟨rfl, BA.out⟩
  | true =>
    have HR := Lib.hid hr
    clear hr
    go_enter Try.func3, Try.ntmps3
    go_upto_region 1 with fail
    refine gen_wp (fun w1 => Hid (w1.heap[w.heap.size]? = some (.cells #[.int .i64 n, .slice p l.length cap, .int .i64 c, .int .i64 a] 24)) ∧ Hid (Below w.heap.size w w1) ∧ True) ⟨Lib.hid (by first | (simp [World.setCell, Array.getElem?_modify]; done) | (simp [World.setCell, Array.getElem?_modify]; omega) | ((repeat (first | (with_reducible exact heap_new _ _ _ (by first | rfl | (simp; done))) | (with_reducible refine keepa ?_ _) | (simp [World.setCell, Array.getElem?_modify]; done))); done)), Lib.hid (by repeat (first | (with_reducible exact Below.refl _ _) | (with_reducible refine bel_set (by first | omega | (simp; done) | (simp; omega)) ?_) | (with_reducible refine bel_alloc (by first | omega | (simp; done) | (simp; omega)) ?_) | (with_reducible refine bel_drew ?_) | (with_reducible refine bel_drewN ?_ _))), trivial⟩ ?_
    rintro w1 ⟨A1, BA, -⟩
    have c_A1 := cell_of_block A1.out
    have f_A1 := frozen_of_block A1.out
    replace FS := fls_keep FS BA
    go_wp2_with fail
    refine (small11_any _).mono ?_; rintro e w2 ⟨rfl, B2⟩
    replace A1 := Lib.hid (keepb A1.out B2.out)
    replace c_A1 := cell_of_block A1.out
    replace f_A1 := frozen_of_block A1.out
    replace FS := fls_keep FS B2
    replace BA := Lib.hid (chain BA.out B2.out)
    go_wp2_with fail
    refine (sright_at _ _ _ _ _ _ _ FS.out hn1 HR.out).mono ?_; rintro e w3 ⟨rfl, B3⟩
    replace A1 := Lib.hid (keepb A1.out B3.out)
    replace c_A1 := cell_of_block A1.out
    replace f_A1 := frozen_of_block A1.out
    replace FS := fls_keep FS B3
    replace BA := Lib.hid (chain BA.out B3.out)
    clear B2 B3
    go_wp2_with fail
    go_loopw [6] (fun i wr => ∃ (k : Nat) (S : Sd) (p : Option Addr) (cap : Nat), k ≤ la.length ∧ i = .int .i64 k ∧ wr.heap[w.heap.size]? = some (.cells #[.int .i64 S.next, .slice p S.fl.length cap, .int .i64 S.cwnd, .int .i64 S.acc] 24) ∧ Fls wr (.slice p S.fl.length cap) S.fl ∧ sdRight S = true ∧ Below w.heap.size w wr) (fun i _ => la.length - (intOf i).toNat)
    case atStart => exact ⟨0, ⟨n, l, c, a⟩, p, cap, by omega, rfl, A1.out, FS.out, HR.out, BA.out⟩
    case round =>
      obtain ⟨k, S, p, cap, hk, rfl, h1, hf, hS, hwb⟩ := hrel
      clear c_A1 f_A1 A1 FS BA HR
      have A1 := Lib.hid h1
      have FS := Lib.hid hf
      have HR := Lib.hid hS
      have HP := Lib.hid (rightSd hS)
      have BA := Lib.hid hwb
      clear h1 hf hS hwb
      have c_A1 := cell_of_block A1.out
      have f_A1 := frozen_of_block A1.out
      by_cases hlt : k < la.length
      · obtain ⟨ab, ao, rfl, _⟩ := HA.out.open (by omega)
        obtain ⟨x, hx⟩ : ∃ x, x = la[k] := ⟨_, rfl⟩
        obtain ⟨x0, x1, x2, x3, x4, x5, x6, x7⟩ := acs_row HA BA.out k hlt x hx
        have t1 : (k : Int) < (la.length : Int) := by omega
        have t2 : (0 : Int) ≤ (k : Int) := by omega
        have HSZ := Lib.hid (block_lt A1.out)
        clear hx
        go_upto_region 8 with fail
        refine gen_wp (fun w4 => Hid (Below wr.heap.size wr w4) ∧ Hid (w4.heap[wr.heap.size]? = some (.cells #[.int .i64 x.do_, .int .i64 x.n, .int .i64 x.m, .int .i64 x.now, .int .i64 x.note.user, .int .i64 x.note.ver, .int .i64 x.note.stat, .int .i64 x.note.cnt] 31)) ∧ Hid (w4.heap.size = wr.heap.size + 1) ∧ True) ⟨Lib.hid (by repeat (first | (with_reducible exact Below.refl _ _) | (with_reducible refine bel_set (by first | omega | (simp; done) | (simp; omega)) ?_) | (with_reducible refine bel_alloc (by first | omega | (simp; done) | (simp; omega)) ?_) | (with_reducible refine bel_drew ?_) | (with_reducible refine bel_drewN ?_ _))), Lib.hid (by first | (simp [World.setCell, Array.getElem?_modify, A1.out]; done) | (simp [World.setCell, Array.getElem?_modify, A1.out]; omega) | ((repeat (first | (with_reducible exact A1.out) | (with_reducible exact heap_new _ _ _ (by first | rfl | (simp; done))) | (with_reducible refine keepa ?_ _) | (simp [World.setCell, Array.getElem?_modify, A1.out]; done))); done)), Lib.hid (by simp), trivial⟩ ?_
        clear c_A1 f_A1
        rintro w4 ⟨N, A7, SZ4, -⟩
        have c_A7 := cell_of_block A7.out
        have f_A7 := frozen_of_block A7.out
        clear x0 x1 x2 x3 x4 x5 x6 x7
        replace A1 := Lib.hid (keepb A1.out N.out)
        replace c_A1 := cell_of_block A1.out
        replace f_A1 := frozen_of_block A1.out
        replace FS := fls_keep FS N
        replace BA := Lib.hid (chain BA.out N.out)
        clear N
        go_upto_region 9 with fail
        refine gen_wp (fun w5 => Hid (Below w4.heap.size w4 w5) ∧ Hid (w5.heap[w4.heap.size]? = some (.cells #[.int .i64 S.next, .slice p S.fl.length cap, .int .i64 S.cwnd, .int .i64 S.acc] 24)) ∧ Hid (w5.heap.size = w4.heap.size + 1) ∧ True) ⟨Lib.hid (by repeat (first | (with_reducible exact Below.refl _ _) | (with_reducible refine bel_set (by first | omega | (simp; done) | (simp; omega)) ?_) | (with_reducible refine bel_alloc (by first | omega | (simp; done) | (simp; omega)) ?_) | (with_reducible refine bel_drew ?_) | (with_reducible refine bel_drewN ?_ _))), Lib.hid (by first | (simp [World.setCell, Array.getElem?_modify, A1.out, A7.out]; done) | (simp [World.setCell, Array.getElem?_modify, A1.out, A7.out]; omega) | ((repeat (first | (with_reducible exact A1.out) | (with_reducible exact A7.out) | (with_reducible exact heap_new _ _ _ (by first | rfl | (simp; done))) | (with_reducible refine keepa ?_ _) | (simp [World.setCell, Array.getElem?_modify, A1.out, A7.out]; done))); done)), Lib.hid (by simp), trivial⟩ ?_
        clear c_A1 f_A1 c_A7 f_A7
        rintro w5 ⟨N, A8, SZ5, -⟩
        have c_A8 := cell_of_block A8.out
        have f_A8 := frozen_of_block A8.out
        replace A1 := Lib.hid (keepb A1.out N.out)
        replace c_A1 := cell_of_block A1.out
        replace f_A1 := frozen_of_block A1.out
        replace A7 := Lib.hid (keepb A7.out N.out)
        replace c_A7 := cell_of_block A7.out
        replace f_A7 := frozen_of_block A7.out
        replace FS := fls_keep FS N
        replace BA := Lib.hid (chain BA.out N.out)
        clear N
        have hs1 := HSZ.out
        have hs2 := SZ4.out
        have hs3 := SZ5.out
        obtain ⟨m1, m2⟩ : w.heap.size ≠ wr.heap.size ∧ w.heap.size ≠ w4.heap.size := by omega
        have hs4 : w.heap.size < w5.heap.size := by omega
        clear hs2 hs3
        have hnn : 1 ≤ S.next := HP.out.n0
        have hnm : S.next ≤ 1073741824 := HP.out.n1
        by_cases hbad : x.now < 0 ∨ 1099511627776 < x.now
        · have HBad := Lib.hid hbad
          clear hbad
          go_wp2_with fail
          all_goals first
            | (go_ret; exact ⟨rfl, BA.out⟩)
            | (exfalso; have := HBad.out; omega)
        obtain ⟨e1, e2⟩ : 0 ≤ x.now ∧ x.now ≤ 1099511627776 := by omega
        clear hbad
        rcases (show x.do_ = 0 ∨ x.do_ = 1 ∨ x.do_ = 2 ∨ x.do_ = 3 ∨ (x.do_ ≠ 0 ∧ x.do_ ≠ 1 ∧ x.do_ ≠ 2 ∧ x.do_ ≠ 3) by omega) with hd | hd | hd | hd | ⟨hd0, hd1, hd2, hd3⟩
        · have z0 : (x.do_ == 0) = true := by simpa using hd
          clear hd
          obtain ⟨r0, hr0⟩ : ∃ r0, sdRoom S = r0 := ⟨_, rfl⟩
          have HR0 := Lib.hid hr0
          have hr00 : 0 ≤ r0 := by rw [← hr0]; exact (room_bound HP.out).1
          by_cases hpos : 0 < r0
          · obtain ⟨S', hS'⟩ : ∃ S' : Sd, S' = ⟨S.next + 1, S.fl ++ [⟨S.next, x.note, x.now, 1⟩], S.cwnd, S.acc⟩ := ⟨_, rfl⟩
            have HPu := Lib.hid (show sdPush S x.note x.now = (S', ⟨S.next, x.note, x.now, 1⟩, true) by unfold sdPush; rw [hr0, if_neg (by omega), hS'])
            have HR' := Lib.hid (show sdRight S' = true by rw [hS']; exact right_push HR.out (by rw [hr0]; exact hpos) e1 e2)
            have v1 : (S'.next != S.next + 1) = false := by rw [hS']; simp
            have w1' := dec_f (show ¬ S.cwnd < (S'.fl.length : Int) by have := (room_facts (s := S) (by rw [hr0]; exact hpos)).1; rw [hS']; simp; omega)
            clear hr0 hS'
            go_wp2_with fail
            refine (sroom_at S.next _ S.cwnd S.acc S.fl _ _ FS.out HR.out HR0.out).mono ?_; rintro e w6 ⟨rfl, B6⟩
            replace A1 := Lib.hid (keepb A1.out B6.out)
            replace c_A1 := cell_of_block A1.out
            replace f_A1 := frozen_of_block A1.out
            replace A7 := Lib.hid (keepb A7.out B6.out)
            replace c_A7 := cell_of_block A7.out
            replace f_A7 := frozen_of_block A7.out
            replace A8 := Lib.hid (keepb A8.out B6.out)
            replace c_A8 := cell_of_block A8.out
            replace f_A8 := frozen_of_block A8.out
            replace BA := Lib.hid (chain BA.out B6.out)
            replace FS := fls_keep FS B6
            go_wp2_with fail
            refine (spush_any S.next _ S.cwnd S.acc S.fl x.note x.now _ FS.out ⟨by omega, by omega⟩ ⟨by have := HP.out.c0; omega, HP.out.c1⟩ (by have := HP.out.len; omega) (fun f hf => by have := HP.out.fl f hf; omega) S' ⟨S.next, x.note, x.now, 1⟩ true HPu.out).mono ?_; rintro e w8 ⟨p8, cap8, rfl, O8, B8⟩
            replace A1 := Lib.hid (keepb A1.out B8.out)
            replace c_A1 := cell_of_block A1.out
            replace f_A1 := frozen_of_block A1.out
            replace A7 := Lib.hid (keepb A7.out B8.out)
            replace c_A7 := cell_of_block A7.out
            replace f_A7 := frozen_of_block A7.out
            replace A8 := Lib.hid (keepb A8.out B8.out)
            replace c_A8 := cell_of_block A8.out
            replace f_A8 := frozen_of_block A8.out
            replace BA := Lib.hid (chain BA.out B8.out)
            have hs6 : w5.heap.size ≤ w6.heap.size := B6.out.size
            have hs8 : w6.heap.size ≤ w8.heap.size := B8.out.size
            have m3 : w.heap.size ≠ w8.heap.size := by omega
            have m4 : w.heap.size ≠ w8.heap.size + 1 := by omega
            go_upto_region 17 with fail
            refine gen_wp (fun w9 => Hid (Below w8.heap.size w8 w9) ∧ Hid (w9.heap[w8.heap.size]? = some (.cells #[.int .i64 S'.next, .slice p8 S'.fl.length cap8, .int .i64 S'.cwnd, .int .i64 S'.acc] 24)) ∧ Hid (w9.heap[(w8.heap.size + 1)]? = some (.cells #[.int .i64 S.next, .int .i64 x.note.user, .int .i64 x.note.ver, .int .i64 x.note.stat, .int .i64 x.note.cnt, .int .i64 x.now, .int .i64 1] 34)) ∧ Hid (Own 34 7 w6.heap.size w9 (.slice p8 S'.fl.length cap8) S'.fl.length (flat Fl.cells S'.fl)) ∧ True) ⟨Lib.hid (by repeat (first | (with_reducible exact Below.refl _ _) | (with_reducible refine bel_set (by first | omega | (simp; done) | (simp; omega)) ?_) | (with_reducible refine bel_alloc (by first | omega | (simp; done) | (simp; omega)) ?_) | (with_reducible refine bel_drew ?_) | (with_reducible refine bel_drewN ?_ _))), Lib.hid (by first | (simp [World.setCell, Array.getElem?_modify, A1.out, A7.out, A8.out]; done) | (simp [World.setCell, Array.getElem?_modify, A1.out, A7.out, A8.out]; omega) | ((repeat (first | (with_reducible exact A1.out) | (with_reducible exact A7.out) | (with_reducible exact A8.out) | (with_reducible exact heap_new _ _ _ (by first | rfl | (simp; done))) | (with_reducible refine keepa ?_ _) | (simp [World.setCell, Array.getElem?_modify, A1.out, A7.out, A8.out]; done))); done)), Lib.hid (by first | (simp [World.setCell, Array.getElem?_modify, A1.out, A7.out, A8.out]; done) | (simp [World.setCell, Array.getElem?_modify, A1.out, A7.out, A8.out]; omega) | ((repeat (first | (with_reducible exact A1.out) | (with_reducible exact A7.out) | (with_reducible exact A8.out) | (with_reducible exact heap_new _ _ _ (by first | rfl | (simp; done))) | (with_reducible refine keepa ?_ _) | (simp [World.setCell, Array.getElem?_modify, A1.out, A7.out, A8.out]; done))); done)), Lib.hid (by repeat (first | (with_reducible exact O8.out) | (with_reducible refine Own.set ?_ _ _ (by first | omega | (simp; done) | (simp; omega))) | (with_reducible refine Own.alloc ?_ _) | (with_reducible refine Own.drew ?_) | (with_reducible refine Own.drewN ?_ _))), trivial⟩ ?_
            clear c_A1 f_A1 c_A7 f_A7 c_A8 f_A8
            rintro w9 ⟨N, A11, A12, O9, -⟩
            have c_A11 := cell_of_block A11.out
            have f_A11 := frozen_of_block A11.out
            have c_A12 := cell_of_block A12.out
            have f_A12 := frozen_of_block A12.out
            replace A1 := Lib.hid (keepb A1.out N.out)
            replace c_A1 := cell_of_block A1.out
            replace f_A1 := frozen_of_block A1.out
            replace A7 := Lib.hid (keepb A7.out N.out)
            replace c_A7 := cell_of_block A7.out
            replace f_A7 := frozen_of_block A7.out
            replace A8 := Lib.hid (keepb A8.out N.out)
            replace c_A8 := cell_of_block A8.out
            replace f_A8 := frozen_of_block A8.out
            replace BA := Lib.hid (chain BA.out N.out)
            clear N O8
            go_upto_region 31 with fail
            refine gen_wp (fun w7 => Hid (w7.heap[w.heap.size]? = some (.cells #[.int .i64 S'.next, .slice p8 S'.fl.length cap8, .int .i64 S'.cwnd, .int .i64 S'.acc] 24)) ∧ Hid (w7.heap[wr.heap.size]? = some (.cells #[.int .i64 x.do_, .int .i64 x.n, .int .i64 x.m, .int .i64 x.now, .int .i64 x.note.user, .int .i64 x.note.ver, .int .i64 x.note.stat, .int .i64 x.note.cnt] 31)) ∧ Hid (w7.heap[w4.heap.size]? = some (.cells #[.int .i64 S.next, .slice p S.fl.length cap, .int .i64 S.cwnd, .int .i64 S.acc] 24)) ∧ Hid (Below w.heap.size w w7) ∧ Hid (Own 34 7 w6.heap.size w7 (.slice p8 S'.fl.length cap8) S'.fl.length (flat Fl.cells S'.fl)) ∧ True) ⟨Lib.hid (by first | (simp [World.setCell, Array.getElem?_modify, A1.out, A7.out, A8.out, A11.out, A12.out, m1, m1.symm, m2, m2.symm]; done) | (simp [World.setCell, Array.getElem?_modify, A1.out, A7.out, A8.out, A11.out, A12.out, m1, m1.symm, m2, m2.symm]; omega) | ((repeat (first | (with_reducible exact A1.out) | (with_reducible exact A7.out) | (with_reducible exact A8.out) | (with_reducible exact A11.out) | (with_reducible exact A12.out) | (with_reducible exact heap_new _ _ _ (by first | rfl | (simp; done))) | (with_reducible refine keepa ?_ _) | (simp [World.setCell, Array.getElem?_modify, A1.out, A7.out, A8.out, A11.out, A12.out, m1, m1.symm, m2, m2.symm]; done))); done)), Lib.hid (by first | (simp [World.setCell, Array.getElem?_modify, A1.out, A7.out, A8.out, A11.out, A12.out, m1, m1.symm, m2, m2.symm]; done) | (simp [World.setCell, Array.getElem?_modify, A1.out, A7.out, A8.out, A11.out, A12.out, m1, m1.symm, m2, m2.symm]; omega) | ((repeat (first | (with_reducible exact A1.out) | (with_reducible exact A7.out) | (with_reducible exact A8.out) | (with_reducible exact A11.out) | (with_reducible exact A12.out) | (with_reducible exact heap_new _ _ _ (by first | rfl | (simp; done))) | (with_reducible refine keepa ?_ _) | (simp [World.setCell, Array.getElem?_modify, A1.out, A7.out, A8.out, A11.out, A12.out, m1, m1.symm, m2, m2.symm]; done))); done)), Lib.hid (by first | (simp [World.setCell, Array.getElem?_modify, A1.out, A7.out, A8.out, A11.out, A12.out, m1, m1.symm, m2, m2.symm]; done) | (simp [World.setCell, Array.getElem?_modify, A1.out, A7.out, A8.out, A11.out, A12.out, m1, m1.symm, m2, m2.symm]; omega) | ((repeat (first | (with_reducible exact A1.out) | (with_reducible exact A7.out) | (with_reducible exact A8.out) | (with_reducible exact A11.out) | (with_reducible exact A12.out) | (with_reducible exact heap_new _ _ _ (by first | rfl | (simp; done))) | (with_reducible refine keepa ?_ _) | (simp [World.setCell, Array.getElem?_modify, A1.out, A7.out, A8.out, A11.out, A12.out, m1, m1.symm, m2, m2.symm]; done))); done)), Lib.hid (by have hbsz := Below.size (BA.out); repeat (first | (with_reducible exact BA.out) | (with_reducible refine bel_set (by first | omega | (simp; done) | (simp; omega)) ?_) | (with_reducible refine bel_alloc (by first | omega | (simp; done) | (simp; omega)) ?_) | (with_reducible refine bel_drew ?_) | (with_reducible refine bel_drewN ?_ _))), Lib.hid (by repeat (first | (with_reducible exact O9.out) | (with_reducible refine Own.set ?_ _ _ (by first | omega | (simp; done) | (simp; omega))) | (with_reducible refine Own.alloc ?_ _) | (with_reducible refine Own.drew ?_) | (with_reducible refine Own.drewN ?_ _))), trivial⟩ ?_
            clear c_A1 f_A1 c_A7 f_A7 c_A8 f_A8 c_A11 f_A11 c_A12 f_A12
            rintro w7 ⟨A1, A7, A8, BA, FS', -⟩
            have c_A1 := cell_of_block A1.out
            have f_A1 := frozen_of_block A1.out
            have c_A7 := cell_of_block A7.out
            have f_A7 := frozen_of_block A7.out
            have c_A8 := cell_of_block A8.out
            have f_A8 := frozen_of_block A8.out
            have HP' := Lib.hid (rightSd HR'.out)
            have HRb := Lib.hid (room_bound HP'.out)
            obtain ⟨rm, hrm⟩ : ∃ rm, sdRoom S' = rm := ⟨_, rfl⟩
            have HRm := Lib.hid hrm
            have HRm2 := Lib.hid (show 0 ≤ rm ∧ rm ≤ 8 by rw [← hrm]; exact HRb.out)
            have u1 := dec_f (show ¬ 8 < (S'.fl.length : Int) by have := HP'.out.len; omega)
            have u2 := dec_f (show ¬ rm < 0 by have := HRm2.out; omega)
            have u3 := dec_f (show ¬ 8 < rm by have := HRm2.out; omega)
            clear hrm
            go_wp2_with fail
            refine (sright_at S'.next _ S'.cwnd S'.acc S'.fl true _ FS'.out.sl (by have := HP'.out.n1; omega) HR'.out).mono ?_; rintro e wp ⟨rfl, BP⟩
            replace A1 := Lib.hid (keepb A1.out BP.out)
            replace c_A1 := cell_of_block A1.out
            replace f_A1 := frozen_of_block A1.out
            replace A7 := Lib.hid (keepb A7.out BP.out)
            replace c_A7 := cell_of_block A7.out
            replace f_A7 := frozen_of_block A7.out
            replace A8 := Lib.hid (keepb A8.out BP.out)
            replace c_A8 := cell_of_block A8.out
            replace f_A8 := frozen_of_block A8.out
            replace BA := Lib.hid (chain BA.out BP.out)
            replace FS' := Lib.hid (FS'.out.keep BP.out)
            go_wp2_with fail
            refine (sroom_at S'.next _ S'.cwnd S'.acc S'.fl rm _ FS'.out.sl HR'.out HRm.out).mono ?_; rintro e wq ⟨rfl, BQ⟩
            replace A1 := Lib.hid (keepb A1.out BQ.out)
            replace c_A1 := cell_of_block A1.out
            replace f_A1 := frozen_of_block A1.out
            replace A7 := Lib.hid (keepb A7.out BQ.out)
            replace c_A7 := cell_of_block A7.out
            replace f_A7 := frozen_of_block A7.out
            replace A8 := Lib.hid (keepb A8.out BQ.out)
            replace c_A8 := cell_of_block A8.out
            replace f_A8 := frozen_of_block A8.out
            replace BA := Lib.hid (chain BA.out BQ.out)
            replace FS' := Lib.hid (FS'.out.keep BQ.out)
            go_wp2_with fail
            refine (sroom_at S'.next _ S'.cwnd S'.acc S'.fl rm _ FS'.out.sl HR'.out HRm.out).mono ?_; rintro e ws ⟨rfl, BS⟩
            replace A1 := Lib.hid (keepb A1.out BS.out)
            replace c_A1 := cell_of_block A1.out
            replace f_A1 := frozen_of_block A1.out
            replace A7 := Lib.hid (keepb A7.out BS.out)
            replace c_A7 := cell_of_block A7.out
            replace f_A7 := frozen_of_block A7.out
            replace A8 := Lib.hid (keepb A8.out BS.out)
            replace c_A8 := cell_of_block A8.out
            replace f_A8 := frozen_of_block A8.out
            replace BA := Lib.hid (chain BA.out BS.out)
            replace FS' := Lib.hid (FS'.out.keep BS.out)
            go_wp2_with fail
            go_roundw
            case rel => exact ⟨k + 1, S', _, _, by omega, by go_num, A1.out, FS'.out.sl, HR'.out, BA.out⟩
            case measure => simp [intOf]; omega
          · obtain rfl : r0 = 0 := by omega
            obtain ⟨S', hS'⟩ : ∃ S' : Sd, S' = S := ⟨_, rfl⟩
            have HPu := Lib.hid (show sdPush S x.note x.now = (S', fl0, false) by unfold sdPush; rw [hr0, if_pos rfl, hS'])
            have HR' := Lib.hid (show sdRight S' = true by rw [hS']; exact HR.out)
            have v1 : (S'.next != S.next) = false := by rw [hS']; simp
            clear hr0 hS'
            go_wp2_with fail
            refine (sroom_at S.next _ S.cwnd S.acc S.fl _ _ FS.out HR.out HR0.out).mono ?_; rintro e w6 ⟨rfl, B6⟩
            replace A1 := Lib.hid (keepb A1.out B6.out)
            replace c_A1 := cell_of_block A1.out
            replace f_A1 := frozen_of_block A1.out
            replace A7 := Lib.hid (keepb A7.out B6.out)
            replace c_A7 := cell_of_block A7.out
            replace f_A7 := frozen_of_block A7.out
            replace A8 := Lib.hid (keepb A8.out B6.out)
            replace c_A8 := cell_of_block A8.out
            replace f_A8 := frozen_of_block A8.out
            replace BA := Lib.hid (chain BA.out B6.out)
            replace FS := fls_keep FS B6
            go_wp2_with fail
            refine (spush_any S.next _ S.cwnd S.acc S.fl x.note x.now _ FS.out ⟨by omega, by omega⟩ ⟨by have := HP.out.c0; omega, HP.out.c1⟩ (by have := HP.out.len; omega) (fun f hf => by have := HP.out.fl f hf; omega) S' fl0 false HPu.out).mono ?_; rintro e w8 ⟨p8, cap8, rfl, O8, B8⟩
            replace A1 := Lib.hid (keepb A1.out B8.out)
            replace c_A1 := cell_of_block A1.out
            replace f_A1 := frozen_of_block A1.out
            replace A7 := Lib.hid (keepb A7.out B8.out)
            replace c_A7 := cell_of_block A7.out
            replace f_A7 := frozen_of_block A7.out
            replace A8 := Lib.hid (keepb A8.out B8.out)
            replace c_A8 := cell_of_block A8.out
            replace f_A8 := frozen_of_block A8.out
            replace BA := Lib.hid (chain BA.out B8.out)
            have hs6 : w5.heap.size ≤ w6.heap.size := B6.out.size
            have hs8 : w6.heap.size ≤ w8.heap.size := B8.out.size
            have m3 : w.heap.size ≠ w8.heap.size := by omega
            have m4 : w.heap.size ≠ w8.heap.size + 1 := by omega
            go_upto_region 17 with fail
            refine gen_wp (fun w9 => Hid (Below w8.heap.size w8 w9) ∧ Hid (w9.heap[w8.heap.size]? = some (.cells #[.int .i64 S'.next, .slice p8 S'.fl.length cap8, .int .i64 S'.cwnd, .int .i64 S'.acc] 24)) ∧ Hid (w9.heap[(w8.heap.size + 1)]? = some (.cells #[.int .i64 fl0.seq, .int .i64 fl0.note.user, .int .i64 fl0.note.ver, .int .i64 fl0.note.stat, .int .i64 fl0.note.cnt, .int .i64 fl0.at_, .int .i64 fl0.tries] 34)) ∧ Hid (Own 34 7 w6.heap.size w9 (.slice p8 S'.fl.length cap8) S'.fl.length (flat Fl.cells S'.fl)) ∧ True) ⟨Lib.hid (by repeat (first | (with_reducible exact Below.refl _ _) | (with_reducible refine bel_set (by first | omega | (simp; done) | (simp; omega)) ?_) | (with_reducible refine bel_alloc (by first | omega | (simp; done) | (simp; omega)) ?_) | (with_reducible refine bel_drew ?_) | (with_reducible refine bel_drewN ?_ _))), Lib.hid (by first | (simp [World.setCell, Array.getElem?_modify, A1.out, A7.out, A8.out]; done) | (simp [World.setCell, Array.getElem?_modify, A1.out, A7.out, A8.out]; omega) | ((repeat (first | (with_reducible exact A1.out) | (with_reducible exact A7.out) | (with_reducible exact A8.out) | (with_reducible exact heap_new _ _ _ (by first | rfl | (simp; done))) | (with_reducible refine keepa ?_ _) | (simp [World.setCell, Array.getElem?_modify, A1.out, A7.out, A8.out]; done))); done)), Lib.hid (by first | (simp [World.setCell, Array.getElem?_modify, A1.out, A7.out, A8.out]; done) | (simp [World.setCell, Array.getElem?_modify, A1.out, A7.out, A8.out]; omega) | ((repeat (first | (with_reducible exact A1.out) | (with_reducible exact A7.out) | (with_reducible exact A8.out) | (with_reducible exact heap_new _ _ _ (by first | rfl | (simp; done))) | (with_reducible refine keepa ?_ _) | (simp [World.setCell, Array.getElem?_modify, A1.out, A7.out, A8.out]; done))); done)), Lib.hid (by repeat (first | (with_reducible exact O8.out) | (with_reducible refine Own.set ?_ _ _ (by first | omega | (simp; done) | (simp; omega))) | (with_reducible refine Own.alloc ?_ _) | (with_reducible refine Own.drew ?_) | (with_reducible refine Own.drewN ?_ _))), trivial⟩ ?_
            clear c_A1 f_A1 c_A7 f_A7 c_A8 f_A8
            rintro w9 ⟨N, A11, A12, O9, -⟩
            have c_A11 := cell_of_block A11.out
            have f_A11 := frozen_of_block A11.out
            have c_A12 := cell_of_block A12.out
            have f_A12 := frozen_of_block A12.out
            replace A1 := Lib.hid (keepb A1.out N.out)
            replace c_A1 := cell_of_block A1.out
            replace f_A1 := frozen_of_block A1.out
            replace A7 := Lib.hid (keepb A7.out N.out)
            replace c_A7 := cell_of_block A7.out
            replace f_A7 := frozen_of_block A7.out
            replace A8 := Lib.hid (keepb A8.out N.out)
            replace c_A8 := cell_of_block A8.out
            replace f_A8 := frozen_of_block A8.out
            replace BA := Lib.hid (chain BA.out N.out)
            clear N O8
            go_upto_region 31 with fail
            refine gen_wp (fun w7 => Hid (w7.heap[w.heap.size]? = some (.cells #[.int .i64 S'.next, .slice p8 S'.fl.length cap8, .int .i64 S'.cwnd, .int .i64 S'.acc] 24)) ∧ Hid (w7.heap[wr.heap.size]? = some (.cells #[.int .i64 x.do_, .int .i64 x.n, .int .i64 x.m, .int .i64 x.now, .int .i64 x.note.user, .int .i64 x.note.ver, .int .i64 x.note.stat, .int .i64 x.note.cnt] 31)) ∧ Hid (w7.heap[w4.heap.size]? = some (.cells #[.int .i64 S.next, .slice p S.fl.length cap, .int .i64 S.cwnd, .int .i64 S.acc] 24)) ∧ Hid (Below w.heap.size w w7) ∧ Hid (Own 34 7 w6.heap.size w7 (.slice p8 S'.fl.length cap8) S'.fl.length (flat Fl.cells S'.fl)) ∧ True) ⟨Lib.hid (by first | (simp [World.setCell, Array.getElem?_modify, A1.out, A7.out, A8.out, A11.out, A12.out, m1, m1.symm, m2, m2.symm]; done) | (simp [World.setCell, Array.getElem?_modify, A1.out, A7.out, A8.out, A11.out, A12.out, m1, m1.symm, m2, m2.symm]; omega) | ((repeat (first | (with_reducible exact A1.out) | (with_reducible exact A7.out) | (with_reducible exact A8.out) | (with_reducible exact A11.out) | (with_reducible exact A12.out) | (with_reducible exact heap_new _ _ _ (by first | rfl | (simp; done))) | (with_reducible refine keepa ?_ _) | (simp [World.setCell, Array.getElem?_modify, A1.out, A7.out, A8.out, A11.out, A12.out, m1, m1.symm, m2, m2.symm]; done))); done)), Lib.hid (by first | (simp [World.setCell, Array.getElem?_modify, A1.out, A7.out, A8.out, A11.out, A12.out, m1, m1.symm, m2, m2.symm]; done) | (simp [World.setCell, Array.getElem?_modify, A1.out, A7.out, A8.out, A11.out, A12.out, m1, m1.symm, m2, m2.symm]; omega) | ((repeat (first | (with_reducible exact A1.out) | (with_reducible exact A7.out) | (with_reducible exact A8.out) | (with_reducible exact A11.out) | (with_reducible exact A12.out) | (with_reducible exact heap_new _ _ _ (by first | rfl | (simp; done))) | (with_reducible refine keepa ?_ _) | (simp [World.setCell, Array.getElem?_modify, A1.out, A7.out, A8.out, A11.out, A12.out, m1, m1.symm, m2, m2.symm]; done))); done)), Lib.hid (by first | (simp [World.setCell, Array.getElem?_modify, A1.out, A7.out, A8.out, A11.out, A12.out, m1, m1.symm, m2, m2.symm]; done) | (simp [World.setCell, Array.getElem?_modify, A1.out, A7.out, A8.out, A11.out, A12.out, m1, m1.symm, m2, m2.symm]; omega) | ((repeat (first | (with_reducible exact A1.out) | (with_reducible exact A7.out) | (with_reducible exact A8.out) | (with_reducible exact A11.out) | (with_reducible exact A12.out) | (with_reducible exact heap_new _ _ _ (by first | rfl | (simp; done))) | (with_reducible refine keepa ?_ _) | (simp [World.setCell, Array.getElem?_modify, A1.out, A7.out, A8.out, A11.out, A12.out, m1, m1.symm, m2, m2.symm]; done))); done)), Lib.hid (by have hbsz := Below.size (BA.out); repeat (first | (with_reducible exact BA.out) | (with_reducible refine bel_set (by first | omega | (simp; done) | (simp; omega)) ?_) | (with_reducible refine bel_alloc (by first | omega | (simp; done) | (simp; omega)) ?_) | (with_reducible refine bel_drew ?_) | (with_reducible refine bel_drewN ?_ _))), Lib.hid (by repeat (first | (with_reducible exact O9.out) | (with_reducible refine Own.set ?_ _ _ (by first | omega | (simp; done) | (simp; omega))) | (with_reducible refine Own.alloc ?_ _) | (with_reducible refine Own.drew ?_) | (with_reducible refine Own.drewN ?_ _))), trivial⟩ ?_
            clear c_A1 f_A1 c_A7 f_A7 c_A8 f_A8 c_A11 f_A11 c_A12 f_A12
            rintro w7 ⟨A1, A7, A8, BA, FS', -⟩
            have c_A1 := cell_of_block A1.out
            have f_A1 := frozen_of_block A1.out
            have c_A7 := cell_of_block A7.out
            have f_A7 := frozen_of_block A7.out
            have c_A8 := cell_of_block A8.out
            have f_A8 := frozen_of_block A8.out
            have HP' := Lib.hid (rightSd HR'.out)
            have HRb := Lib.hid (room_bound HP'.out)
            obtain ⟨rm, hrm⟩ : ∃ rm, sdRoom S' = rm := ⟨_, rfl⟩
            have HRm := Lib.hid hrm
            have HRm2 := Lib.hid (show 0 ≤ rm ∧ rm ≤ 8 by rw [← hrm]; exact HRb.out)
            have u1 := dec_f (show ¬ 8 < (S'.fl.length : Int) by have := HP'.out.len; omega)
            have u2 := dec_f (show ¬ rm < 0 by have := HRm2.out; omega)
            have u3 := dec_f (show ¬ 8 < rm by have := HRm2.out; omega)
            clear hrm
            go_wp2_with fail
            refine (sright_at S'.next _ S'.cwnd S'.acc S'.fl true _ FS'.out.sl (by have := HP'.out.n1; omega) HR'.out).mono ?_; rintro e wp ⟨rfl, BP⟩
            replace A1 := Lib.hid (keepb A1.out BP.out)
            replace c_A1 := cell_of_block A1.out
            replace f_A1 := frozen_of_block A1.out
            replace A7 := Lib.hid (keepb A7.out BP.out)
            replace c_A7 := cell_of_block A7.out
            replace f_A7 := frozen_of_block A7.out
            replace A8 := Lib.hid (keepb A8.out BP.out)
            replace c_A8 := cell_of_block A8.out
            replace f_A8 := frozen_of_block A8.out
            replace BA := Lib.hid (chain BA.out BP.out)
            replace FS' := Lib.hid (FS'.out.keep BP.out)
            go_wp2_with fail
            refine (sroom_at S'.next _ S'.cwnd S'.acc S'.fl rm _ FS'.out.sl HR'.out HRm.out).mono ?_; rintro e wq ⟨rfl, BQ⟩
            replace A1 := Lib.hid (keepb A1.out BQ.out)
            replace c_A1 := cell_of_block A1.out
            replace f_A1 := frozen_of_block A1.out
            replace A7 := Lib.hid (keepb A7.out BQ.out)
            replace c_A7 := cell_of_block A7.out
            replace f_A7 := frozen_of_block A7.out
            replace A8 := Lib.hid (keepb A8.out BQ.out)
            replace c_A8 := cell_of_block A8.out
            replace f_A8 := frozen_of_block A8.out
            replace BA := Lib.hid (chain BA.out BQ.out)
            replace FS' := Lib.hid (FS'.out.keep BQ.out)
            go_wp2_with fail
            refine (sroom_at S'.next _ S'.cwnd S'.acc S'.fl rm _ FS'.out.sl HR'.out HRm.out).mono ?_; rintro e ws ⟨rfl, BS⟩
            replace A1 := Lib.hid (keepb A1.out BS.out)
            replace c_A1 := cell_of_block A1.out
            replace f_A1 := frozen_of_block A1.out
            replace A7 := Lib.hid (keepb A7.out BS.out)
            replace c_A7 := cell_of_block A7.out
            replace f_A7 := frozen_of_block A7.out
            replace A8 := Lib.hid (keepb A8.out BS.out)
            replace c_A8 := cell_of_block A8.out
            replace f_A8 := frozen_of_block A8.out
            replace BA := Lib.hid (chain BA.out BS.out)
            replace FS' := Lib.hid (FS'.out.keep BS.out)
            go_wp2_with fail
            go_roundw
            case rel => exact ⟨k + 1, S', _, _, by omega, by go_num, A1.out, FS'.out.sl, HR'.out, BA.out⟩
            case measure => simp [intOf]; omega
        · have z0 : (x.do_ == 0) = false := by simp; omega
          have z1 : (x.do_ == 1) = true := by simpa using hd
          clear hd
          obtain ⟨S', mm, hS'⟩ : ∃ S' mm, sdAcked S x.n x.m x.now = (S', mm) := ⟨_, _, rfl⟩
          obtain ⟨hr1, hr2, hr3, hr4, hr5, hr6⟩ := acked_facts HR.out e2 hS'
          have HR' := Lib.hid hr1
          have HSn := Lib.hid hr2
          have w1' := dec_f (show ¬ S.fl.length < S'.fl.length by omega)
          have w2' := dec_f (show ¬ S'.cwnd < S.cwnd by omega)
          have w3' := dec_f (show ¬ mm < -1 by omega)
          have w4' := dec_f (show ¬ 1099511627776 < mm by omega)
          have HC := Lib.hid (sacked_any S.next (.slice p S.fl.length cap) S.cwnd S.acc S.fl x.n x.m x.now w5 FS.out HR.out ⟨e1, e2⟩ S' mm hS')
          clear hS' hr1 hr2 hr3 hr4 hr5 hr6
          have v1 : (S'.next != S.next) = false := by simpa using HSn.out
          go_wp2_with fail
          refine HC.out.mono ?_; rintro e w6 ⟨p6, cap6, rfl, O6, B6⟩
          replace A1 := Lib.hid (keepb A1.out B6.out)
          replace c_A1 := cell_of_block A1.out
          replace f_A1 := frozen_of_block A1.out
          replace A7 := Lib.hid (keepb A7.out B6.out)
          replace c_A7 := cell_of_block A7.out
          replace f_A7 := frozen_of_block A7.out
          replace A8 := Lib.hid (keepb A8.out B6.out)
          replace c_A8 := cell_of_block A8.out
          replace f_A8 := frozen_of_block A8.out
          replace BA := Lib.hid (chain BA.out B6.out)
          have hs6 : w5.heap.size ≤ w6.heap.size := B6.out.size
          have m3 : w.heap.size ≠ w6.heap.size := by omega
          go_upto_region 24 with fail
          refine gen_wp (fun w6' => Hid (Below w6.heap.size w6 w6') ∧ Hid (w6'.heap[w6.heap.size]? = some (.cells #[.int .i64 S'.next, .slice p6 S'.fl.length cap6, .int .i64 S'.cwnd, .int .i64 S'.acc] 24)) ∧ Hid (Own 34 7 w5.heap.size w6' (.slice p6 S'.fl.length cap6) S'.fl.length (flat Fl.cells S'.fl)) ∧ True) ⟨Lib.hid (by repeat (first | (with_reducible exact Below.refl _ _) | (with_reducible refine bel_set (by first | omega | (simp; done) | (simp; omega)) ?_) | (with_reducible refine bel_alloc (by first | omega | (simp; done) | (simp; omega)) ?_) | (with_reducible refine bel_drew ?_) | (with_reducible refine bel_drewN ?_ _))), Lib.hid (by first | (simp [World.setCell, Array.getElem?_modify, A1.out, A7.out, A8.out]; done) | (simp [World.setCell, Array.getElem?_modify, A1.out, A7.out, A8.out]; omega) | ((repeat (first | (with_reducible exact A1.out) | (with_reducible exact A7.out) | (with_reducible exact A8.out) | (with_reducible exact heap_new _ _ _ (by first | rfl | (simp; done))) | (with_reducible refine keepa ?_ _) | (simp [World.setCell, Array.getElem?_modify, A1.out, A7.out, A8.out]; done))); done)), Lib.hid (by repeat (first | (with_reducible exact O6.out) | (with_reducible refine Own.set ?_ _ _ (by first | omega | (simp; done) | (simp; omega))) | (with_reducible refine Own.alloc ?_ _) | (with_reducible refine Own.drew ?_) | (with_reducible refine Own.drewN ?_ _))), trivial⟩ ?_
          clear c_A1 f_A1 c_A7 f_A7 c_A8 f_A8
          rintro w6' ⟨N, A14, O7, -⟩
          have c_A14 := cell_of_block A14.out
          have f_A14 := frozen_of_block A14.out
          replace A1 := Lib.hid (keepb A1.out N.out)
          replace c_A1 := cell_of_block A1.out
          replace f_A1 := frozen_of_block A1.out
          replace A7 := Lib.hid (keepb A7.out N.out)
          replace c_A7 := cell_of_block A7.out
          replace f_A7 := frozen_of_block A7.out
          replace A8 := Lib.hid (keepb A8.out N.out)
          replace c_A8 := cell_of_block A8.out
          replace f_A8 := frozen_of_block A8.out
          replace BA := Lib.hid (chain BA.out N.out)
          replace O6 := O7
          clear N
          go_upto_region 31 with fail
          refine gen_wp (fun w7 => Hid (w7.heap[w.heap.size]? = some (.cells #[.int .i64 S'.next, .slice p6 S'.fl.length cap6, .int .i64 S'.cwnd, .int .i64 S'.acc] 24)) ∧ Hid (w7.heap[wr.heap.size]? = some (.cells #[.int .i64 x.do_, .int .i64 x.n, .int .i64 x.m, .int .i64 x.now, .int .i64 x.note.user, .int .i64 x.note.ver, .int .i64 x.note.stat, .int .i64 x.note.cnt] 31)) ∧ Hid (w7.heap[w4.heap.size]? = some (.cells #[.int .i64 S.next, .slice p S.fl.length cap, .int .i64 S.cwnd, .int .i64 S.acc] 24)) ∧ Hid (Below w.heap.size w w7) ∧ Hid (Own 34 7 w5.heap.size w7 (.slice p6 S'.fl.length cap6) S'.fl.length (flat Fl.cells S'.fl)) ∧ True) ⟨Lib.hid (by first | (simp [World.setCell, Array.getElem?_modify, A1.out, A7.out, A8.out, A14.out, m1, m1.symm, m2, m2.symm]; done) | (simp [World.setCell, Array.getElem?_modify, A1.out, A7.out, A8.out, A14.out, m1, m1.symm, m2, m2.symm]; omega) | ((repeat (first | (with_reducible exact A1.out) | (with_reducible exact A7.out) | (with_reducible exact A8.out) | (with_reducible exact A14.out) | (with_reducible exact heap_new _ _ _ (by first | rfl | (simp; done))) | (with_reducible refine keepa ?_ _) | (simp [World.setCell, Array.getElem?_modify, A1.out, A7.out, A8.out, A14.out, m1, m1.symm, m2, m2.symm]; done))); done)), Lib.hid (by first | (simp [World.setCell, Array.getElem?_modify, A1.out, A7.out, A8.out, A14.out, m1, m1.symm, m2, m2.symm]; done) | (simp [World.setCell, Array.getElem?_modify, A1.out, A7.out, A8.out, A14.out, m1, m1.symm, m2, m2.symm]; omega) | ((repeat (first | (with_reducible exact A1.out) | (with_reducible exact A7.out) | (with_reducible exact A8.out) | (with_reducible exact A14.out) | (with_reducible exact heap_new _ _ _ (by first | rfl | (simp; done))) | (with_reducible refine keepa ?_ _) | (simp [World.setCell, Array.getElem?_modify, A1.out, A7.out, A8.out, A14.out, m1, m1.symm, m2, m2.symm]; done))); done)), Lib.hid (by first | (simp [World.setCell, Array.getElem?_modify, A1.out, A7.out, A8.out, A14.out, m1, m1.symm, m2, m2.symm]; done) | (simp [World.setCell, Array.getElem?_modify, A1.out, A7.out, A8.out, A14.out, m1, m1.symm, m2, m2.symm]; omega) | ((repeat (first | (with_reducible exact A1.out) | (with_reducible exact A7.out) | (with_reducible exact A8.out) | (with_reducible exact A14.out) | (with_reducible exact heap_new _ _ _ (by first | rfl | (simp; done))) | (with_reducible refine keepa ?_ _) | (simp [World.setCell, Array.getElem?_modify, A1.out, A7.out, A8.out, A14.out, m1, m1.symm, m2, m2.symm]; done))); done)), Lib.hid (by have hbsz := Below.size (BA.out); repeat (first | (with_reducible exact BA.out) | (with_reducible refine bel_set (by first | omega | (simp; done) | (simp; omega)) ?_) | (with_reducible refine bel_alloc (by first | omega | (simp; done) | (simp; omega)) ?_) | (with_reducible refine bel_drew ?_) | (with_reducible refine bel_drewN ?_ _))), Lib.hid (by repeat (first | (with_reducible exact O6.out) | (with_reducible refine Own.set ?_ _ _ (by first | omega | (simp; done) | (simp; omega))) | (with_reducible refine Own.alloc ?_ _) | (with_reducible refine Own.drew ?_) | (with_reducible refine Own.drewN ?_ _))), trivial⟩ ?_
          clear c_A1 f_A1 c_A7 f_A7 c_A8 f_A8 c_A14 f_A14
          rintro w7 ⟨A1, A7, A8, BA, FS', -⟩
          have c_A1 := cell_of_block A1.out
          have f_A1 := frozen_of_block A1.out
          have c_A7 := cell_of_block A7.out
          have f_A7 := frozen_of_block A7.out
          have c_A8 := cell_of_block A8.out
          have f_A8 := frozen_of_block A8.out
          have HP' := Lib.hid (rightSd HR'.out)
          have HRb := Lib.hid (room_bound HP'.out)
          obtain ⟨rm, hrm⟩ : ∃ rm, sdRoom S' = rm := ⟨_, rfl⟩
          have HRm := Lib.hid hrm
          have HRm2 := Lib.hid (show 0 ≤ rm ∧ rm ≤ 8 by rw [← hrm]; exact HRb.out)
          have u1 := dec_f (show ¬ 8 < (S'.fl.length : Int) by have := HP'.out.len; omega)
          have u2 := dec_f (show ¬ rm < 0 by have := HRm2.out; omega)
          have u3 := dec_f (show ¬ 8 < rm by have := HRm2.out; omega)
          clear hrm
          go_wp2_with fail
          refine (sright_at S'.next _ S'.cwnd S'.acc S'.fl true _ FS'.out.sl (by have := HP'.out.n1; omega) HR'.out).mono ?_; rintro e wp ⟨rfl, BP⟩
          replace A1 := Lib.hid (keepb A1.out BP.out)
          replace c_A1 := cell_of_block A1.out
          replace f_A1 := frozen_of_block A1.out
          replace A7 := Lib.hid (keepb A7.out BP.out)
          replace c_A7 := cell_of_block A7.out
          replace f_A7 := frozen_of_block A7.out
          replace A8 := Lib.hid (keepb A8.out BP.out)
          replace c_A8 := cell_of_block A8.out
          replace f_A8 := frozen_of_block A8.out
          replace BA := Lib.hid (chain BA.out BP.out)
          replace FS' := Lib.hid (FS'.out.keep BP.out)
          go_wp2_with fail
          refine (sroom_at S'.next _ S'.cwnd S'.acc S'.fl rm _ FS'.out.sl HR'.out HRm.out).mono ?_; rintro e wq ⟨rfl, BQ⟩
          replace A1 := Lib.hid (keepb A1.out BQ.out)
          replace c_A1 := cell_of_block A1.out
          replace f_A1 := frozen_of_block A1.out
          replace A7 := Lib.hid (keepb A7.out BQ.out)
          replace c_A7 := cell_of_block A7.out
          replace f_A7 := frozen_of_block A7.out
          replace A8 := Lib.hid (keepb A8.out BQ.out)
          replace c_A8 := cell_of_block A8.out
          replace f_A8 := frozen_of_block A8.out
          replace BA := Lib.hid (chain BA.out BQ.out)
          replace FS' := Lib.hid (FS'.out.keep BQ.out)
          go_wp2_with fail
          refine (sroom_at S'.next _ S'.cwnd S'.acc S'.fl rm _ FS'.out.sl HR'.out HRm.out).mono ?_; rintro e ws ⟨rfl, BS⟩
          replace A1 := Lib.hid (keepb A1.out BS.out)
          replace c_A1 := cell_of_block A1.out
          replace f_A1 := frozen_of_block A1.out
          replace A7 := Lib.hid (keepb A7.out BS.out)
          replace c_A7 := cell_of_block A7.out
          replace f_A7 := frozen_of_block A7.out
          replace A8 := Lib.hid (keepb A8.out BS.out)
          replace c_A8 := cell_of_block A8.out
          replace f_A8 := frozen_of_block A8.out
          replace BA := Lib.hid (chain BA.out BS.out)
          replace FS' := Lib.hid (FS'.out.keep BS.out)
          go_wp2_with fail
          go_roundw
          case rel => exact ⟨k + 1, S', _, _, by omega, by go_num, A1.out, FS'.out.sl, HR'.out, BA.out⟩
          case measure => simp [intOf]; omega
        · have z0 : (x.do_ == 0) = false := by simp; omega
          have z1 : (x.do_ == 1) = false := by simp; omega
          have z2 : (x.do_ == 2) = true := by simpa using hd
          clear hd
          obtain ⟨S', f, ok, hS'⟩ : ∃ S' f ok, sdResend S x.n x.now = (S', f, ok) := ⟨_, _, _, rfl⟩
          obtain ⟨hr1, hr2, -⟩ := resend_facts HR.out e1 e2 hS'
          have HR' := Lib.hid hr1
          have HSn := Lib.hid hr2
          have HC := Lib.hid (sresend_any S.next (.slice p S.fl.length cap) S.cwnd S.acc S.fl x.n x.now w5 FS.out (by have := HP.out.len; omega) (fun f hf => by have := HP.out.fl f hf; omega) S' f ok hS')
          clear hS' hr1 hr2
          have v1 : (S'.next != S.next) = false := by simpa using HSn.out
          go_wp2_with fail
          refine HC.out.mono ?_; rintro e w6 ⟨p6, cap6, rfl, O6, B6⟩
          replace A1 := Lib.hid (keepb A1.out B6.out)
          replace c_A1 := cell_of_block A1.out
          replace f_A1 := frozen_of_block A1.out
          replace A7 := Lib.hid (keepb A7.out B6.out)
          replace c_A7 := cell_of_block A7.out
          replace f_A7 := frozen_of_block A7.out
          replace A8 := Lib.hid (keepb A8.out B6.out)
          replace c_A8 := cell_of_block A8.out
          replace f_A8 := frozen_of_block A8.out
          replace BA := Lib.hid (chain BA.out B6.out)
          go_upto_region 31 with fail
          refine gen_wp (fun w7 => Hid (w7.heap[w.heap.size]? = some (.cells #[.int .i64 S'.next, .slice p6 S'.fl.length cap6, .int .i64 S'.cwnd, .int .i64 S'.acc] 24)) ∧ Hid (w7.heap[wr.heap.size]? = some (.cells #[.int .i64 x.do_, .int .i64 x.n, .int .i64 x.m, .int .i64 x.now, .int .i64 x.note.user, .int .i64 x.note.ver, .int .i64 x.note.stat, .int .i64 x.note.cnt] 31)) ∧ Hid (w7.heap[w4.heap.size]? = some (.cells #[.int .i64 S.next, .slice p S.fl.length cap, .int .i64 S.cwnd, .int .i64 S.acc] 24)) ∧ Hid (Below w.heap.size w w7) ∧ Hid (Own 34 7 w5.heap.size w7 (.slice p6 S'.fl.length cap6) S'.fl.length (flat Fl.cells S'.fl)) ∧ True) ⟨Lib.hid (by first | (simp [World.setCell, Array.getElem?_modify, A1.out, A7.out, A8.out, m1, m1.symm, m2, m2.symm]; done) | (simp [World.setCell, Array.getElem?_modify, A1.out, A7.out, A8.out, m1, m1.symm, m2, m2.symm]; omega) | ((repeat (first | (with_reducible exact A1.out) | (with_reducible exact A7.out) | (with_reducible exact A8.out) | (with_reducible exact heap_new _ _ _ (by first | rfl | (simp; done))) | (with_reducible refine keepa ?_ _) | (simp [World.setCell, Array.getElem?_modify, A1.out, A7.out, A8.out, m1, m1.symm, m2, m2.symm]; done))); done)), Lib.hid (by first | (simp [World.setCell, Array.getElem?_modify, A1.out, A7.out, A8.out, m1, m1.symm, m2, m2.symm]; done) | (simp [World.setCell, Array.getElem?_modify, A1.out, A7.out, A8.out, m1, m1.symm, m2, m2.symm]; omega) | ((repeat (first | (with_reducible exact A1.out) | (with_reducible exact A7.out) | (with_reducible exact A8.out) | (with_reducible exact heap_new _ _ _ (by first | rfl | (simp; done))) | (with_reducible refine keepa ?_ _) | (simp [World.setCell, Array.getElem?_modify, A1.out, A7.out, A8.out, m1, m1.symm, m2, m2.symm]; done))); done)), Lib.hid (by first | (simp [World.setCell, Array.getElem?_modify, A1.out, A7.out, A8.out, m1, m1.symm, m2, m2.symm]; done) | (simp [World.setCell, Array.getElem?_modify, A1.out, A7.out, A8.out, m1, m1.symm, m2, m2.symm]; omega) | ((repeat (first | (with_reducible exact A1.out) | (with_reducible exact A7.out) | (with_reducible exact A8.out) | (with_reducible exact heap_new _ _ _ (by first | rfl | (simp; done))) | (with_reducible refine keepa ?_ _) | (simp [World.setCell, Array.getElem?_modify, A1.out, A7.out, A8.out, m1, m1.symm, m2, m2.symm]; done))); done)), Lib.hid (by have hbsz := Below.size (BA.out); repeat (first | (with_reducible exact BA.out) | (with_reducible refine bel_set (by first | omega | (simp; done) | (simp; omega)) ?_) | (with_reducible refine bel_alloc (by first | omega | (simp; done) | (simp; omega)) ?_) | (with_reducible refine bel_drew ?_) | (with_reducible refine bel_drewN ?_ _))), Lib.hid (by repeat (first | (with_reducible exact O6.out) | (with_reducible refine Own.set ?_ _ _ (by first | omega | (simp; done) | (simp; omega))) | (with_reducible refine Own.alloc ?_ _) | (with_reducible refine Own.drew ?_) | (with_reducible refine Own.drewN ?_ _))), trivial⟩ ?_
          clear c_A1 f_A1 c_A7 f_A7 c_A8 f_A8
          rintro w7 ⟨A1, A7, A8, BA, FS', -⟩
          have c_A1 := cell_of_block A1.out
          have f_A1 := frozen_of_block A1.out
          have c_A7 := cell_of_block A7.out
          have f_A7 := frozen_of_block A7.out
          have c_A8 := cell_of_block A8.out
          have f_A8 := frozen_of_block A8.out
          have HP' := Lib.hid (rightSd HR'.out)
          have HRb := Lib.hid (room_bound HP'.out)
          obtain ⟨rm, hrm⟩ : ∃ rm, sdRoom S' = rm := ⟨_, rfl⟩
          have HRm := Lib.hid hrm
          have HRm2 := Lib.hid (show 0 ≤ rm ∧ rm ≤ 8 by rw [← hrm]; exact HRb.out)
          have u1 := dec_f (show ¬ 8 < (S'.fl.length : Int) by have := HP'.out.len; omega)
          have u2 := dec_f (show ¬ rm < 0 by have := HRm2.out; omega)
          have u3 := dec_f (show ¬ 8 < rm by have := HRm2.out; omega)
          clear hrm
          go_wp2_with fail
          refine (sright_at S'.next _ S'.cwnd S'.acc S'.fl true _ FS'.out.sl (by have := HP'.out.n1; omega) HR'.out).mono ?_; rintro e wp ⟨rfl, BP⟩
          replace A1 := Lib.hid (keepb A1.out BP.out)
          replace c_A1 := cell_of_block A1.out
          replace f_A1 := frozen_of_block A1.out
          replace A7 := Lib.hid (keepb A7.out BP.out)
          replace c_A7 := cell_of_block A7.out
          replace f_A7 := frozen_of_block A7.out
          replace A8 := Lib.hid (keepb A8.out BP.out)
          replace c_A8 := cell_of_block A8.out
          replace f_A8 := frozen_of_block A8.out
          replace BA := Lib.hid (chain BA.out BP.out)
          replace FS' := Lib.hid (FS'.out.keep BP.out)
          go_wp2_with fail
          refine (sroom_at S'.next _ S'.cwnd S'.acc S'.fl rm _ FS'.out.sl HR'.out HRm.out).mono ?_; rintro e wq ⟨rfl, BQ⟩
          replace A1 := Lib.hid (keepb A1.out BQ.out)
          replace c_A1 := cell_of_block A1.out
          replace f_A1 := frozen_of_block A1.out
          replace A7 := Lib.hid (keepb A7.out BQ.out)
          replace c_A7 := cell_of_block A7.out
          replace f_A7 := frozen_of_block A7.out
          replace A8 := Lib.hid (keepb A8.out BQ.out)
          replace c_A8 := cell_of_block A8.out
          replace f_A8 := frozen_of_block A8.out
          replace BA := Lib.hid (chain BA.out BQ.out)
          replace FS' := Lib.hid (FS'.out.keep BQ.out)
          go_wp2_with fail
          refine (sroom_at S'.next _ S'.cwnd S'.acc S'.fl rm _ FS'.out.sl HR'.out HRm.out).mono ?_; rintro e ws ⟨rfl, BS⟩
          replace A1 := Lib.hid (keepb A1.out BS.out)
          replace c_A1 := cell_of_block A1.out
          replace f_A1 := frozen_of_block A1.out
          replace A7 := Lib.hid (keepb A7.out BS.out)
          replace c_A7 := cell_of_block A7.out
          replace f_A7 := frozen_of_block A7.out
          replace A8 := Lib.hid (keepb A8.out BS.out)
          replace c_A8 := cell_of_block A8.out
          replace f_A8 := frozen_of_block A8.out
          replace BA := Lib.hid (chain BA.out BS.out)
          replace FS' := Lib.hid (FS'.out.keep BS.out)
          go_wp2_with fail
          go_roundw
          case rel => exact ⟨k + 1, S', _, _, by omega, by go_num, A1.out, FS'.out.sl, HR'.out, BA.out⟩
          case measure => simp [intOf]; omega
        · have z0 : (x.do_ == 0) = false := by simp; omega
          have z1 : (x.do_ == 1) = false := by simp; omega
          have z2 : (x.do_ == 2) = false := by simp; omega
          have z3 : (x.do_ == 3) = true := by simpa using hd
          clear hd
          obtain ⟨S', hS'⟩ : ∃ S', S' = sdLost S := ⟨_, rfl⟩
          have HR' := Lib.hid (show sdRight S' = true by rw [hS']; exact right_lost HR.out)
          have HSn := Lib.hid (show S'.next = S.next by rw [hS']; rfl)
          have HC := Lib.hid (slost_at S p cap w5 FS.out HR.out)
          rw [← hS'] at HC
          clear hS'
          have v1 : (S'.next != S.next) = false := by simpa using HSn.out
          go_wp2_with fail
          refine HC.out.mono ?_; rintro e w6 ⟨p6, cap6, rfl, O6, B6⟩
          replace A1 := Lib.hid (keepb A1.out B6.out)
          replace c_A1 := cell_of_block A1.out
          replace f_A1 := frozen_of_block A1.out
          replace A7 := Lib.hid (keepb A7.out B6.out)
          replace c_A7 := cell_of_block A7.out
          replace f_A7 := frozen_of_block A7.out
          replace A8 := Lib.hid (keepb A8.out B6.out)
          replace c_A8 := cell_of_block A8.out
          replace f_A8 := frozen_of_block A8.out
          replace BA := Lib.hid (chain BA.out B6.out)
          go_upto_region 31 with fail
          refine gen_wp (fun w7 => Hid (w7.heap[w.heap.size]? = some (.cells #[.int .i64 S'.next, .slice p6 S'.fl.length cap6, .int .i64 S'.cwnd, .int .i64 S'.acc] 24)) ∧ Hid (w7.heap[wr.heap.size]? = some (.cells #[.int .i64 x.do_, .int .i64 x.n, .int .i64 x.m, .int .i64 x.now, .int .i64 x.note.user, .int .i64 x.note.ver, .int .i64 x.note.stat, .int .i64 x.note.cnt] 31)) ∧ Hid (w7.heap[w4.heap.size]? = some (.cells #[.int .i64 S.next, .slice p S.fl.length cap, .int .i64 S.cwnd, .int .i64 S.acc] 24)) ∧ Hid (Below w.heap.size w w7) ∧ Hid (Own 34 7 w5.heap.size w7 (.slice p6 S'.fl.length cap6) S'.fl.length (flat Fl.cells S'.fl)) ∧ True) ⟨Lib.hid (by first | (simp [World.setCell, Array.getElem?_modify, A1.out, A7.out, A8.out, m1, m1.symm, m2, m2.symm]; done) | (simp [World.setCell, Array.getElem?_modify, A1.out, A7.out, A8.out, m1, m1.symm, m2, m2.symm]; omega) | ((repeat (first | (with_reducible exact A1.out) | (with_reducible exact A7.out) | (with_reducible exact A8.out) | (with_reducible exact heap_new _ _ _ (by first | rfl | (simp; done))) | (with_reducible refine keepa ?_ _) | (simp [World.setCell, Array.getElem?_modify, A1.out, A7.out, A8.out, m1, m1.symm, m2, m2.symm]; done))); done)), Lib.hid (by first | (simp [World.setCell, Array.getElem?_modify, A1.out, A7.out, A8.out, m1, m1.symm, m2, m2.symm]; done) | (simp [World.setCell, Array.getElem?_modify, A1.out, A7.out, A8.out, m1, m1.symm, m2, m2.symm]; omega) | ((repeat (first | (with_reducible exact A1.out) | (with_reducible exact A7.out) | (with_reducible exact A8.out) | (with_reducible exact heap_new _ _ _ (by first | rfl | (simp; done))) | (with_reducible refine keepa ?_ _) | (simp [World.setCell, Array.getElem?_modify, A1.out, A7.out, A8.out, m1, m1.symm, m2, m2.symm]; done))); done)), Lib.hid (by first | (simp [World.setCell, Array.getElem?_modify, A1.out, A7.out, A8.out, m1, m1.symm, m2, m2.symm]; done) | (simp [World.setCell, Array.getElem?_modify, A1.out, A7.out, A8.out, m1, m1.symm, m2, m2.symm]; omega) | ((repeat (first | (with_reducible exact A1.out) | (with_reducible exact A7.out) | (with_reducible exact A8.out) | (with_reducible exact heap_new _ _ _ (by first | rfl | (simp; done))) | (with_reducible refine keepa ?_ _) | (simp [World.setCell, Array.getElem?_modify, A1.out, A7.out, A8.out, m1, m1.symm, m2, m2.symm]; done))); done)), Lib.hid (by have hbsz := Below.size (BA.out); repeat (first | (with_reducible exact BA.out) | (with_reducible refine bel_set (by first | omega | (simp; done) | (simp; omega)) ?_) | (with_reducible refine bel_alloc (by first | omega | (simp; done) | (simp; omega)) ?_) | (with_reducible refine bel_drew ?_) | (with_reducible refine bel_drewN ?_ _))), Lib.hid (by repeat (first | (with_reducible exact O6.out) | (with_reducible refine Own.set ?_ _ _ (by first | omega | (simp; done) | (simp; omega))) | (with_reducible refine Own.alloc ?_ _) | (with_reducible refine Own.drew ?_) | (with_reducible refine Own.drewN ?_ _))), trivial⟩ ?_
          clear c_A1 f_A1 c_A7 f_A7 c_A8 f_A8
          rintro w7 ⟨A1, A7, A8, BA, FS', -⟩
          have c_A1 := cell_of_block A1.out
          have f_A1 := frozen_of_block A1.out
          have c_A7 := cell_of_block A7.out
          have f_A7 := frozen_of_block A7.out
          have c_A8 := cell_of_block A8.out
          have f_A8 := frozen_of_block A8.out
          have HP' := Lib.hid (rightSd HR'.out)
          have HRb := Lib.hid (room_bound HP'.out)
          obtain ⟨rm, hrm⟩ : ∃ rm, sdRoom S' = rm := ⟨_, rfl⟩
          have HRm := Lib.hid hrm
          have HRm2 := Lib.hid (show 0 ≤ rm ∧ rm ≤ 8 by rw [← hrm]; exact HRb.out)
          have u1 := dec_f (show ¬ 8 < (S'.fl.length : Int) by have := HP'.out.len; omega)
          have u2 := dec_f (show ¬ rm < 0 by have := HRm2.out; omega)
          have u3 := dec_f (show ¬ 8 < rm by have := HRm2.out; omega)
          clear hrm
          go_wp2_with fail
          refine (sright_at S'.next _ S'.cwnd S'.acc S'.fl true _ FS'.out.sl (by have := HP'.out.n1; omega) HR'.out).mono ?_; rintro e wp ⟨rfl, BP⟩
          replace A1 := Lib.hid (keepb A1.out BP.out)
          replace c_A1 := cell_of_block A1.out
          replace f_A1 := frozen_of_block A1.out
          replace A7 := Lib.hid (keepb A7.out BP.out)
          replace c_A7 := cell_of_block A7.out
          replace f_A7 := frozen_of_block A7.out
          replace A8 := Lib.hid (keepb A8.out BP.out)
          replace c_A8 := cell_of_block A8.out
          replace f_A8 := frozen_of_block A8.out
          replace BA := Lib.hid (chain BA.out BP.out)
          replace FS' := Lib.hid (FS'.out.keep BP.out)
          go_wp2_with fail
          refine (sroom_at S'.next _ S'.cwnd S'.acc S'.fl rm _ FS'.out.sl HR'.out HRm.out).mono ?_; rintro e wq ⟨rfl, BQ⟩
          replace A1 := Lib.hid (keepb A1.out BQ.out)
          replace c_A1 := cell_of_block A1.out
          replace f_A1 := frozen_of_block A1.out
          replace A7 := Lib.hid (keepb A7.out BQ.out)
          replace c_A7 := cell_of_block A7.out
          replace f_A7 := frozen_of_block A7.out
          replace A8 := Lib.hid (keepb A8.out BQ.out)
          replace c_A8 := cell_of_block A8.out
          replace f_A8 := frozen_of_block A8.out
          replace BA := Lib.hid (chain BA.out BQ.out)
          replace FS' := Lib.hid (FS'.out.keep BQ.out)
          go_wp2_with fail
          refine (sroom_at S'.next _ S'.cwnd S'.acc S'.fl rm _ FS'.out.sl HR'.out HRm.out).mono ?_; rintro e ws ⟨rfl, BS⟩
          replace A1 := Lib.hid (keepb A1.out BS.out)
          replace c_A1 := cell_of_block A1.out
          replace f_A1 := frozen_of_block A1.out
          replace A7 := Lib.hid (keepb A7.out BS.out)
          replace c_A7 := cell_of_block A7.out
          replace f_A7 := frozen_of_block A7.out
          replace A8 := Lib.hid (keepb A8.out BS.out)
          replace c_A8 := cell_of_block A8.out
          replace f_A8 := frozen_of_block A8.out
          replace BA := Lib.hid (chain BA.out BS.out)
          replace FS' := Lib.hid (FS'.out.keep BS.out)
          go_wp2_with fail
          go_roundw
          case rel => exact ⟨k + 1, S', _, _, by omega, by go_num, A1.out, FS'.out.sl, HR'.out, BA.out⟩
          case measure => simp [intOf]; omega
        · have z0 : (x.do_ == 0) = false := by simpa using hd0
          have z1 : (x.do_ == 1) = false := by simpa using hd1
          have z2 : (x.do_ == 2) = false := by simpa using hd2
          have z3 : (x.do_ == 3) = false := by simpa using hd3
          clear hd0 hd1 hd2 hd3
          obtain ⟨S', hS'⟩ : ∃ S', S' = sdVoid S x.n := ⟨_, rfl⟩
          have HR' := Lib.hid (show sdRight S' = true by rw [hS']; exact right_void HR.out)
          have HSn := Lib.hid (show S'.next = S.next by rw [hS']; rfl)
          have HC := Lib.hid (svoid_any S.next (.slice p S.fl.length cap) S.cwnd S.acc S.fl x.n w5 FS.out (by have := HP.out.len; omega))
          rw [show (Sd.mk S.next S.fl S.cwnd S.acc) = S from rfl, ← hS'] at HC
          clear hS'
          have v1 : (S'.next != S.next) = false := by simpa using HSn.out
          go_wp2_with fail
          refine HC.out.mono ?_; rintro e w6 ⟨p6, cap6, rfl, O6, B6⟩
          replace A1 := Lib.hid (keepb A1.out B6.out)
          replace c_A1 := cell_of_block A1.out
          replace f_A1 := frozen_of_block A1.out
          replace A7 := Lib.hid (keepb A7.out B6.out)
          replace c_A7 := cell_of_block A7.out
          replace f_A7 := frozen_of_block A7.out
          replace A8 := Lib.hid (keepb A8.out B6.out)
          replace c_A8 := cell_of_block A8.out
          replace f_A8 := frozen_of_block A8.out
          replace BA := Lib.hid (chain BA.out B6.out)
          go_upto_region 31 with fail
          refine gen_wp (fun w7 => Hid (w7.heap[w.heap.size]? = some (.cells #[.int .i64 S'.next, .slice p6 S'.fl.length cap6, .int .i64 S'.cwnd, .int .i64 S'.acc] 24)) ∧ Hid (w7.heap[wr.heap.size]? = some (.cells #[.int .i64 x.do_, .int .i64 x.n, .int .i64 x.m, .int .i64 x.now, .int .i64 x.note.user, .int .i64 x.note.ver, .int .i64 x.note.stat, .int .i64 x.note.cnt] 31)) ∧ Hid (w7.heap[w4.heap.size]? = some (.cells #[.int .i64 S.next, .slice p S.fl.length cap, .int .i64 S.cwnd, .int .i64 S.acc] 24)) ∧ Hid (Below w.heap.size w w7) ∧ Hid (Own 34 7 w5.heap.size w7 (.slice p6 S'.fl.length cap6) S'.fl.length (flat Fl.cells S'.fl)) ∧ True) ⟨Lib.hid (by first | (simp [World.setCell, Array.getElem?_modify, A1.out, A7.out, A8.out, m1, m1.symm, m2, m2.symm]; done) | (simp [World.setCell, Array.getElem?_modify, A1.out, A7.out, A8.out, m1, m1.symm, m2, m2.symm]; omega) | ((repeat (first | (with_reducible exact A1.out) | (with_reducible exact A7.out) | (with_reducible exact A8.out) | (with_reducible exact heap_new _ _ _ (by first | rfl | (simp; done))) | (with_reducible refine keepa ?_ _) | (simp [World.setCell, Array.getElem?_modify, A1.out, A7.out, A8.out, m1, m1.symm, m2, m2.symm]; done))); done)), Lib.hid (by first | (simp [World.setCell, Array.getElem?_modify, A1.out, A7.out, A8.out, m1, m1.symm, m2, m2.symm]; done) | (simp [World.setCell, Array.getElem?_modify, A1.out, A7.out, A8.out, m1, m1.symm, m2, m2.symm]; omega) | ((repeat (first | (with_reducible exact A1.out) | (with_reducible exact A7.out) | (with_reducible exact A8.out) | (with_reducible exact heap_new _ _ _ (by first | rfl | (simp; done))) | (with_reducible refine keepa ?_ _) | (simp [World.setCell, Array.getElem?_modify, A1.out, A7.out, A8.out, m1, m1.symm, m2, m2.symm]; done))); done)), Lib.hid (by first | (simp [World.setCell, Array.getElem?_modify, A1.out, A7.out, A8.out, m1, m1.symm, m2, m2.symm]; done) | (simp [World.setCell, Array.getElem?_modify, A1.out, A7.out, A8.out, m1, m1.symm, m2, m2.symm]; omega) | ((repeat (first | (with_reducible exact A1.out) | (with_reducible exact A7.out) | (with_reducible exact A8.out) | (with_reducible exact heap_new _ _ _ (by first | rfl | (simp; done))) | (with_reducible refine keepa ?_ _) | (simp [World.setCell, Array.getElem?_modify, A1.out, A7.out, A8.out, m1, m1.symm, m2, m2.symm]; done))); done)), Lib.hid (by have hbsz := Below.size (BA.out); repeat (first | (with_reducible exact BA.out) | (with_reducible refine bel_set (by first | omega | (simp; done) | (simp; omega)) ?_) | (with_reducible refine bel_alloc (by first | omega | (simp; done) | (simp; omega)) ?_) | (with_reducible refine bel_drew ?_) | (with_reducible refine bel_drewN ?_ _))), Lib.hid (by repeat (first | (with_reducible exact O6.out) | (with_reducible refine Own.set ?_ _ _ (by first | omega | (simp; done) | (simp; omega))) | (with_reducible refine Own.alloc ?_ _) | (with_reducible refine Own.drew ?_) | (with_reducible refine Own.drewN ?_ _))), trivial⟩ ?_
          clear c_A1 f_A1 c_A7 f_A7 c_A8 f_A8
          rintro w7 ⟨A1, A7, A8, BA, FS', -⟩
          have c_A1 := cell_of_block A1.out
          have f_A1 := frozen_of_block A1.out
          have c_A7 := cell_of_block A7.out
          have f_A7 := frozen_of_block A7.out
          have c_A8 := cell_of_block A8.out
          have f_A8 := frozen_of_block A8.out
          have HP' := Lib.hid (rightSd HR'.out)
          have HRb := Lib.hid (room_bound HP'.out)
          obtain ⟨rm, hrm⟩ : ∃ rm, sdRoom S' = rm := ⟨_, rfl⟩
          have HRm := Lib.hid hrm
          have HRm2 := Lib.hid (show 0 ≤ rm ∧ rm ≤ 8 by rw [← hrm]; exact HRb.out)
          have u1 := dec_f (show ¬ 8 < (S'.fl.length : Int) by have := HP'.out.len; omega)
          have u2 := dec_f (show ¬ rm < 0 by have := HRm2.out; omega)
          have u3 := dec_f (show ¬ 8 < rm by have := HRm2.out; omega)
          clear hrm
          go_wp2_with fail
          refine (sright_at S'.next _ S'.cwnd S'.acc S'.fl true _ FS'.out.sl (by have := HP'.out.n1; omega) HR'.out).mono ?_; rintro e wp ⟨rfl, BP⟩
          replace A1 := Lib.hid (keepb A1.out BP.out)
          replace c_A1 := cell_of_block A1.out
          replace f_A1 := frozen_of_block A1.out
          replace A7 := Lib.hid (keepb A7.out BP.out)
          replace c_A7 := cell_of_block A7.out
          replace f_A7 := frozen_of_block A7.out
          replace A8 := Lib.hid (keepb A8.out BP.out)
          replace c_A8 := cell_of_block A8.out
          replace f_A8 := frozen_of_block A8.out
          replace BA := Lib.hid (chain BA.out BP.out)
          replace FS' := Lib.hid (FS'.out.keep BP.out)
          go_wp2_with fail
          refine (sroom_at S'.next _ S'.cwnd S'.acc S'.fl rm _ FS'.out.sl HR'.out HRm.out).mono ?_; rintro e wq ⟨rfl, BQ⟩
          replace A1 := Lib.hid (keepb A1.out BQ.out)
          replace c_A1 := cell_of_block A1.out
          replace f_A1 := frozen_of_block A1.out
          replace A7 := Lib.hid (keepb A7.out BQ.out)
          replace c_A7 := cell_of_block A7.out
          replace f_A7 := frozen_of_block A7.out
          replace A8 := Lib.hid (keepb A8.out BQ.out)
          replace c_A8 := cell_of_block A8.out
          replace f_A8 := frozen_of_block A8.out
          replace BA := Lib.hid (chain BA.out BQ.out)
          replace FS' := Lib.hid (FS'.out.keep BQ.out)
          go_wp2_with fail
          refine (sroom_at S'.next _ S'.cwnd S'.acc S'.fl rm _ FS'.out.sl HR'.out HRm.out).mono ?_; rintro e ws ⟨rfl, BS⟩
          replace A1 := Lib.hid (keepb A1.out BS.out)
          replace c_A1 := cell_of_block A1.out
          replace f_A1 := frozen_of_block A1.out
          replace A7 := Lib.hid (keepb A7.out BS.out)
          replace c_A7 := cell_of_block A7.out
          replace f_A7 := frozen_of_block A7.out
          replace A8 := Lib.hid (keepb A8.out BS.out)
          replace c_A8 := cell_of_block A8.out
          replace f_A8 := frozen_of_block A8.out
          replace BA := Lib.hid (chain BA.out BS.out)
          replace FS' := Lib.hid (FS'.out.keep BS.out)
          go_wp2_with fail
          go_roundw
          case rel => exact ⟨k + 1, S', _, _, by omega, by go_num, A1.out, FS'.out.sl, HR'.out, BA.out⟩
          case measure => simp [intOf]; omega
      · have hke : k = la.length := by omega
        subst hke
        have t1 : decide ((la.length : Int) < (la.length : Int)) = false := by simp
        go_wp2_with fail
        go_ret
        exact ⟨rfl, BA.out⟩

end Go.Proofs.Ytmhfbngielihcaa.lawSendRight
namespace Go.Proofs.Ytmhfbngielihcaa.lawSendRight
open Go.ChangeShapes Go.WideShapes Go.RowKit
set_option linter.unusedVariables false
theorem own : ownKnob Try.prog.godebug = none := by kernel_rfl
theorem laidOut : laidOutB Try.prog = true := by kernel_rfl
set_option maxRecDepth 100000 in
theorem lifted (os : Os) (started : os.Started) (H : Type) (enc : TypeId × Value → H) :
    ReturnsInHanded {} Try.checked os 3 .any (Rows.sendRightSpec.pre6 enc Try.prog Try.f3 Rows.sendRightRow.domain false) (Rows.sendRightSpec.post enc Try.prog Try.f3 false true false false) := by
  refine returnsInHanded_of_change (C := Try.checked) own started (by kernel_rfl) Try.func3
    (ChangeSpec.witness6 (enc := enc) (C := Try.checked) false ⟨#[], #[.agg #[.int .i64 0, .slice none 0 0, .int .i64 0, .int .i64 0], .slice none 0 0], []⟩ 8 (by kernel_rfl) (by kernel_rfl) (by kernel_rfl) (by kernel_rfl)) ?_
  intro W base args ds gs before hval0 hW hcnd _
  have hval : ∀ (j : Nat) t v, Try.f3.params[j]? = some t → args[j]? = some v → Value.okWide Try.prog W .any base t v := hval0
  have hW' := hW
  obtain ⟨p, q, hA0, hV, rfl, hfz, hnd⟩ := hW
  have hA : DataW.TrodAll enc Try.prog W 0 (fun _ => true) true Try.f3.params.toList args.toList ds p := hA0
  rw [Try.params3] at hA hval
  obtain ⟨v0, vs0, d0, ds0, p0, q0, hargs, rfl, rfl, h0, r0⟩ := trodAll_cons hA
  obtain ⟨v1, vs1, d1, ds1, p1, q1, rfl, rfl, rfl, h1, r1⟩ := trodAll_cons r0
  obtain ⟨rfl, rfl, rfl⟩ := trodAll_nil r1
  obtain rfl : args = #[v0, v1] := by cases args; simp_all
  obtain ⟨rfl, rfl⟩ := trodVars_none hV
  obtain ⟨n0, u0, c0, b0, z0, rfl, f0, w0, -, -⟩ := K.open_sd_arg (hval 0 24 v0 rfl rfl) h0
  have k0 := h0
  have lt0 : ∀ x ∈ p0, x.block < W.heap.size := by obtain ⟨m, hm⟩ := k0; exact DataW.trod_lt m _ _ _ hm
  obtain ⟨a1, len1, cap1, rfl⟩ := okWide_slice Try.underlying25 (hval 1 25 v1 rfl rfl)
  have k1 := h1
  have lt1 : ∀ x ∈ p1, x.block < W.heap.size := by obtain ⟨m, hm⟩ := k1; exact DataW.trod_lt m _ _ _ hm
  obtain ⟨z1, _, w1⟩ : ∃ l : List Nj.Ac, l.length = len1 ∧ Nj.Acs W (.slice a1 len1 cap1) l := by
    obtain ⟨fuel, hf⟩ := h1
    exact K.open_acs hf
  clear hA0 hval0
  refine (walk n0 u0 c0 b0 z0 _ z1 W f0 w0 w1).mono fun e W' ⟨he, bel⟩ => ?_
  subst he
  exact ⟨_, rfl, _, _, _, [], _, [], hW', trodAll_mk1 (shut_bool Try.underlying4 _), (trodAll_cons_mk (Below.trod laidOut (by kernel_rfl) (of_decide_eq_true (by kernel_rfl)) k0 bel lt0) (trodAll_cons_mk (Below.trod laidOut (by kernel_rfl) (of_decide_eq_true (by kernel_rfl)) k1 bel lt1) trodAll_mk0)), rfl, bel.frame _, fun h => by cases h⟩
theorem over : Rows.sendRightRow.holds Try.pinned (OpenSpec.ofChange Rows.sendRightSpec) :=
  OpenClaim.holds_of_wide 3 Try.f3 rfl rfl rfl rfl rfl rfl rfl ⟨rfl, rfl, rfl, rfl, rfl⟩ rfl rfl rfl rfl rfl (by kernel_rfl) Try.func3 (by kernel_rfl)
    (of_decide_eq_true (by kernel_rfl)) (by unfold Func.isWrapper; first | (rw [if_pos (by decide +kernel)]; kernel_rfl) | (rw [if_neg (by decide +kernel)]; exact ⟨rfl, rfl⟩))
    (fun os started H enc _ => lifted os started H enc)
/-- THE STATEMENT -/
theorem proved : Rows.SendRightSaid := over
end Go.Proofs.Ytmhfbngielihcaa.lawSendRight
#print axioms Go.Proofs.Ytmhfbngielihcaa.lawSendRight.proved

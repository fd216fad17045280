/-
  CONTRACT of nightjarref11.Push.
-/
import Derived.Test.YteilgibfmljoeaaSendRef4
set_option linter.unusedVariables false
set_option linter.unusedSimpArgs false
namespace Nj
open Go Go.RowKit
/-- an own slice does not lie in a block of another type -/
theorem Own.apart {E : TypeId} {sz B : Nat} {w : World} {v : Value} {n : Nat} {cells : List Value} (h : Own E sz B w v n cells) {b : Nat} {cs : Array Value} {T : TypeId} (hb : w.heap[b]? = some (.cells cs T)) (hT : T ≠ E) : ∀ g, v.ownBlock = some g → g ≠ b := by
  obtain ⟨hl, h | ⟨g, cap, cur, rfl, hg, hh, r⟩⟩ := h
  · obtain ⟨rfl, _⟩ := h; intro g hg; cases hg
  · intro g' hg' e
    simp [Value.ownBlock] at hg'
    subst hg' e
    rw [hb] at hh
    simp only [Option.some.injEq, Obj.cells.injEq] at hh
    exact hT hh.2.1
theorem Own.set_apart {E : TypeId} {sz B : Nat} {w : World} {v : Value} {n : Nat} {cells : List Value} {b : Nat} (h : Own E sz B w v n cells) (hne : ∀ g, v.ownBlock = some g → g ≠ b) (o : Nat) (u : Value) : Own E sz B (w.setCell ⟨b, o, none⟩ u) v n cells :=
  Own.kept (row := some b) h (fun b' o' hb hk => by rw [heap_set_other (hk _ rfl)]; exact hb) (fun g hg k hk => by cases hk; exact hne g hg)
end Nj
namespace Go.Proofs.Yteilgibfmljoeaa.K
open Go Go.RowKit Nj

set_option maxHeartbeats 2000000 in
theorem rpush_any (n : Int) (v : Value) (c a : Int) (l : List Fl) (nt : Nt) (now : Int) (w : World) (h : Fls w v l) (hR : sdRight ⟨n, l, c, a⟩ = true)
    (s : Sd) (f : Fl) (ok : Bool) (hr : sdPush ⟨n, l, c, a⟩ nt now = (s, f, ok)) :
    Calls Try.prog 59 #[.agg #[.int .i64 n, v, .int .i64 c, .int .i64 a], .agg #[.int .i64 nt.user, .int .i64 nt.ver, .int .i64 nt.stat, .int .i64 nt.cnt], .int .i64 now] w (RetSd3 w s f ok) := by
  have FS := Lib.hid h
  have HR := Lib.hid hR
  have HP := Lib.hid (rightSd hR)
  have hl8 : l.length ≤ 8 := HP.out.len
  have hn0 : 1 ≤ n := HP.out.n0
  have hn1 : n ≤ 1073741824 := HP.out.n1
  obtain ⟨r, hrm⟩ : ∃ r, sdRoom ⟨n, l, c, a⟩ = r := ⟨_, rfl⟩
  have HRm := Lib.hid hrm
  have HE := Lib.hid hr
  clear h hR hr hrm
  go_enter Try.func59, Try.ntmps59
  go_upto_region 1 with fail
  simp only [Nat.add_assoc, Nat.reduceAdd]
  refine gen_wp (fun w1 => Hid (w1.heap[w.heap.size]? = some (.cells #[.int .i64 n, v, .int .i64 c, .int .i64 a] 24)) ∧ Hid (w1.heap[(w.heap.size + 1)]? = some (.cells #[.int .i64 nt.user, .int .i64 nt.ver, .int .i64 nt.stat, .int .i64 nt.cnt] 38)) ∧ Hid (w1.heap[(w.heap.size + 2)]? = some (.cells #[.int .i64 0, .slice none 0 0, .int .i64 0, .int .i64 0] 24)) ∧ Hid (w1.heap[(w.heap.size + 3)]? = some (.cells #[.int .i64 0, .int .i64 0, .int .i64 0, .int .i64 0, .int .i64 0, .int .i64 0, .int .i64 0] 40)) ∧ Hid (Below w.heap.size w w1) ∧ Hid (w1.heap.size = w.heap.size + 4) ∧ True) ⟨Lib.hid (by first | (simp [World.setCell, Array.getElem?_modify]; done) | (simp [World.setCell, Array.getElem?_modify]; omega) | ((repeat (first | (with_reducible exact heap_new _ _ _ (by first | rfl | (simp; done))) | (with_reducible refine keepa ?_ _) | (simp [World.setCell, Array.getElem?_modify]; done))); done)), Lib.hid (by first | (simp [World.setCell, Array.getElem?_modify]; done) | (simp [World.setCell, Array.getElem?_modify]; omega) | ((repeat (first | (with_reducible exact heap_new _ _ _ (by first | rfl | (simp; done))) | (with_reducible refine keepa ?_ _) | (simp [World.setCell, Array.getElem?_modify]; done))); done)), Lib.hid (by first | (simp [World.setCell, Array.getElem?_modify]; done) | (simp [World.setCell, Array.getElem?_modify]; omega) | ((repeat (first | (with_reducible exact heap_new _ _ _ (by first | rfl | (simp; done))) | (with_reducible refine keepa ?_ _) | (simp [World.setCell, Array.getElem?_modify]; done))); done)), Lib.hid (by first | (simp [World.setCell, Array.getElem?_modify]; done) | (simp [World.setCell, Array.getElem?_modify]; omega) | ((repeat (first | (with_reducible exact heap_new _ _ _ (by first | rfl | (simp; done))) | (with_reducible refine keepa ?_ _) | (simp [World.setCell, Array.getElem?_modify]; done))); done)), Lib.hid (by (repeat (first | (with_reducible exact Below.refl _ _) | (with_reducible refine bel_set (by first | omega | (simp; done) | (simp; omega)) ?_) | (with_reducible refine bel_alloc (by first | omega | (simp; done) | (simp; omega)) ?_) | (with_reducible refine bel_drew ?_) | (with_reducible refine bel_drewN ?_ _))); first | done | fail "left"), Lib.hid (by simp), trivial⟩ ?_
  rintro w1 ⟨A1, A2, A3, A4, BA, SZ, -⟩
  have c_A1 := cell_of_block A1.out
  have f_A1 := frozen_of_block A1.out
  have c_A2 := cell_of_block A2.out
  have f_A2 := frozen_of_block A2.out
  have c_A3 := cell_of_block A3.out
  have f_A3 := frozen_of_block A3.out
  have c_A4 := cell_of_block A4.out
  have f_A4 := frozen_of_block A4.out
  replace FS := fls_keep FS BA
  go_wp2_with fail
  refine (rcopied_any n v c a l _ FS.out (by omega)).mono ?_; rintro e w2 ⟨p1, cap1, rfl, O2, B2⟩
  replace A1 := Lib.hid (keepb A1.out B2.out)
  replace c_A1 := cell_of_block A1.out
  replace f_A1 := frozen_of_block A1.out
  replace A2 := Lib.hid (keepb A2.out B2.out)
  replace c_A2 := cell_of_block A2.out
  replace f_A2 := frozen_of_block A2.out
  replace A3 := Lib.hid (keepb A3.out B2.out)
  replace c_A3 := cell_of_block A3.out
  replace f_A3 := frozen_of_block A3.out
  replace A4 := Lib.hid (keepb A4.out B2.out)
  replace c_A4 := cell_of_block A4.out
  replace f_A4 := frozen_of_block A4.out
  replace BA := Lib.hid (chain BA.out B2.out)
  replace FS := fls_keep FS B2
  replace O2 := Lib.hid (show Own 40 7 (w.heap.size + 4) w2 (.slice p1 l.length cap1) l.length (flat Fl.cells l) by rw [← SZ.out]; exact O2.out)
  have SZ2 := Lib.hid (show w.heap.size + 4 ≤ w2.heap.size by have := B2.out.size; have := SZ.out; omega)
  have HLt := Lib.hid O2.out.lt
  go_upto_region 2 with fail
  refine gen_wp (fun w3 => Hid (Below w2.heap.size w2 w3) ∧ Hid (w3.heap[w2.heap.size]? = some (.cells #[.int .i64 n, .slice p1 l.length cap1, .int .i64 c, .int .i64 a] 24)) ∧ True) ⟨Lib.hid (by (repeat (first | (with_reducible exact Below.refl _ _) | (with_reducible refine bel_set (by first | omega | (simp; done) | (simp; omega)) ?_) | (with_reducible refine bel_alloc (by first | omega | (simp; done) | (simp; omega)) ?_) | (with_reducible refine bel_drew ?_) | (with_reducible refine bel_drewN ?_ _))); first | done | fail "left"), Lib.hid (by first | (simp [World.setCell, Array.getElem?_modify, A1.out, A2.out, A3.out, A4.out]; done) | (simp [World.setCell, Array.getElem?_modify, A1.out, A2.out, A3.out, A4.out]; omega) | ((repeat (first | (with_reducible exact A1.out) | (with_reducible exact A2.out) | (with_reducible exact A3.out) | (with_reducible exact A4.out) | (with_reducible exact heap_new _ _ _ (by first | rfl | (simp; done))) | (with_reducible refine keepa ?_ _) | (simp [World.setCell, Array.getElem?_modify, A1.out, A2.out, A3.out, A4.out]; done))); done)), trivial⟩ ?_
  clear c_A1 f_A1 c_A2 f_A2 c_A3 f_A3 c_A4 f_A4
  rintro w3 ⟨N, A9, -⟩
  have c_A9 := cell_of_block A9.out
  have f_A9 := frozen_of_block A9.out
  replace A1 := Lib.hid (keepb A1.out N.out)
  replace c_A1 := cell_of_block A1.out
  replace f_A1 := frozen_of_block A1.out
  replace A2 := Lib.hid (keepb A2.out N.out)
  replace c_A2 := cell_of_block A2.out
  replace f_A2 := frozen_of_block A2.out
  replace A3 := Lib.hid (keepb A3.out N.out)
  replace c_A3 := cell_of_block A3.out
  replace f_A3 := frozen_of_block A3.out
  replace A4 := Lib.hid (keepb A4.out N.out)
  replace c_A4 := cell_of_block A4.out
  replace f_A4 := frozen_of_block A4.out
  replace BA := Lib.hid (chain BA.out N.out)
  replace FS := fls_keep FS N
  replace O2 := Lib.hid (O2.out.keep N.out)
  clear N B2
  go_wp2_with fail
  refine (rroom_any n v c a l r _ FS.out HR.out HRm.out).mono ?_; rintro e w4 ⟨rfl, B4⟩
  replace A1 := Lib.hid (keepb A1.out B4.out)
  replace c_A1 := cell_of_block A1.out
  replace f_A1 := frozen_of_block A1.out
  replace A2 := Lib.hid (keepb A2.out B4.out)
  replace c_A2 := cell_of_block A2.out
  replace f_A2 := frozen_of_block A2.out
  replace A3 := Lib.hid (keepb A3.out B4.out)
  replace c_A3 := cell_of_block A3.out
  replace f_A3 := frozen_of_block A3.out
  replace A4 := Lib.hid (keepb A4.out B4.out)
  replace c_A4 := cell_of_block A4.out
  replace f_A4 := frozen_of_block A4.out
  replace A9 := Lib.hid (keepb A9.out B4.out)
  replace c_A9 := cell_of_block A9.out
  replace f_A9 := frozen_of_block A9.out
  replace BA := Lib.hid (chain BA.out B4.out)
  replace O2 := Lib.hid (O2.out.keep B4.out)
  have HSZ4 := Lib.hid (show w2.heap.size < w4.heap.size from block_lt A9.out)
  clear B4 FS
  by_cases h0 : r = 0
  · have HE2 := Lib.hid (show (s, f, ok) = (⟨n, l, c, a⟩, fl0, false) by rw [← HE.out]; unfold sdPush; rw [HRm.out, if_pos h0])
    have t0 : (r == 0) = true := by simpa using h0
    cases HE2.out
    have z2 := SZ2.out
    go_wp2_with fail
    (try go_region)
    (try go_wp2_with fail)
    refine bodyPost_ret (v := .tuple #[.agg #[.int .i64 n, .slice p1 l.length cap1, .int .i64 c, .int .i64 a], .agg #[.int .i64 fl0.seq, .int .i64 fl0.note.user, .int .i64 fl0.note.ver, .int .i64 fl0.note.stat, .int .i64 fl0.note.cnt, .int .i64 fl0.at_, .int .i64 fl0.tries], .bool false]) (by simp [results, Try.results59, go_sem, World.setCell, Array.getElem?_modify, World.cell?, A3.out, A4.out, fl0, nt0]) rfl ⟨p1, cap1, rfl, Lib.hid ?_, Lib.hid (by have hbsz := Below.size (BA.out); (repeat (first | (with_reducible exact BA.out) | (with_reducible refine bel_set (by first | omega | (simp; done) | (simp; omega)) ?_) | (with_reducible refine bel_alloc (by first | omega | (simp; done) | (simp; omega)) ?_) | (with_reducible refine bel_drew ?_) | (with_reducible refine bel_drewN ?_ _))); first | done | fail "left")⟩
    exact Own.mono (B := w.heap.size + 4) (by (repeat (first | (with_reducible exact O2.out) | (with_reducible refine Own.set ?_ _ _ (by first | omega | (simp; done) | (simp; omega))) | (with_reducible refine Own.alloc ?_ _) | (with_reducible refine Own.drew ?_) | (with_reducible refine Own.drewN ?_ _))); first | done | fail "left") (by omega)
  · have HE2 := Lib.hid (show (s, f, ok) = (⟨n + 1, l ++ [⟨n, nt, now, 1⟩], c, a⟩, ⟨n, nt, now, 1⟩, true) by rw [← HE.out]; unfold sdPush; rw [HRm.out, if_neg h0])
    have t0 : (r == 0) = false := by simpa using h0
    go_upto_region 5 with fail
    refine gen_wp (fun w5 => Hid (Below w4.heap.size w4 w5) ∧ Hid (w5.heap[w4.heap.size]? = some (.cells #[.int .i64 n, .int .i64 nt.user, .int .i64 nt.ver, .int .i64 nt.stat, .int .i64 nt.cnt, .int .i64 now, .int .i64 1] 40)) ∧ Hid (w5.heap.size = w4.heap.size + 1) ∧ True) ⟨Lib.hid (by (repeat (first | (with_reducible exact Below.refl _ _) | (with_reducible refine bel_set (by first | omega | (simp; done) | (simp; omega)) ?_) | (with_reducible refine bel_alloc (by first | omega | (simp; done) | (simp; omega)) ?_) | (with_reducible refine bel_drew ?_) | (with_reducible refine bel_drewN ?_ _))); first | done | fail "left"), Lib.hid (by first | (simp [World.setCell, Array.getElem?_modify, A1.out, A2.out, A3.out, A4.out, A9.out]; done) | (simp [World.setCell, Array.getElem?_modify, A1.out, A2.out, A3.out, A4.out, A9.out]; omega) | ((repeat (first | (with_reducible exact A1.out) | (with_reducible exact A2.out) | (with_reducible exact A3.out) | (with_reducible exact A4.out) | (with_reducible exact A9.out) | (with_reducible exact heap_new _ _ _ (by first | rfl | (simp; done))) | (with_reducible refine keepa ?_ _) | (simp [World.setCell, Array.getElem?_modify, A1.out, A2.out, A3.out, A4.out, A9.out]; done))); done)), Lib.hid (by simp), trivial⟩ ?_
    clear c_A1 f_A1 c_A2 f_A2 c_A3 f_A3 c_A4 f_A4 c_A9 f_A9
    rintro w5 ⟨N, A10, SZ5, -⟩
    have c_A10 := cell_of_block A10.out
    have f_A10 := frozen_of_block A10.out
    replace A1 := Lib.hid (keepb A1.out N.out)
    replace c_A1 := cell_of_block A1.out
    replace f_A1 := frozen_of_block A1.out
    replace A2 := Lib.hid (keepb A2.out N.out)
    replace c_A2 := cell_of_block A2.out
    replace f_A2 := frozen_of_block A2.out
    replace A3 := Lib.hid (keepb A3.out N.out)
    replace c_A3 := cell_of_block A3.out
    replace f_A3 := frozen_of_block A3.out
    replace A4 := Lib.hid (keepb A4.out N.out)
    replace c_A4 := cell_of_block A4.out
    replace f_A4 := frozen_of_block A4.out
    replace A9 := Lib.hid (keepb A9.out N.out)
    replace c_A9 := cell_of_block A9.out
    replace f_A9 := frozen_of_block A9.out
    replace BA := Lib.hid (chain BA.out N.out)
    replace O2 := Lib.hid (O2.out.keep N.out)
    clear N
    have z2 := SZ2.out
    have z4 := HSZ4.out
    have z5 : w4.heap.size < w5.heap.size := by have := SZ5.out; omega
    have HNE := Lib.hid (show ∀ k, (Value.slice p1 l.length cap1).ownBlock = some k → w.heap.size + 4 ≤ k ∧ k < w2.heap.size from fun k hk => ⟨O2.out.block k hk, HLt.out k hk⟩)
    go_upto_region 6 with (at_builtin; refine wpList_app rfl (.tmp 24) (.tmp 26) 22 rfl (w.heap.size + 4) 40 (.agg #[.int .i64 0, .int .i64 0, .int .i64 0, .int .i64 0, .int .i64 0, .int .i64 0, .int .i64 0]) 7 56 Try.underlying22 (by kernel_rfl) rfl (by decide) w.heap.size w (Lib.hid (BA.out.alloc BA.out.size _)) (by omega) (Lib.hid (O2.out.alloc _)) rfl ⟨w5.heap.size, 0, none⟩ 1 1 rfl [.int .i64 n, .int .i64 nt.user, .int .i64 nt.ver, .int .i64 nt.stat, .int .i64 nt.cnt, .int .i64 now, .int .i64 1] rfl (Lib.hid (news_new (heap_new _ _ _ rfl))) (by simp [Value.oneCell']) (by omega) (by omega) (by simp; omega) ?_; intro p2 cap2 w6 hc2 HO6 HB6 HK6; replace A1 := Lib.hid (HK6.out _ _ (keepa A1.out _) (fun k hk => by have := HNE.out k hk; omega)); replace c_A1 := cell_of_block A1.out; replace f_A1 := frozen_of_block A1.out; replace A2 := Lib.hid (HK6.out _ _ (keepa A2.out _) (fun k hk => by have := HNE.out k hk; omega)); replace c_A2 := cell_of_block A2.out; replace f_A2 := frozen_of_block A2.out; replace A3 := Lib.hid (HK6.out _ _ (keepa A3.out _) (fun k hk => by have := HNE.out k hk; omega)); replace c_A3 := cell_of_block A3.out; replace f_A3 := frozen_of_block A3.out; replace A4 := Lib.hid (HK6.out _ _ (keepa A4.out _) (fun k hk => by have := HNE.out k hk; omega)); replace c_A4 := cell_of_block A4.out; replace f_A4 := frozen_of_block A4.out; replace A9 := Lib.hid (HK6.out _ _ (keepa A9.out _) (fun k hk => by have := HNE.out k hk; omega)); replace c_A9 := cell_of_block A9.out; replace f_A9 := frozen_of_block A9.out; replace A10 := Lib.hid (HK6.out _ _ (keepa A10.out _) (fun k hk => by have := HNE.out k hk; omega)); replace c_A10 := cell_of_block A10.out; replace f_A10 := frozen_of_block A10.out)
    have m1 : w.heap.size ≠ w2.heap.size := by omega
    have m2 : w.heap.size + 2 ≠ w2.heap.size := by omega
    have m3 : w.heap.size + 3 ≠ w2.heap.size := by omega
    have m4 : w4.heap.size ≠ w2.heap.size := by omega
    have HAp := Lib.hid (HO6.out.apart A9.out (by decide))
    refine gen_wp (fun w7 => Hid (w7.heap[w2.heap.size]? = some (.cells #[.int .i64 n, .slice p2 (l.length + 1) cap2, .int .i64 c, .int .i64 a] 24)) ∧ Hid (w7.heap[w.heap.size]? = some (.cells #[.int .i64 n, v, .int .i64 c, .int .i64 a] 24)) ∧ Hid (w7.heap[(w.heap.size + 2)]? = some (.cells #[.int .i64 0, .slice none 0 0, .int .i64 0, .int .i64 0] 24)) ∧ Hid (w7.heap[(w.heap.size + 3)]? = some (.cells #[.int .i64 0, .int .i64 0, .int .i64 0, .int .i64 0, .int .i64 0, .int .i64 0, .int .i64 0] 40)) ∧ Hid (w7.heap[w4.heap.size]? = some (.cells #[.int .i64 n, .int .i64 nt.user, .int .i64 nt.ver, .int .i64 nt.stat, .int .i64 nt.cnt, .int .i64 now, .int .i64 1] 40)) ∧ Hid (Below w.heap.size w w7) ∧ Hid (Own 40 7 (w.heap.size + 4) w7 (.slice p2 (l.length + 1) cap2) (l.length + 1) (flat Fl.cells l ++ [.int .i64 n, .int .i64 nt.user, .int .i64 nt.ver, .int .i64 nt.stat, .int .i64 nt.cnt, .int .i64 now, .int .i64 1])) ∧ True) ⟨Lib.hid (by first | (simp [World.setCell, Array.getElem?_modify, A1.out, A2.out, A3.out, A4.out, A9.out, A10.out, m1, m1.symm, m2, m2.symm, m3, m3.symm, m4, m4.symm]; done) | (simp [World.setCell, Array.getElem?_modify, A1.out, A2.out, A3.out, A4.out, A9.out, A10.out, m1, m1.symm, m2, m2.symm, m3, m3.symm, m4, m4.symm]; omega) | ((repeat (first | (with_reducible exact A1.out) | (with_reducible exact A2.out) | (with_reducible exact A3.out) | (with_reducible exact A4.out) | (with_reducible exact A9.out) | (with_reducible exact A10.out) | (with_reducible exact heap_new _ _ _ (by first | rfl | (simp; done))) | (with_reducible refine keepa ?_ _) | (simp [World.setCell, Array.getElem?_modify, A1.out, A2.out, A3.out, A4.out, A9.out, A10.out, m1, m1.symm, m2, m2.symm, m3, m3.symm, m4, m4.symm]; done))); done)), Lib.hid (by first | (simp [World.setCell, Array.getElem?_modify, A1.out, A2.out, A3.out, A4.out, A9.out, A10.out, m1, m1.symm, m2, m2.symm, m3, m3.symm, m4, m4.symm]; done) | (simp [World.setCell, Array.getElem?_modify, A1.out, A2.out, A3.out, A4.out, A9.out, A10.out, m1, m1.symm, m2, m2.symm, m3, m3.symm, m4, m4.symm]; omega) | ((repeat (first | (with_reducible exact A1.out) | (with_reducible exact A2.out) | (with_reducible exact A3.out) | (with_reducible exact A4.out) | (with_reducible exact A9.out) | (with_reducible exact A10.out) | (with_reducible exact heap_new _ _ _ (by first | rfl | (simp; done))) | (with_reducible refine keepa ?_ _) | (simp [World.setCell, Array.getElem?_modify, A1.out, A2.out, A3.out, A4.out, A9.out, A10.out, m1, m1.symm, m2, m2.symm, m3, m3.symm, m4, m4.symm]; done))); done)), Lib.hid (by first | (simp [World.setCell, Array.getElem?_modify, A1.out, A2.out, A3.out, A4.out, A9.out, A10.out, m1, m1.symm, m2, m2.symm, m3, m3.symm, m4, m4.symm]; done) | (simp [World.setCell, Array.getElem?_modify, A1.out, A2.out, A3.out, A4.out, A9.out, A10.out, m1, m1.symm, m2, m2.symm, m3, m3.symm, m4, m4.symm]; omega) | ((repeat (first | (with_reducible exact A1.out) | (with_reducible exact A2.out) | (with_reducible exact A3.out) | (with_reducible exact A4.out) | (with_reducible exact A9.out) | (with_reducible exact A10.out) | (with_reducible exact heap_new _ _ _ (by first | rfl | (simp; done))) | (with_reducible refine keepa ?_ _) | (simp [World.setCell, Array.getElem?_modify, A1.out, A2.out, A3.out, A4.out, A9.out, A10.out, m1, m1.symm, m2, m2.symm, m3, m3.symm, m4, m4.symm]; done))); done)), Lib.hid (by first | (simp [World.setCell, Array.getElem?_modify, A1.out, A2.out, A3.out, A4.out, A9.out, A10.out, m1, m1.symm, m2, m2.symm, m3, m3.symm, m4, m4.symm]; done) | (simp [World.setCell, Array.getElem?_modify, A1.out, A2.out, A3.out, A4.out, A9.out, A10.out, m1, m1.symm, m2, m2.symm, m3, m3.symm, m4, m4.symm]; omega) | ((repeat (first | (with_reducible exact A1.out) | (with_reducible exact A2.out) | (with_reducible exact A3.out) | (with_reducible exact A4.out) | (with_reducible exact A9.out) | (with_reducible exact A10.out) | (with_reducible exact heap_new _ _ _ (by first | rfl | (simp; done))) | (with_reducible refine keepa ?_ _) | (simp [World.setCell, Array.getElem?_modify, A1.out, A2.out, A3.out, A4.out, A9.out, A10.out, m1, m1.symm, m2, m2.symm, m3, m3.symm, m4, m4.symm]; done))); done)), Lib.hid (by first | (simp [World.setCell, Array.getElem?_modify, A1.out, A2.out, A3.out, A4.out, A9.out, A10.out, m1, m1.symm, m2, m2.symm, m3, m3.symm, m4, m4.symm]; done) | (simp [World.setCell, Array.getElem?_modify, A1.out, A2.out, A3.out, A4.out, A9.out, A10.out, m1, m1.symm, m2, m2.symm, m3, m3.symm, m4, m4.symm]; omega) | ((repeat (first | (with_reducible exact A1.out) | (with_reducible exact A2.out) | (with_reducible exact A3.out) | (with_reducible exact A4.out) | (with_reducible exact A9.out) | (with_reducible exact A10.out) | (with_reducible exact heap_new _ _ _ (by first | rfl | (simp; done))) | (with_reducible refine keepa ?_ _) | (simp [World.setCell, Array.getElem?_modify, A1.out, A2.out, A3.out, A4.out, A9.out, A10.out, m1, m1.symm, m2, m2.symm, m3, m3.symm, m4, m4.symm]; done))); done)), Lib.hid (by have hbsz := Below.size (HB6.out); (repeat (first | (with_reducible exact HB6.out) | (with_reducible refine bel_set (by first | omega | (simp; done) | (simp; omega)) ?_) | (with_reducible refine bel_alloc (by first | omega | (simp; done) | (simp; omega)) ?_) | (with_reducible refine bel_drew ?_) | (with_reducible refine bel_drewN ?_ _))); first | done | fail "left"), Lib.hid (HO6.out.set_apart HAp.out _ _), trivial⟩ ?_
    clear c_A1 f_A1 c_A2 f_A2 c_A3 f_A3 c_A4 f_A4 c_A9 f_A9 c_A10 f_A10
    rintro w7 ⟨A9, A1, A3, A4, A10, BA, O7, -⟩
    have c_A9 := cell_of_block A9.out
    have f_A9 := frozen_of_block A9.out
    have c_A1 := cell_of_block A1.out
    have f_A1 := frozen_of_block A1.out
    have c_A3 := cell_of_block A3.out
    have f_A3 := frozen_of_block A3.out
    have c_A4 := cell_of_block A4.out
    have f_A4 := frozen_of_block A4.out
    have c_A10 := cell_of_block A10.out
    have f_A10 := frozen_of_block A10.out
    go_upto_region 7 with fail
    refine gen_wp (fun w8 => Hid (w8.heap[w2.heap.size]? = some (.cells #[.int .i64 (n + 1), .slice p2 (l.length + 1) cap2, .int .i64 c, .int .i64 a] 24)) ∧ Hid (w8.heap[(w.heap.size + 2)]? = some (.cells #[.int .i64 0, .slice none 0 0, .int .i64 0, .int .i64 0] 24)) ∧ Hid (w8.heap[(w.heap.size + 3)]? = some (.cells #[.int .i64 0, .int .i64 0, .int .i64 0, .int .i64 0, .int .i64 0, .int .i64 0, .int .i64 0] 40)) ∧ Hid (w8.heap[w4.heap.size]? = some (.cells #[.int .i64 n, .int .i64 nt.user, .int .i64 nt.ver, .int .i64 nt.stat, .int .i64 nt.cnt, .int .i64 now, .int .i64 1] 40)) ∧ Hid (Below w.heap.size w w8) ∧ Hid (Own 40 7 (w.heap.size + 4) w8 (.slice p2 (l.length + 1) cap2) (l.length + 1) (flat Fl.cells l ++ [.int .i64 n, .int .i64 nt.user, .int .i64 nt.ver, .int .i64 nt.stat, .int .i64 nt.cnt, .int .i64 now, .int .i64 1])) ∧ True) ⟨Lib.hid (by first | (simp [World.setCell, Array.getElem?_modify, A1.out, A3.out, A4.out, A9.out, A10.out, m1, m1.symm, m2, m2.symm, m3, m3.symm, m4, m4.symm]; done) | (simp [World.setCell, Array.getElem?_modify, A1.out, A3.out, A4.out, A9.out, A10.out, m1, m1.symm, m2, m2.symm, m3, m3.symm, m4, m4.symm]; omega) | ((repeat (first | (with_reducible exact A1.out) | (with_reducible exact A3.out) | (with_reducible exact A4.out) | (with_reducible exact A9.out) | (with_reducible exact A10.out) | (with_reducible exact heap_new _ _ _ (by first | rfl | (simp; done))) | (with_reducible refine keepa ?_ _) | (simp [World.setCell, Array.getElem?_modify, A1.out, A3.out, A4.out, A9.out, A10.out, m1, m1.symm, m2, m2.symm, m3, m3.symm, m4, m4.symm]; done))); done)), Lib.hid (by first | (simp [World.setCell, Array.getElem?_modify, A1.out, A3.out, A4.out, A9.out, A10.out, m1, m1.symm, m2, m2.symm, m3, m3.symm, m4, m4.symm]; done) | (simp [World.setCell, Array.getElem?_modify, A1.out, A3.out, A4.out, A9.out, A10.out, m1, m1.symm, m2, m2.symm, m3, m3.symm, m4, m4.symm]; omega) | ((repeat (first | (with_reducible exact A1.out) | (with_reducible exact A3.out) | (with_reducible exact A4.out) | (with_reducible exact A9.out) | (with_reducible exact A10.out) | (with_reducible exact heap_new _ _ _ (by first | rfl | (simp; done))) | (with_reducible refine keepa ?_ _) | (simp [World.setCell, Array.getElem?_modify, A1.out, A3.out, A4.out, A9.out, A10.out, m1, m1.symm, m2, m2.symm, m3, m3.symm, m4, m4.symm]; done))); done)), Lib.hid (by first | (simp [World.setCell, Array.getElem?_modify, A1.out, A3.out, A4.out, A9.out, A10.out, m1, m1.symm, m2, m2.symm, m3, m3.symm, m4, m4.symm]; done) | (simp [World.setCell, Array.getElem?_modify, A1.out, A3.out, A4.out, A9.out, A10.out, m1, m1.symm, m2, m2.symm, m3, m3.symm, m4, m4.symm]; omega) | ((repeat (first | (with_reducible exact A1.out) | (with_reducible exact A3.out) | (with_reducible exact A4.out) | (with_reducible exact A9.out) | (with_reducible exact A10.out) | (with_reducible exact heap_new _ _ _ (by first | rfl | (simp; done))) | (with_reducible refine keepa ?_ _) | (simp [World.setCell, Array.getElem?_modify, A1.out, A3.out, A4.out, A9.out, A10.out, m1, m1.symm, m2, m2.symm, m3, m3.symm, m4, m4.symm]; done))); done)), Lib.hid (by first | (simp [World.setCell, Array.getElem?_modify, A1.out, A3.out, A4.out, A9.out, A10.out, m1, m1.symm, m2, m2.symm, m3, m3.symm, m4, m4.symm]; done) | (simp [World.setCell, Array.getElem?_modify, A1.out, A3.out, A4.out, A9.out, A10.out, m1, m1.symm, m2, m2.symm, m3, m3.symm, m4, m4.symm]; omega) | ((repeat (first | (with_reducible exact A1.out) | (with_reducible exact A3.out) | (with_reducible exact A4.out) | (with_reducible exact A9.out) | (with_reducible exact A10.out) | (with_reducible exact heap_new _ _ _ (by first | rfl | (simp; done))) | (with_reducible refine keepa ?_ _) | (simp [World.setCell, Array.getElem?_modify, A1.out, A3.out, A4.out, A9.out, A10.out, m1, m1.symm, m2, m2.symm, m3, m3.symm, m4, m4.symm]; done))); done)), Lib.hid (by have hbsz := Below.size (BA.out); (repeat (first | (with_reducible exact BA.out) | (with_reducible refine bel_set (by first | omega | (simp; done) | (simp; omega)) ?_) | (with_reducible refine bel_alloc (by first | omega | (simp; done) | (simp; omega)) ?_) | (with_reducible refine bel_drew ?_) | (with_reducible refine bel_drewN ?_ _))); first | done | fail "left"), Lib.hid (O7.out.set_apart HAp.out _ _), trivial⟩ ?_
    clear c_A1 f_A1 c_A3 f_A3 c_A4 f_A4 c_A9 f_A9 c_A10 f_A10
    rintro w8 ⟨A9, A3, A4, A10, BA, O8, -⟩
    have c_A9 := cell_of_block A9.out
    have f_A9 := frozen_of_block A9.out
    have c_A3 := cell_of_block A3.out
    have f_A3 := frozen_of_block A3.out
    have c_A4 := cell_of_block A4.out
    have f_A4 := frozen_of_block A4.out
    have c_A10 := cell_of_block A10.out
    have f_A10 := frozen_of_block A10.out
    go_region
    cases HE2.out
    go_wp2_with fail
    refine bodyPost_ret (v := .tuple #[.agg #[.int .i64 (n + 1), .slice p2 (l.length + 1) cap2, .int .i64 c, .int .i64 a], .agg #[.int .i64 n, .int .i64 nt.user, .int .i64 nt.ver, .int .i64 nt.stat, .int .i64 nt.cnt, .int .i64 now, .int .i64 1], .bool true]) (by simp [results, Try.results59, go_sem, c_A3, c_A4]) rfl ⟨p2, cap2, by simp, Lib.hid ?_, Lib.hid (by have hbsz := Below.size (BA.out); (repeat (first | (with_reducible exact BA.out) | (with_reducible refine bel_set (by first | omega | (simp; done) | (simp; omega)) ?_) | (with_reducible refine bel_alloc (by first | omega | (simp; done) | (simp; omega)) ?_) | (with_reducible refine bel_drew ?_) | (with_reducible refine bel_drewN ?_ _))); first | done | fail "left")⟩
    have hO : Own 40 7 (w.heap.size + 4) w8 (.slice p2 (l ++ [(⟨n, nt, now, 1⟩ : Fl)]).length cap2) (l ++ [(⟨n, nt, now, 1⟩ : Fl)]).length (flat Fl.cells (l ++ [(⟨n, nt, now, 1⟩ : Fl)])) := by
      rw [flat_append]; simpa [flat, Fl.cells] using O8.out
    refine Own.mono (B := w.heap.size + 4) ?_ (by omega)
    show Own 40 7 (w.heap.size + 4) _ (.slice p2 (l ++ [(⟨n, nt, now, 1⟩ : Fl)]).length cap2) (l ++ [(⟨n, nt, now, 1⟩ : Fl)]).length (flat Fl.cells (l ++ [(⟨n, nt, now, 1⟩ : Fl)]))
    exact (by (repeat (first | (with_reducible exact hO) | (with_reducible refine Own.set ?_ _ _ (by first | omega | (simp; done) | (simp; omega))) | (with_reducible refine Own.alloc ?_ _) | (with_reducible refine Own.drew ?_) | (with_reducible refine Own.drewN ?_ _))); first | done | fail "left")
end Go.Proofs.Yteilgibfmljoeaa.K

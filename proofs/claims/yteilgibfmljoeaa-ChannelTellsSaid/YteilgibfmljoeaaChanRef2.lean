/-
  CONTRACT of nightjarref12.Tick.
-/
import Derived.Test.YteilgibfmljoeaaChanTR
set_option linter.unusedVariables false
set_option linter.unusedSimpArgs false
namespace Go.Proofs.Yteilgibfmljoeaa.K
open Go Go.RowKit Nj

theorem resend_zero {n c a now : Int} {l : List Fl} (hR : sdRight ⟨n, l, c, a⟩ = true) : sdResend ⟨n, l, c, a⟩ 0 now = (⟨n, l, c, a⟩, fl0, false) := by
  have H := rightSd hR
  have h : flResend 0 now l = none := resend_none (fun j hj => by
    have := H.fl l[j] (List.getElem_mem hj)
    exact decide_eq_false (by omega))
  simp [sdResend, h]

set_option maxRecDepth 100000 in
set_option maxHeartbeats 4000000 in
theorem qctick_any (n : Int) (v : Value) (c a : Int) (r : Rt) (l : List Fl) (now most : Int) (w : World) (h : Fls w v l) (hR : sdRight ⟨n, l, c, a⟩ = true) (hnow : 0 ≤ now ∧ now ≤ 1099511627776) (hrto : 0 ≤ r.rto ∧ r.rto ≤ 1099511627776) (hmost : most ≤ 9223372036854775807)
    (d : Ch) (o : List Fl) (hd : chTick ⟨⟨n, l, c, a⟩, r⟩ now most = (d, o)) :
    Calls Try.prog 43 #[.agg #[.int .i64 n, v, .int .i64 c, .int .i64 a, .int .i64 r.s, .int .i64 r.v, .int .i64 r.rto, .int .i64 r.fails, .bool r.has], .int .i64 now, .int .i64 most] w (RetChL w d o) := by
  have FS := Lib.hid h
  obtain ⟨p, cap, rfl, hcap⟩ := fls_shape h
  have HR := Lib.hid hR
  have HP := Lib.hid (rightSd hR)
  have HRt := Lib.hid hrto
  have HRZ := Lib.hid (resend_zero (now := now) hR)
  obtain ⟨n0, n1⟩ := hnow
  have hl8 : l.length ≤ 8 := HP.out.len
  have HF := Lib.hid (show ∀ f ∈ l, 0 ≤ f.at_ ∧ f.at_ ≤ 1099511627776 from fun f hf => by have := HP.out.fl f hf; omega)
  have HFt := Lib.hid (show ∀ f ∈ l, 0 ≤ f.tries ∧ f.tries ≤ 1073741824 from fun f hf => by have := HP.out.fl f hf; omega)
  obtain ⟨D, hD⟩ : ∃ D, D = sdDue ⟨n, l, c, a⟩ now r.rto := ⟨_, rfl⟩
  have hDl : D.length ≤ 8 := by rw [hD]; exact Nat.le_trans (due_len _ _ _) hl8
  have HD := Lib.hid hD
  have HE := Lib.hid hd
  clear h hR hrto hD hd
  go_enter Try.func43, Try.ntmps43
  go_upto_region 1 with fail
  refine gen_wp (fun w1 => Hid (w1.heap[w.heap.size]? = some (.cells #[.int .i64 n, .slice p l.length cap, .int .i64 c, .int .i64 a, .int .i64 r.s, .int .i64 r.v, .int .i64 r.rto, .int .i64 r.fails, .bool r.has] 28)) ∧ Hid (w1.heap[(w.heap.size + 1)]? = some (.cells #[.int .i64 0, .slice none 0 0, .int .i64 0, .int .i64 0, .int .i64 0, .int .i64 0, .int .i64 0, .int .i64 0, .bool false] 28)) ∧ Hid (Below w.heap.size w w1) ∧ Hid (w1.heap.size = w.heap.size + 2) ∧ True) ⟨Lib.hid (by first | (simp [World.setCell, Array.getElem?_modify]; done) | (simp [World.setCell, Array.getElem?_modify]; omega) | ((repeat (first | (with_reducible exact heap_new _ _ _ (by first | rfl | (simp; done))) | (with_reducible refine keepa ?_ _) | (simp [World.setCell, Array.getElem?_modify]; done))); done)), Lib.hid (by first | (simp [World.setCell, Array.getElem?_modify]; done) | (simp [World.setCell, Array.getElem?_modify]; omega) | ((repeat (first | (with_reducible exact heap_new _ _ _ (by first | rfl | (simp; done))) | (with_reducible refine keepa ?_ _) | (simp [World.setCell, Array.getElem?_modify]; done))); done)), Lib.hid (by (repeat (first | (with_reducible exact Below.refl _ _) | (with_reducible refine bel_set (by first | omega | (simp; done) | (simp; omega)) ?_) | (with_reducible refine bel_alloc (by first | omega | (simp; done) | (simp; omega)) ?_) | (with_reducible refine bel_drew ?_) | (with_reducible refine bel_drewN ?_ _))); first | done | fail "left"), Lib.hid (by simp), trivial⟩ ?_
  rintro w1 ⟨A3, A6, BA, SZ, -⟩
  have c_A3 := cell_of_block A3.out
  have f_A3 := frozen_of_block A3.out
  have c_A6 := cell_of_block A6.out
  have f_A6 := frozen_of_block A6.out
  replace FS := fls_keep FS BA
  go_wp2_with fail
  refine (rdue_any n _ c a l now r.rto _ FS.out (by omega) HF.out HRt.out).mono ?_
  rintro e w2 ⟨pd, capd, rfl, OD, B2⟩
  rw [← HD.out] at OD ⊢
  replace A3 := Lib.hid (keepb A3.out B2.out)
  replace c_A3 := cell_of_block A3.out
  replace f_A3 := frozen_of_block A3.out
  replace A6 := Lib.hid (keepb A6.out B2.out)
  replace c_A6 := cell_of_block A6.out
  replace f_A6 := frozen_of_block A6.out
  replace BA := Lib.hid (chain BA.out B2.out)
  replace FS := fls_keep FS B2
  replace OD := Lib.hid (show Own 3 1 (w.heap.size + 2) w2 (.slice pd D.length capd) D.length (D.map (Value.int .i64)) by rw [← SZ.out]; exact OD.out)
  have SZ2 := Lib.hid (show w.heap.size + 2 ≤ w2.heap.size by have := B2.out.size; have := SZ.out; omega)
  have HLD0 := Lib.hid OD.out.lt
  have hcapd : D.length ≤ capd := by obtain ⟨_, _, e, h⟩ := OD.out.shape; injection e with e1 e2 e3; omega
  clear B2
  go_wp2_with fail
  refine (rresend_any n _ c a l 0 now _ FS.out (by omega) HFt.out ⟨n, l, c, a⟩ fl0 false HRZ.out).mono ?_
  rintro e w3 ⟨p3, cap3, rfl, O3, B3⟩
  replace A3 := Lib.hid (keepb A3.out B3.out)
  replace c_A3 := cell_of_block A3.out
  replace f_A3 := frozen_of_block A3.out
  replace A6 := Lib.hid (keepb A6.out B3.out)
  replace c_A6 := cell_of_block A6.out
  replace f_A6 := frozen_of_block A6.out
  replace BA := Lib.hid (chain BA.out B3.out)
  replace FS := fls_keep FS B3
  replace OD := Lib.hid (OD.out.keep B3.out)
  have SZ3 := Lib.hid (show w.heap.size + 2 ≤ w3.heap.size by have := B3.out.size; have := SZ2.out; omega)
  have HLD := Lib.hid (show ∀ k, (Value.slice pd D.length capd).ownBlock = some k → k < w3.heap.size from fun k hk => by have := HLD0.out k hk; have := B3.out.size; omega)
  clear HLD0
  clear B3
  go_upto_region 3 with fail
  refine gen_wp (fun w4 => Hid (Below w3.heap.size w3 w4) ∧ Hid (w4.heap[w3.heap.size]? = some (.cells #[.int .i64 n, .slice p3 l.length cap3, .int .i64 c, .int .i64 a] 24)) ∧ True) ⟨Lib.hid (by (repeat (first | (with_reducible exact Below.refl _ _) | (with_reducible refine bel_set (by first | omega | (simp; done) | (simp; omega)) ?_) | (with_reducible refine bel_alloc (by first | omega | (simp; done) | (simp; omega)) ?_) | (with_reducible refine bel_drew ?_) | (with_reducible refine bel_drewN ?_ _))); first | done | fail "left"), Lib.hid (by first | (simp [World.setCell, Array.getElem?_modify, A3.out, A6.out]; done) | (simp [World.setCell, Array.getElem?_modify, A3.out, A6.out]; omega) | ((repeat (first | (with_reducible exact A3.out) | (with_reducible exact A6.out) | (with_reducible exact heap_new _ _ _ (by first | rfl | (simp; done))) | (with_reducible refine keepa ?_ _) | (simp [World.setCell, Array.getElem?_modify, A3.out, A6.out]; done))); done)), trivial⟩ ?_
  clear c_A3 f_A3 c_A6 f_A6
  rintro w4 ⟨N, A9, -⟩
  have c_A9 := cell_of_block A9.out
  have f_A9 := frozen_of_block A9.out
  replace A3 := Lib.hid (keepb A3.out N.out)
  replace c_A3 := cell_of_block A3.out
  replace f_A3 := frozen_of_block A3.out
  replace A6 := Lib.hid (keepb A6.out N.out)
  replace c_A6 := cell_of_block A6.out
  replace f_A6 := frozen_of_block A6.out
  replace BA := Lib.hid (chain BA.out N.out)
  replace FS := fls_keep FS N
  replace OD := Lib.hid (OD.out.keep N.out)
  replace O3 := Lib.hid (show Own 40 7 (w.heap.size + 2) w4 (.slice p3 l.length cap3) l.length (flat Fl.cells l) from Own.mono (O3.out.keep N.out) (by have := SZ2.out; omega))
  have SZ4 := Lib.hid (block_lt A9.out)
  clear N
  have z3 := SZ3.out
  have m1 : w.heap.size ≠ w3.heap.size := by omega
  have m2 : w.heap.size + 1 ≠ w3.heap.size := by omega
  by_cases hno : D = [] ∨ most < 1
  · have HE2 := Lib.hid (show (d, o) = (⟨⟨n, l, c, a⟩, r⟩, []) by rw [← HE.out]; unfold chTick; simp only; rw [← HD.out, if_pos hno])
    cases HE2.out
    rcases (show D.length = 0 ∨ (¬ D.length = 0 ∧ most < 1) by by_cases hz : D.length = 0; exact .inl hz; exact .inr ⟨hz, by rcases hno with h | h; exact absurd (by rw [h]; rfl) hz; exact h⟩) with hz | ⟨hz, hm⟩
    all_goals clear hno
    · have t1 : ((D.length : Int) == 0) = true := by simp [hz]
      go_wp2_with fail
      refine bodyPost_ret (v := .tuple #[.agg #[.int .i64 n, .slice p3 l.length cap3, .int .i64 c, .int .i64 a, .int .i64 r.s, .int .i64 r.v, .int .i64 r.rto, .int .i64 r.fails, .bool r.has], .slice none 0 0]) (by simp [results, Try.results43, go_sem, c_A6]) rfl ⟨p3, cap3, none, 0, rfl, Lib.hid ?_, Lib.hid (own_nil _ _ _ _), Lib.hid (by have hbsz := Below.size (BA.out); (repeat (first | (with_reducible exact BA.out) | (with_reducible refine bel_set (by first | omega | (simp; done) | (simp; omega)) ?_) | (with_reducible refine bel_alloc (by first | omega | (simp; done) | (simp; omega)) ?_) | (with_reducible refine bel_drew ?_) | (with_reducible refine bel_drewN ?_ _))); first | done | fail "left")⟩
      exact Own.mono (B := w.heap.size + 2) (by (repeat (first | (with_reducible exact O3.out) | (with_reducible refine Own.set ?_ _ _ (by first | omega | (simp; done) | (simp; omega))) | (with_reducible refine Own.alloc ?_ _) | (with_reducible refine Own.drew ?_) | (with_reducible refine Own.drewN ?_ _))); first | done | fail "left") (by omega)
    · have t1 : ((D.length : Int) == 0) = false := by simpa using hz
      have t2 : most < 1 := hm
      go_wp2_with fail
      refine bodyPost_ret (v := .tuple #[.agg #[.int .i64 n, .slice p3 l.length cap3, .int .i64 c, .int .i64 a, .int .i64 r.s, .int .i64 r.v, .int .i64 r.rto, .int .i64 r.fails, .bool r.has], .slice none 0 0]) (by simp [results, Try.results43, go_sem, c_A6]) rfl ⟨p3, cap3, none, 0, rfl, Lib.hid ?_, Lib.hid (own_nil _ _ _ _), Lib.hid (by have hbsz := Below.size (BA.out); (repeat (first | (with_reducible exact BA.out) | (with_reducible refine bel_set (by first | omega | (simp; done) | (simp; omega)) ?_) | (with_reducible refine bel_alloc (by first | omega | (simp; done) | (simp; omega)) ?_) | (with_reducible refine bel_drew ?_) | (with_reducible refine bel_drewN ?_ _))); first | done | fail "left")⟩
      exact Own.mono (B := w.heap.size + 2) (by (repeat (first | (with_reducible exact O3.out) | (with_reducible refine Own.set ?_ _ _ (by first | omega | (simp; done) | (simp; omega))) | (with_reducible refine Own.alloc ?_ _) | (with_reducible refine Own.drew ?_) | (with_reducible refine Own.drewN ?_ _))); first | done | fail "left") (by omega)
  · have hpos : 0 < D.length := (Nat.eq_zero_or_pos D.length).resolve_left fun h => hno (.inl (List.length_eq_zero_iff.1 h))
    have hm1 : 1 ≤ most := by omega
    obtain ⟨m, hm⟩ : ∃ m, m = max (c / 2) 1 := ⟨_, rfl⟩
    obtain ⟨q, hq⟩ : ∃ q, rttBackoff r = q := ⟨_, rfl⟩
    obtain ⟨K, hK⟩ : ∃ K, K = min most.toNat D.length := ⟨_, rfl⟩
    have HE2 := Lib.hid (show (d, o) = (⟨(tickL now ⟨n, l, m, 0⟩ (D.take K)).1, q⟩, (tickL now ⟨n, l, m, 0⟩ (D.take K)).2) by
      rw [← HE.out]; unfold chTick; simp only
      rw [← HD.out, if_neg hno, take_K D most hm1, ← hK, hq, hm]; rfl)
    have HRl := Lib.hid (show sdRight ⟨n, l, m, 0⟩ = true by rw [hm]; exact right_lost HR.out)
    have t1 : ((D.length : Int) == 0) = false := by simp; intro h; simp [h] at hpos
    have hKD : K ≤ D.length := by omega
    have hK1 : 1 ≤ K := by omega
    have hKm : (K : Int) ≤ most := by omega
    have hKe : K < D.length → most ≤ (K : Int) := by omega
    have HQ := Lib.hid hq
    have hc0 : 1 ≤ c := HP.out.c0
    have hc8 : c ≤ 8 := HP.out.c1
    have HM := Lib.hid (show sdLost ⟨n, l, c, a⟩ = ⟨n, l, m, 0⟩ by rw [hm]; rfl)
    have HRB := Lib.hid (fun W => qRttBackoff_at r W q hq)
    clear hno hm hq hK
    have t2 : ¬ most < 1 := by omega
    go_wp2_with fail
    refine (rlost_any n _ c a l _ (show Fls _ _ _ from O3.out.sl) (by omega) (by omega)).mono ?_
    rintro e w5 ⟨p5, cap5, rfl, O5, B5⟩
    rw [HM.out] at O5 ⊢
    replace A3 := Lib.hid (keepb A3.out B5.out)
    replace c_A3 := cell_of_block A3.out
    replace f_A3 := frozen_of_block A3.out
    replace A6 := Lib.hid (keepb A6.out B5.out)
    replace c_A6 := cell_of_block A6.out
    replace f_A6 := frozen_of_block A6.out
    replace A9 := Lib.hid (keepb A9.out B5.out)
    replace c_A9 := cell_of_block A9.out
    replace f_A9 := frozen_of_block A9.out
    replace BA := Lib.hid (chain BA.out B5.out)
    replace OD := Lib.hid (OD.out.keep B5.out)
    have SZ5 := Lib.hid (show w3.heap.size < w5.heap.size by have := B5.out.size; have := SZ4.out; omega)
    have HOB5 := Lib.hid (show w3.heap.size + 1 ≤ w4.heap.size from SZ4.out)
    replace O5 := Lib.hid (show Own 40 7 (w3.heap.size + 1) w5 (.slice p5 l.length cap5) l.length (flat Fl.cells l) from Own.mono O5.out (by first | exact HOB5.out | (have := HOB5.out; simp; omega)))
    clear B5 O3
    go_upto_region 7 with fail
    refine gen_wp (fun wx => Hid (wx.heap[w3.heap.size]? = some (.cells #[.int .i64 n, .slice p5 l.length cap5, .int .i64 m, .int .i64 0] 24)) ∧ Hid (wx.heap[w.heap.size]? = some (.cells #[.int .i64 n, .slice p l.length cap, .int .i64 c, .int .i64 a, .int .i64 r.s, .int .i64 r.v, .int .i64 r.rto, .int .i64 r.fails, .bool r.has] 28)) ∧ Hid (wx.heap[(w.heap.size + 1)]? = some (.cells #[.int .i64 0, .slice none 0 0, .int .i64 0, .int .i64 0, .int .i64 0, .int .i64 0, .int .i64 0, .int .i64 0, .bool false] 28)) ∧ Hid (Below w.heap.size w wx) ∧ Hid (wx.heap.size = w5.heap.size) ∧ Hid (Own 40 7 (w3.heap.size + 1) wx (.slice p5 l.length cap5) l.length (flat Fl.cells l)) ∧ Hid (Own 3 1 (w.heap.size + 2) wx (.slice pd D.length capd) D.length (D.map (Value.int .i64))) ∧ True) ⟨Lib.hid (by first | (simp [World.setCell, Array.getElem?_modify, A3.out, A6.out, A9.out, m1, m1.symm, m2, m2.symm]; done) | (simp [World.setCell, Array.getElem?_modify, A3.out, A6.out, A9.out, m1, m1.symm, m2, m2.symm]; omega) | ((repeat (first | (with_reducible exact A3.out) | (with_reducible exact A6.out) | (with_reducible exact A9.out) | (with_reducible exact heap_new _ _ _ (by first | rfl | (simp; done))) | (with_reducible refine keepa ?_ _) | (simp [World.setCell, Array.getElem?_modify, A3.out, A6.out, A9.out, m1, m1.symm, m2, m2.symm]; done))); done)), Lib.hid (by first | (simp [World.setCell, Array.getElem?_modify, A3.out, A6.out, A9.out, m1, m1.symm, m2, m2.symm]; done) | (simp [World.setCell, Array.getElem?_modify, A3.out, A6.out, A9.out, m1, m1.symm, m2, m2.symm]; omega) | ((repeat (first | (with_reducible exact A3.out) | (with_reducible exact A6.out) | (with_reducible exact A9.out) | (with_reducible exact heap_new _ _ _ (by first | rfl | (simp; done))) | (with_reducible refine keepa ?_ _) | (simp [World.setCell, Array.getElem?_modify, A3.out, A6.out, A9.out, m1, m1.symm, m2, m2.symm]; done))); done)), Lib.hid (by first | (simp [World.setCell, Array.getElem?_modify, A3.out, A6.out, A9.out, m1, m1.symm, m2, m2.symm]; done) | (simp [World.setCell, Array.getElem?_modify, A3.out, A6.out, A9.out, m1, m1.symm, m2, m2.symm]; omega) | ((repeat (first | (with_reducible exact A3.out) | (with_reducible exact A6.out) | (with_reducible exact A9.out) | (with_reducible exact heap_new _ _ _ (by first | rfl | (simp; done))) | (with_reducible refine keepa ?_ _) | (simp [World.setCell, Array.getElem?_modify, A3.out, A6.out, A9.out, m1, m1.symm, m2, m2.symm]; done))); done)), Lib.hid (by have hbsz := Below.size (BA.out); (repeat (first | (with_reducible exact BA.out) | (with_reducible refine bel_set (by first | omega | (simp; done) | (simp; omega)) ?_) | (with_reducible refine bel_alloc (by first | omega | (simp; done) | (simp; omega)) ?_) | (with_reducible refine bel_drew ?_) | (with_reducible refine bel_drewN ?_ _))); first | done | fail "left"), Lib.hid (by simp), Lib.hid (by (repeat (first | (with_reducible exact O5.out) | (with_reducible refine Own.set ?_ _ _ (by first | omega | (simp; done) | (simp; omega))) | (with_reducible refine Own.alloc ?_ _) | (with_reducible refine Own.drew ?_) | (with_reducible refine Own.drewN ?_ _))); first | done | fail "left"), Lib.hid (Own.mod OD.out (S := fun b => b = w3.heap.size) (by (repeat (first | (with_reducible exact Mod.refl _ _) | (with_reducible refine Mod.set ?_ _ _ (by first | exact Or.inl rfl | exact Or.inl (Or.inl rfl) | exact Or.inl (Or.inr rfl) | exact Or.inl (Or.inr (Or.inl rfl)) | exact Or.inl (Or.inr (Or.inr rfl)) | (refine Or.inr ?_; first | omega | (simp; done) | (simp; omega)))) | (with_reducible refine Mod.alloc ?_ _) | (with_reducible refine Mod.drew ?_) | (with_reducible refine Mod.drewN ?_ _))); first | done | fail "left") (fun b hb e => by have := HLD.out b hb; omega)), trivial⟩ ?_
    clear c_A3 f_A3 c_A6 f_A6 c_A9 f_A9
    rintro wx ⟨A9, A3, A6, BA, HSZ, O5, ODx, -⟩
    have c_A9 := cell_of_block A9.out
    have f_A9 := frozen_of_block A9.out
    have c_A3 := cell_of_block A3.out
    have f_A3 := frozen_of_block A3.out
    have c_A6 := cell_of_block A6.out
    have f_A6 := frozen_of_block A6.out
    have hzx : w3.heap.size < wx.heap.size := by have := SZ5.out; have := HSZ.out; omega
    clear OD
    go_wp2_with fail
    go_loopw [12, 13] (fun ov iv wr => ∃ (k : Nat) (S : Sd) (O : List Fl) (p' po : Option Addr) (cap' capo : Nat), k ≤ K ∧ iv = .int .i64 k ∧ ov = .slice po O.length capo ∧ O.length = k ∧ tickL now ⟨n, l, m, 0⟩ (D.take k) = (S, O) ∧
      wr.heap[w3.heap.size]? = some (.cells #[.int .i64 S.next, .slice p' S.fl.length cap', .int .i64 S.cwnd, .int .i64 S.acc] 24) ∧
      wr.heap[w.heap.size]? = some (.cells #[.int .i64 n, .slice p l.length cap, .int .i64 c, .int .i64 a, .int .i64 r.s, .int .i64 r.v, .int .i64 r.rto, .int .i64 r.fails, .bool r.has] 28) ∧
      wr.heap[w.heap.size + 1]? = some (.cells #[.int .i64 0, .slice none 0 0, .int .i64 0, .int .i64 0, .int .i64 0, .int .i64 0, .int .i64 0, .int .i64 0, .bool false] 28) ∧
      Own 40 7 (w3.heap.size + 1) wr (.slice p' S.fl.length cap') S.fl.length (flat Fl.cells S.fl) ∧ Own 40 7 wx.heap.size wr (.slice po O.length capo) O.length (flat Fl.cells O) ∧ Own 3 1 (w.heap.size + 2) wr (.slice pd D.length capd) D.length (D.map (Value.int .i64)) ∧ wx.heap.size ≤ wr.heap.size ∧ Below w.heap.size w wr) (fun _ i _ => K - (intOf i).toNat)
    case atStart => exact ⟨0, ⟨n, l, m, 0⟩, [], p5, none, cap5, 0, by omega, rfl, rfl, rfl, rfl, A9.out, A3.out, A6.out, O5.out, own_nil _ _ _ _, ODx.out, Nat.le_refl _, BA.out⟩
    case round =>
      obtain ⟨k, S, O, p', po, cap', capo, hk, rfl, rfl, hOl, htk, a9, a3, a6, hfs, hoo, hod, hsz, hwb⟩ := hrel
      clear c_A3 f_A3 c_A6 f_A6 c_A9 f_A9 FS A3 A6 A9 BA ODx O5
      have A3 := Lib.hid a3
      have A6 := Lib.hid a6
      have A9 := Lib.hid a9
      have BA := Lib.hid hwb
      have FS := Lib.hid hfs
      have OD := Lib.hid hod
      have OO := Lib.hid hoo
      have HT := Lib.hid htk
      have HOl := Lib.hid hOl
      have HRk := Lib.hid (show sdRight S = true ∧ S.fl.length = l.length by
        have := tickL_right n0 n1 (D.take k) _ HRl.out
        rw [htk] at this; exact ⟨this.1, this.2.2.1⟩)
      have hSl : S.fl.length ≤ 8 := by rw [HRk.out.2]; exact hl8
      clear a3 a6 a9 hwb hfs hod hoo htk hOl
      have c_A3 := cell_of_block A3.out
      have f_A3 := frozen_of_block A3.out
      have c_A6 := cell_of_block A6.out
      have f_A6 := frozen_of_block A6.out
      have c_A9 := cell_of_block A9.out
      have f_A9 := frozen_of_block A9.out
      by_cases hlt : k < K
      · have hkD : k < D.length := by omega
        obtain ⟨x, hx⟩ : ∃ x, x = D[k] := ⟨_, rfl⟩
        obtain ⟨bd, od, hpd, hcell⟩ := (ints_of_own OD.out).2.atp k hkD
        rw [← hx] at hcell
        subst hpd
        have HX := Lib.hid hx
        have t3 : (k : Int) < (D.length : Int) := by omega
        have t4 : (k : Int) < most := by omega
        have t5 : (0 : Int) ≤ (k : Int) := by omega
        obtain ⟨S', f, ok, hrs⟩ : ∃ S' f ok, sdResend S x now = (S', f, ok) := ⟨_, _, _, rfl⟩
        have HRS := Lib.hid hrs
        have HTk := Lib.hid (show tickL now ⟨n, l, m, 0⟩ (D.take (k + 1)) = (S', O ++ [f]) by
          rw [List.take_add_one, List.getElem?_eq_getElem hkD, ← hx]
          exact tickL_snoc HT.out hrs)
        have HFr := Lib.hid (show ∀ f ∈ S.fl, 0 ≤ f.tries ∧ f.tries ≤ 1073741824 from fun f hf => by have := (rightSd HRk.out.1).fl f hf; omega)
        have hOk : O.length ≤ 8 := by rw [HOl.out]; omega
        clear hx hrs
        go_upto_region 10 with fail
        go_cut [14, 15, 16] (fun s14 s15 s16 wc => ∃ (p6 : Option Addr) (cap6 g1 g2 : Nat), s14 = .pointer (some ⟨g1, 0, none⟩) ∧ s15 = .pointer (some ⟨g2, 0, none⟩) ∧ s16 = .bool ok ∧ wc.heap[g1]? = some (.cells #[.int .i64 S'.next, .slice p6 S'.fl.length cap6, .int .i64 S'.cwnd, .int .i64 S'.acc] 24) ∧ wc.heap[g2]? = some (.cells #[.int .i64 f.seq, .int .i64 f.note.user, .int .i64 f.note.ver, .int .i64 f.note.stat, .int .i64 f.note.cnt, .int .i64 f.at_, .int .i64 f.tries] 40) ∧ Own 40 7 wr.heap.size wc (.slice p6 S'.fl.length cap6) S'.fl.length (flat Fl.cells S'.fl) ∧ Below wr.heap.size wr wc ∧ wr.heap.size ≤ g1 ∧ wr.heap.size ≤ g2)
        case first =>
          have HSt := Lib.hid (fun W (B : Below wr.heap.size wr W) => rresend_any S.next (.slice p' S.fl.length cap') S.cwnd S.acc S.fl x now W (FS.out.sl.keep (by decide) B) (by omega) HFr.out S' f ok HRS.out)
          have HI := Lib.hid (show Ints wr (.slice (some ⟨bd, od, none⟩) D.length capd) D from (ints_of_own OD.out).2)
          refine QT_reg bd od k capd w3.heap.size D S.next S.cwnd S.acc S.fl p' cap' x now S' f ok wr _ _ _ _ _ _ _ _ _ _ _ _ _ _ _ _ _ _ _ _ _ _ _ _ _ _ _ _ _ _ _ _ _ _ _ _ _ _ _ _ _ _ _ _ _ _ _ _ _ _ _ _ _ _ _ _ _ _ _ _ _ _ _ _ _ _ _ _ _ _ _ _ _ _ _ A9 HI hkD (by omega) t3 t5 HX HSt ?_
          intro q1 cq1 g0 g1 wx2 hB hFP hNB hg0 hz0 hg1 hz1
          have HB := Lib.hid hB
          have HFP := Lib.hid hFP
          have HZ0 := Lib.hid hz0
          have HZ1 := Lib.hid hz1
          clear hB hFP hNB hz0 hz1
          go_wp2_with fail
          go_meet
          case rel => exact ⟨q1, cq1, g0, g1, rfl, rfl, rfl, HZ0.out, HZ1.out, HFP.out, HB.out, hg0, hg1⟩
        case rest =>
          obtain ⟨p6, cap6, g1, g2, rfl, rfl, rfl, hg1, hg2, o6, hbb, hz1, hz2⟩ := hcut
          have s9r := block_lt A9.out
          have G1 := Lib.hid hg1
          have G2 := Lib.hid hg2
          have O6 := Lib.hid o6
          have BB := Lib.hid hbb
          clear hg1 hg2 o6 hbb c_A3 f_A3 c_A6 f_A6 c_A9 f_A9
          replace A3 := Lib.hid (keepb A3.out BB.out)
          replace c_A3 := cell_of_block A3.out
          replace f_A3 := frozen_of_block A3.out
          replace A6 := Lib.hid (keepb A6.out BB.out)
          replace c_A6 := cell_of_block A6.out
          replace f_A6 := frozen_of_block A6.out
          replace A9 := Lib.hid (keepb A9.out BB.out)
          replace c_A9 := cell_of_block A9.out
          replace f_A9 := frozen_of_block A9.out
          have HLo := Lib.hid OO.out.lt
          replace BA := Lib.hid (chain BA.out BB.out)
          replace OO := Lib.hid (OO.out.keep BB.out)
          replace OD := Lib.hid (OD.out.keep BB.out)
          have hzr : wx.heap.size ≤ wr.heap.size := hsz
          have hzc : wr.heap.size ≤ wc.heap.size := BB.out.size
          clear BB
          have c_G1 := cell_of_block G1.out
          have f_G1 := frozen_of_block G1.out
          have c_G2 := cell_of_block G2.out
          have f_G2 := frozen_of_block G2.out
          have s3 := block_lt A3.out
          have s6 := block_lt A6.out
          have m3 : g1 ≠ w3.heap.size := by omega
          have m4 : g2 ≠ w3.heap.size := by omega
          have HSr := Lib.hid (show wx.heap.size ≤ wc.heap.size by omega)
          go_upto_region 12 with fail
          refine gen_wp (fun w7 => Hid (w7.heap[w3.heap.size]? = some (.cells #[.int .i64 S'.next, .slice p6 S'.fl.length cap6, .int .i64 S'.cwnd, .int .i64 S'.acc] 24)) ∧ Hid (w7.heap[w.heap.size]? = some (.cells #[.int .i64 n, .slice p l.length cap, .int .i64 c, .int .i64 a, .int .i64 r.s, .int .i64 r.v, .int .i64 r.rto, .int .i64 r.fails, .bool r.has] 28)) ∧ Hid (w7.heap[(w.heap.size + 1)]? = some (.cells #[.int .i64 0, .slice none 0 0, .int .i64 0, .int .i64 0, .int .i64 0, .int .i64 0, .int .i64 0, .int .i64 0, .bool false] 28)) ∧ Hid (w7.heap[g2]? = some (.cells #[.int .i64 f.seq, .int .i64 f.note.user, .int .i64 f.note.ver, .int .i64 f.note.stat, .int .i64 f.note.cnt, .int .i64 f.at_, .int .i64 f.tries] 40)) ∧ Hid (Below w.heap.size w w7) ∧ Hid (Own 40 7 wr.heap.size w7 (.slice p6 S'.fl.length cap6) S'.fl.length (flat Fl.cells S'.fl)) ∧ Hid (Own 40 7 wx.heap.size w7 (.slice po O.length capo) O.length (flat Fl.cells O)) ∧ Hid (Own 3 1 (w.heap.size + 2) w7 (.slice (some ⟨bd, od, none⟩) D.length capd) D.length (D.map (Value.int .i64))) ∧ Hid (wc.heap.size ≤ w7.heap.size) ∧ True) ⟨Lib.hid (by first | (simp [World.setCell, Array.getElem?_modify, A3.out, A6.out, A9.out, G1.out, G2.out, m1, m1.symm, m2, m2.symm, m3, m3.symm, m4, m4.symm]; done) | (simp [World.setCell, Array.getElem?_modify, A3.out, A6.out, A9.out, G1.out, G2.out, m1, m1.symm, m2, m2.symm, m3, m3.symm, m4, m4.symm]; omega) | ((repeat (first | (with_reducible exact A3.out) | (with_reducible exact A6.out) | (with_reducible exact A9.out) | (with_reducible exact G1.out) | (with_reducible exact G2.out) | (with_reducible exact heap_new _ _ _ (by first | rfl | (simp; done))) | (with_reducible refine keepa ?_ _) | (simp [World.setCell, Array.getElem?_modify, A3.out, A6.out, A9.out, G1.out, G2.out, m1, m1.symm, m2, m2.symm, m3, m3.symm, m4, m4.symm]; done))); done)), Lib.hid (by first | (simp [World.setCell, Array.getElem?_modify, A3.out, A6.out, A9.out, G1.out, G2.out, m1, m1.symm, m2, m2.symm, m3, m3.symm, m4, m4.symm]; done) | (simp [World.setCell, Array.getElem?_modify, A3.out, A6.out, A9.out, G1.out, G2.out, m1, m1.symm, m2, m2.symm, m3, m3.symm, m4, m4.symm]; omega) | ((repeat (first | (with_reducible exact A3.out) | (with_reducible exact A6.out) | (with_reducible exact A9.out) | (with_reducible exact G1.out) | (with_reducible exact G2.out) | (with_reducible exact heap_new _ _ _ (by first | rfl | (simp; done))) | (with_reducible refine keepa ?_ _) | (simp [World.setCell, Array.getElem?_modify, A3.out, A6.out, A9.out, G1.out, G2.out, m1, m1.symm, m2, m2.symm, m3, m3.symm, m4, m4.symm]; done))); done)), Lib.hid (by first | (simp [World.setCell, Array.getElem?_modify, A3.out, A6.out, A9.out, G1.out, G2.out, m1, m1.symm, m2, m2.symm, m3, m3.symm, m4, m4.symm]; done) | (simp [World.setCell, Array.getElem?_modify, A3.out, A6.out, A9.out, G1.out, G2.out, m1, m1.symm, m2, m2.symm, m3, m3.symm, m4, m4.symm]; omega) | ((repeat (first | (with_reducible exact A3.out) | (with_reducible exact A6.out) | (with_reducible exact A9.out) | (with_reducible exact G1.out) | (with_reducible exact G2.out) | (with_reducible exact heap_new _ _ _ (by first | rfl | (simp; done))) | (with_reducible refine keepa ?_ _) | (simp [World.setCell, Array.getElem?_modify, A3.out, A6.out, A9.out, G1.out, G2.out, m1, m1.symm, m2, m2.symm, m3, m3.symm, m4, m4.symm]; done))); done)), Lib.hid (by first | (simp [World.setCell, Array.getElem?_modify, A3.out, A6.out, A9.out, G1.out, G2.out, m1, m1.symm, m2, m2.symm, m3, m3.symm, m4, m4.symm]; done) | (simp [World.setCell, Array.getElem?_modify, A3.out, A6.out, A9.out, G1.out, G2.out, m1, m1.symm, m2, m2.symm, m3, m3.symm, m4, m4.symm]; omega) | ((repeat (first | (with_reducible exact A3.out) | (with_reducible exact A6.out) | (with_reducible exact A9.out) | (with_reducible exact G1.out) | (with_reducible exact G2.out) | (with_reducible exact heap_new _ _ _ (by first | rfl | (simp; done))) | (with_reducible refine keepa ?_ _) | (simp [World.setCell, Array.getElem?_modify, A3.out, A6.out, A9.out, G1.out, G2.out, m1, m1.symm, m2, m2.symm, m3, m3.symm, m4, m4.symm]; done))); done)), Lib.hid (by have hbsz := Below.size (BA.out); (repeat (first | (with_reducible exact BA.out) | (with_reducible refine bel_set (by first | omega | (simp; done) | (simp; omega)) ?_) | (with_reducible refine bel_alloc (by first | omega | (simp; done) | (simp; omega)) ?_) | (with_reducible refine bel_drew ?_) | (with_reducible refine bel_drewN ?_ _))); first | done | fail "left"), Lib.hid (by (repeat (first | (with_reducible exact O6.out) | (with_reducible refine Own.set ?_ _ _ (by first | omega | (simp; done) | (simp; omega))) | (with_reducible refine Own.alloc ?_ _) | (with_reducible refine Own.drew ?_) | (with_reducible refine Own.drewN ?_ _))); first | done | fail "left"), Lib.hid (by (repeat (first | (with_reducible exact OO.out) | (with_reducible refine Own.set ?_ _ _ (by first | omega | (simp; done) | (simp; omega))) | (with_reducible refine Own.alloc ?_ _) | (with_reducible refine Own.drew ?_) | (with_reducible refine Own.drewN ?_ _))); first | done | fail "left"), Lib.hid (Own.mod OD.out (S := fun b => b = w3.heap.size) (by (repeat (first | (with_reducible exact Mod.refl _ _) | (with_reducible refine Mod.set ?_ _ _ (by first | exact Or.inl rfl | exact Or.inl (Or.inl rfl) | exact Or.inl (Or.inr rfl) | exact Or.inl (Or.inr (Or.inl rfl)) | exact Or.inl (Or.inr (Or.inr rfl)) | (refine Or.inr ?_; first | omega | (simp; done) | (simp; omega)))) | (with_reducible refine Mod.alloc ?_ _) | (with_reducible refine Mod.drew ?_) | (with_reducible refine Mod.drewN ?_ _))); first | done | fail "left") (fun b hb e => by have := HLD.out b hb; omega)), Lib.hid (by simp), trivial⟩ ?_
          clear c_A3 f_A3 c_A6 f_A6 c_A9 f_A9 c_G1 f_G1 c_G2 f_G2
          rintro w7 ⟨A9, A3, A6, G2, BA, O7, OO, OD7, HZ7, -⟩
          have c_A9 := cell_of_block A9.out
          have f_A9 := frozen_of_block A9.out
          have c_A3 := cell_of_block A3.out
          have f_A3 := frozen_of_block A3.out
          have c_A6 := cell_of_block A6.out
          have f_A6 := frozen_of_block A6.out
          have c_G2 := cell_of_block G2.out
          have f_G2 := frozen_of_block G2.out
          clear OD
          have OD := OD7
          clear OD7
          have hz7 := HZ7.out
          have hzc7 := HSr.out
          have HNE := Lib.hid (show ∀ k, (Value.slice po O.length capo).ownBlock = some k → wx.heap.size ≤ k ∧ k < wr.heap.size from fun k hk => ⟨OO.out.block k hk, HLo.out k hk⟩)
          have HO7 := Lib.hid O7.out.block
          have HDB := Lib.hid (show ∀ k, (Value.slice (some ⟨bd, od, none⟩) D.length capd).ownBlock = some k → k < wx.heap.size from fun k hk => by have := HLD.out k hk; omega)
          go_wp2_with (at_builtin; refine wpList_app rfl (.tmp 68) (.tmp 70) 22 rfl wx.heap.size 40 (.agg #[.int .i64 0, .int .i64 0, .int .i64 0, .int .i64 0, .int .i64 0, .int .i64 0, .int .i64 0]) 7 56 Try.underlying22 (by kernel_rfl) rfl (by decide) w.heap.size w (Lib.hid (BA.out.alloc BA.out.size _)) (by omega) (Lib.hid (OO.out.alloc _)) rfl ⟨w7.heap.size, 0, none⟩ 1 1 rfl f.cells rfl (Lib.hid (news_new (heap_new _ _ _ rfl))) (by simp [Value.oneCell', Fl.cells]) (by omega) (by omega) (by simp; omega) ?_; intro p2 cap2 w8 hc2 HO8 HB8 HK8; replace A3 := Lib.hid (HK8.out _ _ (keepa A3.out _) (fun k hk => by have := HNE.out k hk; omega)); replace c_A3 := cell_of_block A3.out; replace f_A3 := frozen_of_block A3.out; replace A6 := Lib.hid (HK8.out _ _ (keepa A6.out _) (fun k hk => by have := HNE.out k hk; omega)); replace c_A6 := cell_of_block A6.out; replace f_A6 := frozen_of_block A6.out; replace A9 := Lib.hid (HK8.out _ _ (keepa A9.out _) (fun k hk => by have := HNE.out k hk; omega)); replace c_A9 := cell_of_block A9.out; replace f_A9 := frozen_of_block A9.out; replace G2 := Lib.hid (HK8.out _ _ (keepa G2.out _) (fun k hk => by have := HNE.out k hk; omega)); replace c_G2 := cell_of_block G2.out; replace f_G2 := frozen_of_block G2.out; replace O7 := Lib.hid (Own.kept (O7.out.alloc _) HK8.out (fun g hg k hk => by have := HO7.out g hg; have := (HNE.out k hk).2; omega)); replace OD := Lib.hid (Own.kept (OD.out.alloc _) HK8.out (fun g hg k hk => by have := HDB.out g hg; have := (HNE.out k hk).1; omega)))
          go_roundw
          case rel =>
            refine ⟨k + 1, S', O ++ [f], p6, p2, cap6, cap2, by omega, by go_num, by simp, by simp; exact HOl.out, HTk.out, A9.out, A3.out, A6.out, O7.out.mono (by omega), ?_, OD.out, ?_, HB8.out⟩
            · rw [flat_append, List.length_append]; exact HO8.out
            · have := block_lt G2.out; omega
          case measure => simp [intOf]; omega
      · have HE3 : Hid ((d, o) = (⟨S, q⟩, O)) := by
          have e : K = k := by omega
          exact Lib.hid (by rw [HE2.out, e, HT.out])
        cases HE3.out
        have A9d := Lib.hid (show wr.drew.heap[w3.heap.size]? = some (.cells #[.int .i64 S.next, .slice p' S.fl.length cap', .int .i64 S.cwnd, .int .i64 S.acc] 24) from A9.out)
        have A3d := Lib.hid (show wr.drew.heap[w.heap.size]? = some (.cells #[.int .i64 n, .slice p l.length cap, .int .i64 c, .int .i64 a, .int .i64 r.s, .int .i64 r.v, .int .i64 r.rto, .int .i64 r.fails, .bool r.has] 28) from A3.out)
        have hs6 := block_lt A6.out
        by_cases hkD : k < D.length
        · have t3 : (k : Int) < (D.length : Int) := by omega
          have t4 : ¬ (k : Int) < most := by have := hKe (by omega); omega
          go_upto_region 13 with fail
          have FSd := Lib.hid (show Own 40 7 (w3.heap.size + 1) wr.drew (.slice p' S.fl.length cap') S.fl.length (flat Fl.cells S.fl) from FS.out)
          have OOd := Lib.hid (show Own 40 7 wx.heap.size wr.drew (.slice po o.length capo) o.length (flat Fl.cells o) from OO.out)
          go_region_held3 (fun w' => w'.cell? ⟨w3.heap.size, 0, none⟩ = some (.int .i64 S.next) ∧ w'.cell? ⟨w3.heap.size, 1, none⟩ = some (.slice p' S.fl.length cap') ∧ w'.cell? ⟨w3.heap.size, 2, none⟩ = some (.int .i64 S.cwnd) ∧ w'.cell? ⟨w3.heap.size, 3, none⟩ = some (.int .i64 S.acc) ∧ w'.cell? ⟨w.heap.size, 4, none⟩ = some (.int .i64 r.s) ∧ w'.cell? ⟨w.heap.size, 5, none⟩ = some (.int .i64 r.v) ∧ w'.cell? ⟨w.heap.size, 6, none⟩ = some (.int .i64 r.rto) ∧ w'.cell? ⟨w.heap.size, 7, none⟩ = some (.int .i64 r.fails) ∧ w'.cell? ⟨w.heap.size, 8, none⟩ = some (.bool r.has)) (go_keep)
            ((first
              | (go_at_call 65; refine (HRB.out _).mono ?_; rintro e w9 ⟨rfl, B9⟩; have A3e := Lib.hid (keepb (w := wr.drew) A3.out B9.out); have A6e := Lib.hid (keepb (w := wr.drew) A6.out B9.out); have A9e := Lib.hid (keepb (w := wr.drew) A9.out B9.out); have BAe := Lib.hid (chain (w := wr.drew) BA.out.drew B9.out); have FSe := Lib.hid (Own.keep FSd.out B9.out); have OOe := Lib.hid (Own.keep OOd.out B9.out); have c_A3e := cell_of_block A3e.out; have c_A6e := cell_of_block A6e.out; have f_A6e := frozen_of_block A6e.out; have c_A9e := cell_of_block A9e.out)
              | fail))
          go_wp2_with fail
          refine bodyPost_ret (v := .tuple #[.agg #[.int .i64 S.next, .slice p' S.fl.length cap', .int .i64 S.cwnd, .int .i64 S.acc, .int .i64 q.s, .int .i64 q.v, .int .i64 q.rto, .int .i64 q.fails, .bool q.has], .slice po o.length capo]) (by simp [results, Try.results43, go_sem, c_A6e]) rfl ⟨p', cap', po, capo, rfl, Lib.hid ?_, Lib.hid ?_, Lib.hid (by have hbsz := Below.size (BAe.out); (repeat (first | (with_reducible exact BAe.out) | (with_reducible refine bel_set (by first | omega | (simp; done) | (simp; omega)) ?_) | (with_reducible refine bel_alloc (by first | omega | (simp; done) | (simp; omega)) ?_) | (with_reducible refine bel_drew ?_) | (with_reducible refine bel_drewN ?_ _))); first | done | fail "left")⟩
          · exact Own.mono (B := w3.heap.size + 1) (by (repeat (first | (with_reducible exact FSe.out) | (with_reducible refine Own.set ?_ _ _ (by first | omega | (simp; done) | (simp; omega))) | (with_reducible refine Own.alloc ?_ _) | (with_reducible refine Own.drew ?_) | (with_reducible refine Own.drewN ?_ _))); first | done | fail "left") (by omega)
          · exact Own.mono (B := wx.heap.size) (by (repeat (first | (with_reducible exact OOe.out) | (with_reducible refine Own.set ?_ _ _ (by first | omega | (simp; done) | (simp; omega))) | (with_reducible refine Own.alloc ?_ _) | (with_reducible refine Own.drew ?_) | (with_reducible refine Own.drewN ?_ _))); first | done | fail "left") (by omega)
        · have t3 : ¬ (k : Int) < (D.length : Int) := by omega
          go_upto_region 13 with fail
          have FSd := Lib.hid (show Own 40 7 (w3.heap.size + 1) wr.drew (.slice p' S.fl.length cap') S.fl.length (flat Fl.cells S.fl) from FS.out)
          have OOd := Lib.hid (show Own 40 7 wx.heap.size wr.drew (.slice po o.length capo) o.length (flat Fl.cells o) from OO.out)
          go_region_held3 (fun w' => w'.cell? ⟨w3.heap.size, 0, none⟩ = some (.int .i64 S.next) ∧ w'.cell? ⟨w3.heap.size, 1, none⟩ = some (.slice p' S.fl.length cap') ∧ w'.cell? ⟨w3.heap.size, 2, none⟩ = some (.int .i64 S.cwnd) ∧ w'.cell? ⟨w3.heap.size, 3, none⟩ = some (.int .i64 S.acc) ∧ w'.cell? ⟨w.heap.size, 4, none⟩ = some (.int .i64 r.s) ∧ w'.cell? ⟨w.heap.size, 5, none⟩ = some (.int .i64 r.v) ∧ w'.cell? ⟨w.heap.size, 6, none⟩ = some (.int .i64 r.rto) ∧ w'.cell? ⟨w.heap.size, 7, none⟩ = some (.int .i64 r.fails) ∧ w'.cell? ⟨w.heap.size, 8, none⟩ = some (.bool r.has)) (go_keep)
            ((first
              | (go_at_call 65; refine (HRB.out _).mono ?_; rintro e w9 ⟨rfl, B9⟩; have A3e := Lib.hid (keepb (w := wr.drew) A3.out B9.out); have A6e := Lib.hid (keepb (w := wr.drew) A6.out B9.out); have A9e := Lib.hid (keepb (w := wr.drew) A9.out B9.out); have BAe := Lib.hid (chain (w := wr.drew) BA.out.drew B9.out); have FSe := Lib.hid (Own.keep FSd.out B9.out); have OOe := Lib.hid (Own.keep OOd.out B9.out); have c_A3e := cell_of_block A3e.out; have c_A6e := cell_of_block A6e.out; have f_A6e := frozen_of_block A6e.out; have c_A9e := cell_of_block A9e.out)
              | fail))
          go_wp2_with fail
          refine bodyPost_ret (v := .tuple #[.agg #[.int .i64 S.next, .slice p' S.fl.length cap', .int .i64 S.cwnd, .int .i64 S.acc, .int .i64 q.s, .int .i64 q.v, .int .i64 q.rto, .int .i64 q.fails, .bool q.has], .slice po o.length capo]) (by simp [results, Try.results43, go_sem, c_A6e]) rfl ⟨p', cap', po, capo, rfl, Lib.hid ?_, Lib.hid ?_, Lib.hid (by have hbsz := Below.size (BAe.out); (repeat (first | (with_reducible exact BAe.out) | (with_reducible refine bel_set (by first | omega | (simp; done) | (simp; omega)) ?_) | (with_reducible refine bel_alloc (by first | omega | (simp; done) | (simp; omega)) ?_) | (with_reducible refine bel_drew ?_) | (with_reducible refine bel_drewN ?_ _))); first | done | fail "left")⟩
          · exact Own.mono (B := w3.heap.size + 1) (by (repeat (first | (with_reducible exact FSe.out) | (with_reducible refine Own.set ?_ _ _ (by first | omega | (simp; done) | (simp; omega))) | (with_reducible refine Own.alloc ?_ _) | (with_reducible refine Own.drew ?_) | (with_reducible refine Own.drewN ?_ _))); first | done | fail "left") (by omega)
          · exact Own.mono (B := wx.heap.size) (by (repeat (first | (with_reducible exact OOe.out) | (with_reducible refine Own.set ?_ _ _ (by first | omega | (simp; done) | (simp; omega))) | (with_reducible refine Own.alloc ?_ _) | (with_reducible refine Own.drew ?_) | (with_reducible refine Own.drewN ?_ _))); first | done | fail "left") (by omega)
end Go.Proofs.Yteilgibfmljoeaa.K

/-
  CONTRACT of channel.Tick.
-/
import Derived.Test.YteilgibfmljoeaaChan2
set_option linter.unusedVariables false
set_option linter.unusedSimpArgs false
namespace Nj
theorem due_len (s : Sd) (now rto : Int) : (sdDue s now rto).length ≤ s.fl.length := by
  unfold sdDue; rw [List.length_map]; exact List.length_filter_le _ _
theorem take_K {α : Type} (l : List α) (m : Int) (h : 1 ≤ m) : l.take m.toNat = l.take (min m.toNat l.length) := by
  rw [List.take_eq_take_iff]; omega
end Nj
namespace Go.Proofs.Yteilgibfmljoeaa.K
open Go Go.RowKit Nj

/-- a channel and a row of flights -/
def RetChL (w : World) (d : Ch) (o : List Fl) (e : Ending) (w' : World) : Prop := ∃ p cap q cap', e = .returned (.tuple #[.agg #[.int .i64 d.send.next, .slice p d.send.fl.length cap, .int .i64 d.send.cwnd, .int .i64 d.send.acc, .int .i64 d.rtt.s, .int .i64 d.rtt.v, .int .i64 d.rtt.rto, .int .i64 d.rtt.fails, .bool d.rtt.has], .slice q o.length cap']) ∧
  Hid (Own 40 7 w.heap.size w' (.slice p d.send.fl.length cap) d.send.fl.length (flat Fl.cells d.send.fl)) ∧ Hid (Own 40 7 w.heap.size w' (.slice q o.length cap') o.length (flat Fl.cells o)) ∧ Hid (Below w.heap.size w w')

set_option maxRecDepth 100000 in
set_option maxHeartbeats 4000000 in
theorem ctick_any (n : Int) (v : Value) (c a : Int) (r : Rt) (l : List Fl) (now most : Int) (w : World) (h : Fls w v l) (hR : sdRight ⟨n, l, c, a⟩ = true) (hnow : 0 ≤ now ∧ now ≤ 1099511627776) (hrto : 0 ≤ r.rto ∧ r.rto ≤ 1099511627776) (hmost : most ≤ 9223372036854775807)
    (d : Ch) (o : List Fl) (hd : chTick ⟨⟨n, l, c, a⟩, r⟩ now most = (d, o)) :
    Calls Try.prog 12 #[.agg #[.int .i64 n, v, .int .i64 c, .int .i64 a, .int .i64 r.s, .int .i64 r.v, .int .i64 r.rto, .int .i64 r.fails, .bool r.has], .int .i64 now, .int .i64 most] w (RetChL w d o) := by
  have FS := Lib.hid h
  obtain ⟨p, cap, rfl, hcap⟩ := fls_shape h
  have HR := Lib.hid hR
  have HP := Lib.hid (rightSd hR)
  have HRt := Lib.hid hrto
  obtain ⟨n0, n1⟩ := hnow
  have hl8 : l.length ≤ 8 := HP.out.len
  have HF := Lib.hid (show ∀ f ∈ l, 0 ≤ f.at_ ∧ f.at_ ≤ 1099511627776 from fun f hf => by have := HP.out.fl f hf; omega)
  obtain ⟨D, hD⟩ : ∃ D, D = sdDue ⟨n, l, c, a⟩ now r.rto := ⟨_, rfl⟩
  have hDl : D.length ≤ 8 := by rw [hD]; exact Nat.le_trans (due_len _ _ _) hl8
  have HD := Lib.hid hD
  have HE := Lib.hid hd
  clear h hR hrto hD hd
  go_enter Try.func12, Try.ntmps12
  go_upto_region 1 with fail
  refine gen_wp (fun w1 => Hid (w1.heap[w.heap.size]? = some (.cells #[.int .i64 n, .slice p l.length cap, .int .i64 c, .int .i64 a, .int .i64 r.s, .int .i64 r.v, .int .i64 r.rto, .int .i64 r.fails, .bool r.has] 28)) ∧ Hid (w1.heap[(w.heap.size + 1)]? = some (.cells #[.int .i64 0, .slice none 0 0, .int .i64 0, .int .i64 0, .int .i64 0, .int .i64 0, .int .i64 0, .int .i64 0, .bool false] 28)) ∧ Hid (Below w.heap.size w w1) ∧ Hid (w1.heap.size = w.heap.size + 2) ∧ True) ⟨Lib.hid (by first | (simp [World.setCell, Array.getElem?_modify]; done) | (simp [World.setCell, Array.getElem?_modify]; omega) | ((repeat (first | (with_reducible exact heap_new _ _ _ (by first | rfl | (simp; done))) | (with_reducible refine keepa ?_ _) | (simp [World.setCell, Array.getElem?_modify]; done))); done)), Lib.hid (by first | (simp [World.setCell, Array.getElem?_modify]; done) | (simp [World.setCell, Array.getElem?_modify]; omega) | ((repeat (first | (with_reducible exact heap_new _ _ _ (by first | rfl | (simp; done))) | (with_reducible refine keepa ?_ _) | (simp [World.setCell, Array.getElem?_modify]; done))); done)), Lib.hid (by (repeat (first | (with_reducible exact Below.refl _ _) | (with_reducible refine bel_set (by first | omega | (simp; done) | (simp; omega)) ?_) | (with_reducible refine bel_alloc (by first | omega | (simp; done) | (simp; omega)) ?_) | (with_reducible refine bel_drew ?_) | (with_reducible refine bel_drewN ?_ _))); first | done | fail "left"), Lib.hid (by simp), trivial⟩ ?_
  rintro w1 ⟨A1, A6, BA, SZ, -⟩
  have c_A1 := cell_of_block A1.out
  have f_A1 := frozen_of_block A1.out
  have c_A6 := cell_of_block A6.out
  have f_A6 := frozen_of_block A6.out
  replace FS := fls_keep FS BA
  go_wp2_with fail
  refine (sdue_own n _ c a l now r.rto _ FS.out (by omega) HF.out HRt.out).mono ?_
  rintro e w2 ⟨pd, capd, rfl, OD, B2⟩
  rw [← HD.out] at OD ⊢
  replace A1 := Lib.hid (keepb A1.out B2.out)
  replace c_A1 := cell_of_block A1.out
  replace f_A1 := frozen_of_block A1.out
  replace A6 := Lib.hid (keepb A6.out B2.out)
  replace c_A6 := cell_of_block A6.out
  replace f_A6 := frozen_of_block A6.out
  replace BA := Lib.hid (chain BA.out B2.out)
  replace FS := fls_keep FS B2
  replace OD := Lib.hid (show Own 3 1 (w.heap.size + 2) w2 (.slice pd D.length capd) D.length (D.map (Value.int .i64)) by rw [← SZ.out]; exact OD.out)
  have SZ2 := Lib.hid (show w.heap.size + 2 ≤ w2.heap.size by have := B2.out.size; have := SZ.out; omega)
  have hcapd : D.length ≤ capd := by obtain ⟨_, _, e, h⟩ := OD.out.shape; injection e with e1 e2 e3; omega
  clear B2
  by_cases hno : D = [] ∨ most < 1
  · have HE2 := Lib.hid (show (d, o) = (⟨⟨n, l, c, a⟩, r⟩, []) by rw [← HE.out]; unfold chTick; simp only; rw [← HD.out, if_pos hno])
    cases HE2.out
    have z2 := SZ2.out
    rcases (show D.length = 0 ∨ (¬ D.length = 0 ∧ most < 1) by by_cases hz : D.length = 0; exact .inl hz; exact .inr ⟨hz, by rcases hno with h | h; exact absurd (by rw [h]; rfl) hz; exact h⟩) with hz | ⟨hz, hm⟩
    all_goals clear hno
    · have t1 : ((D.length : Int) == 0) = true := by simp [hz]
      go_wp2_with fail
      refine (fclone_any _ l _ FS.out (by omega)).mono ?_
      rintro e w3 ⟨p3, cap3, rfl, O3, B3⟩
      replace A1 := Lib.hid (keepb A1.out B3.out)
      replace c_A1 := cell_of_block A1.out
      replace f_A1 := frozen_of_block A1.out
      replace A6 := Lib.hid (keepb A6.out B3.out)
      replace c_A6 := cell_of_block A6.out
      replace f_A6 := frozen_of_block A6.out
      replace BA := Lib.hid (chain BA.out B3.out)
      go_upto_region 4 with fail
      refine gen_wp (fun w4 => Hid (w4.heap[w.heap.size]? = some (.cells #[.int .i64 n, .slice p3 l.length cap3, .int .i64 c, .int .i64 a, .int .i64 r.s, .int .i64 r.v, .int .i64 r.rto, .int .i64 r.fails, .bool r.has] 28)) ∧ Hid (w4.heap[(w.heap.size + 1)]? = some (.cells #[.int .i64 0, .slice none 0 0, .int .i64 0, .int .i64 0, .int .i64 0, .int .i64 0, .int .i64 0, .int .i64 0, .bool false] 28)) ∧ Hid (Below w.heap.size w w4) ∧ Hid (Own 40 7 w2.heap.size w4 (.slice p3 l.length cap3) l.length (flat Fl.cells l)) ∧ True) ⟨Lib.hid (by first | (simp [World.setCell, Array.getElem?_modify, A1.out, A6.out]; done) | (simp [World.setCell, Array.getElem?_modify, A1.out, A6.out]; omega) | ((repeat (first | (with_reducible exact A1.out) | (with_reducible exact A6.out) | (with_reducible exact heap_new _ _ _ (by first | rfl | (simp; done))) | (with_reducible refine keepa ?_ _) | (simp [World.setCell, Array.getElem?_modify, A1.out, A6.out]; done))); done)), Lib.hid (by first | (simp [World.setCell, Array.getElem?_modify, A1.out, A6.out]; done) | (simp [World.setCell, Array.getElem?_modify, A1.out, A6.out]; omega) | ((repeat (first | (with_reducible exact A1.out) | (with_reducible exact A6.out) | (with_reducible exact heap_new _ _ _ (by first | rfl | (simp; done))) | (with_reducible refine keepa ?_ _) | (simp [World.setCell, Array.getElem?_modify, A1.out, A6.out]; done))); done)), Lib.hid (by have hbsz := Below.size (BA.out); (repeat (first | (with_reducible exact BA.out) | (with_reducible refine bel_set (by first | omega | (simp; done) | (simp; omega)) ?_) | (with_reducible refine bel_alloc (by first | omega | (simp; done) | (simp; omega)) ?_) | (with_reducible refine bel_drew ?_) | (with_reducible refine bel_drewN ?_ _))); first | done | fail "left"), Lib.hid (by (repeat (first | (with_reducible exact O3.out) | (with_reducible refine Own.set ?_ _ _ (by first | omega | (simp; done) | (simp; omega))) | (with_reducible refine Own.alloc ?_ _) | (with_reducible refine Own.drew ?_) | (with_reducible refine Own.drewN ?_ _))); first | done | fail "left"), trivial⟩ ?_
      clear c_A1 f_A1 c_A6 f_A6
      rintro w4 ⟨A1, A6, BA, O4, -⟩
      have c_A1 := cell_of_block A1.out
      have f_A1 := frozen_of_block A1.out
      have c_A6 := cell_of_block A6.out
      have f_A6 := frozen_of_block A6.out
      go_wp2_with fail
      refine bodyPost_ret (v := .tuple #[.agg #[.int .i64 n, .slice p3 l.length cap3, .int .i64 c, .int .i64 a, .int .i64 r.s, .int .i64 r.v, .int .i64 r.rto, .int .i64 r.fails, .bool r.has], .slice none 0 0]) (by simp [results, Try.results12, go_sem, c_A6]) rfl ⟨p3, cap3, none, 0, rfl, Lib.hid ?_, Lib.hid (own_nil _ _ _ _), Lib.hid (by have hbsz := Below.size (BA.out); (repeat (first | (with_reducible exact BA.out) | (with_reducible refine bel_set (by first | omega | (simp; done) | (simp; omega)) ?_) | (with_reducible refine bel_alloc (by first | omega | (simp; done) | (simp; omega)) ?_) | (with_reducible refine bel_drew ?_) | (with_reducible refine bel_drewN ?_ _))); first | done | fail "left")⟩
      exact Own.mono (B := w2.heap.size) (by (repeat (first | (with_reducible exact O4.out) | (with_reducible refine Own.set ?_ _ _ (by first | omega | (simp; done) | (simp; omega))) | (with_reducible refine Own.alloc ?_ _) | (with_reducible refine Own.drew ?_) | (with_reducible refine Own.drewN ?_ _))); first | done | fail "left") (by omega)
    · have t1 : ((D.length : Int) == 0) = false := by simpa using hz
      go_wp2_with fail
      refine (fclone_any _ l _ FS.out (by omega)).mono ?_
      rintro e w3 ⟨p3, cap3, rfl, O3, B3⟩
      replace A1 := Lib.hid (keepb A1.out B3.out)
      replace c_A1 := cell_of_block A1.out
      replace f_A1 := frozen_of_block A1.out
      replace A6 := Lib.hid (keepb A6.out B3.out)
      replace c_A6 := cell_of_block A6.out
      replace f_A6 := frozen_of_block A6.out
      replace BA := Lib.hid (chain BA.out B3.out)
      go_upto_region 4 with fail
      refine gen_wp (fun w4 => Hid (w4.heap[w.heap.size]? = some (.cells #[.int .i64 n, .slice p3 l.length cap3, .int .i64 c, .int .i64 a, .int .i64 r.s, .int .i64 r.v, .int .i64 r.rto, .int .i64 r.fails, .bool r.has] 28)) ∧ Hid (w4.heap[(w.heap.size + 1)]? = some (.cells #[.int .i64 0, .slice none 0 0, .int .i64 0, .int .i64 0, .int .i64 0, .int .i64 0, .int .i64 0, .int .i64 0, .bool false] 28)) ∧ Hid (Below w.heap.size w w4) ∧ Hid (Own 40 7 w2.heap.size w4 (.slice p3 l.length cap3) l.length (flat Fl.cells l)) ∧ True) ⟨Lib.hid (by first | (simp [World.setCell, Array.getElem?_modify, A1.out, A6.out]; done) | (simp [World.setCell, Array.getElem?_modify, A1.out, A6.out]; omega) | ((repeat (first | (with_reducible exact A1.out) | (with_reducible exact A6.out) | (with_reducible exact heap_new _ _ _ (by first | rfl | (simp; done))) | (with_reducible refine keepa ?_ _) | (simp [World.setCell, Array.getElem?_modify, A1.out, A6.out]; done))); done)), Lib.hid (by first | (simp [World.setCell, Array.getElem?_modify, A1.out, A6.out]; done) | (simp [World.setCell, Array.getElem?_modify, A1.out, A6.out]; omega) | ((repeat (first | (with_reducible exact A1.out) | (with_reducible exact A6.out) | (with_reducible exact heap_new _ _ _ (by first | rfl | (simp; done))) | (with_reducible refine keepa ?_ _) | (simp [World.setCell, Array.getElem?_modify, A1.out, A6.out]; done))); done)), Lib.hid (by have hbsz := Below.size (BA.out); (repeat (first | (with_reducible exact BA.out) | (with_reducible refine bel_set (by first | omega | (simp; done) | (simp; omega)) ?_) | (with_reducible refine bel_alloc (by first | omega | (simp; done) | (simp; omega)) ?_) | (with_reducible refine bel_drew ?_) | (with_reducible refine bel_drewN ?_ _))); first | done | fail "left"), Lib.hid (by (repeat (first | (with_reducible exact O3.out) | (with_reducible refine Own.set ?_ _ _ (by first | omega | (simp; done) | (simp; omega))) | (with_reducible refine Own.alloc ?_ _) | (with_reducible refine Own.drew ?_) | (with_reducible refine Own.drewN ?_ _))); first | done | fail "left"), trivial⟩ ?_
      clear c_A1 f_A1 c_A6 f_A6
      rintro w4 ⟨A1, A6, BA, O4, -⟩
      have c_A1 := cell_of_block A1.out
      have f_A1 := frozen_of_block A1.out
      have c_A6 := cell_of_block A6.out
      have f_A6 := frozen_of_block A6.out
      go_wp2_with fail
      refine bodyPost_ret (v := .tuple #[.agg #[.int .i64 n, .slice p3 l.length cap3, .int .i64 c, .int .i64 a, .int .i64 r.s, .int .i64 r.v, .int .i64 r.rto, .int .i64 r.fails, .bool r.has], .slice none 0 0]) (by simp [results, Try.results12, go_sem, c_A6]) rfl ⟨p3, cap3, none, 0, rfl, Lib.hid ?_, Lib.hid (own_nil _ _ _ _), Lib.hid (by have hbsz := Below.size (BA.out); (repeat (first | (with_reducible exact BA.out) | (with_reducible refine bel_set (by first | omega | (simp; done) | (simp; omega)) ?_) | (with_reducible refine bel_alloc (by first | omega | (simp; done) | (simp; omega)) ?_) | (with_reducible refine bel_drew ?_) | (with_reducible refine bel_drewN ?_ _))); first | done | fail "left")⟩
      exact Own.mono (B := w2.heap.size) (by (repeat (first | (with_reducible exact O4.out) | (with_reducible refine Own.set ?_ _ _ (by first | omega | (simp; done) | (simp; omega))) | (with_reducible refine Own.alloc ?_ _) | (with_reducible refine Own.drew ?_) | (with_reducible refine Own.drewN ?_ _))); first | done | fail "left") (by omega)
  · have hpos : 0 < D.length := (Nat.eq_zero_or_pos D.length).resolve_left fun h => hno (.inl (List.length_eq_zero_iff.1 h))
    have hm1 : 1 ≤ most := by omega
    obtain ⟨m, hm⟩ : ∃ m, m = max (c / 2) 1 := ⟨_, rfl⟩
    obtain ⟨q, hq⟩ : ∃ q, rttBackoff r = q := ⟨_, rfl⟩
    obtain ⟨K, hK⟩ : ∃ K, K = min most.toNat D.length := ⟨_, rfl⟩
    have HE2 := Lib.hid (show (d, o) = (⟨(tickL now ⟨n, l, m, 0⟩ (D.take K)).1, q⟩, (tickL now ⟨n, l, m, 0⟩ (D.take K)).2) by
      rw [← HE.out]; unfold chTick; simp only
      rw [← HD.out, if_neg hno, take_K D most hm1, ← hK, hq, hm]; rfl)
    have HRl := Lib.hid (show sdRight ⟨n, l, m, 0⟩ = true by rw [hm]; exact right_lost HR.out)
    have t1 : ((D.length : Int) == 0) = false := by simp; intro h; simp [h] at hpos
    have hKD : K ≤ D.length := by omega
    have hK1 : 1 ≤ K := by omega
    have gK := int_rule (show (if (D.length : Int) < most then (D.length : Int) else most) = (K : Int) by omega)
    have HQ := Lib.hid hq
    have hc0 : 1 ≤ c := HP.out.c0
    have hc8 : c ≤ 8 := HP.out.c1
    have HM := Lib.hid hm
    have z2 := SZ2.out
    clear hno hm hq hK
    go_upto_region 5 with fail
    go_cut [] (fun wx => ∃ p4 cap4, wx.heap[w.heap.size]? = some (.cells #[.int .i64 n, .slice p4 l.length cap4, .int .i64 m, .int .i64 0, .int .i64 q.s, .int .i64 q.v, .int .i64 q.rto, .int .i64 q.fails, .bool q.has] 28) ∧ wx.heap[w.heap.size + 1]? = some (.cells #[.int .i64 0, .slice none 0 0, .int .i64 0, .int .i64 0, .int .i64 0, .int .i64 0, .int .i64 0, .int .i64 0, .bool false] 28) ∧ Below w.heap.size w wx ∧ Own 40 7 (w.heap.size + 2) wx (.slice p4 l.length cap4) l.length (flat Fl.cells l) ∧ Own 3 1 (w.heap.size + 2) wx (.slice pd D.length capd) D.length (D.map (Value.int .i64)))
    case first =>
      have A1d := Lib.hid (show w2.drew.heap[w.heap.size]? = some (.cells #[.int .i64 n, .slice p l.length cap, .int .i64 c, .int .i64 a, .int .i64 r.s, .int .i64 r.v, .int .i64 r.rto, .int .i64 r.fails, .bool r.has] 28) from A1.out)
      go_region_with ((first
        | (go_at_call 30; refine (slost_any n _ c a l _ (show Fls w2.drew _ _ from FS.out) (by omega) (by omega)).mono ?_; rintro e w4 ⟨p4, cap4, rfl, O4, B4⟩; rw [← HM.out]; have A1e := Lib.hid (keepb (w := w2.drew) A1.out B4.out); have A6e := Lib.hid (keepb (w := w2.drew) A6.out B4.out); have BAe := Lib.hid (chain (w := w2.drew) BA.out.drew B4.out); have ODe := Lib.hid (Own.keep (w := w2.drew) OD.out B4.out); have c_A1e := cell_of_block A1e.out; have f_A1e := frozen_of_block A1e.out; have z4 := B4.out.size; (try simp only [World.heap_drewS] at z4))
        | (go_at_call 31; refine (rttBackoff_at r _ q HQ.out).mono ?_; rintro e w5 ⟨rfl, B5⟩; have A1f := Lib.hid (keepb A1e.out B5.out); have A6f := Lib.hid (keepb A6e.out B5.out); have BAf := Lib.hid (chain BAe.out B5.out); have ODf := Lib.hid (ODe.out.keep B5.out); have O4f := Lib.hid (show Own 40 7 w2.heap.size _ _ _ _ from O4.out.keep B5.out); have c_A1f := cell_of_block A1f.out; have f_A1f := frozen_of_block A1f.out)))
      all_goals go_wp2_with fail
      all_goals go_meet
      all_goals
        refine ⟨p4, cap4, ?_, ?_, (by have hbsz := Below.size (BAf.out); (repeat (first | (with_reducible exact BAf.out) | (with_reducible refine bel_set (by first | omega | (simp; done) | (simp; omega)) ?_) | (with_reducible refine bel_alloc (by first | omega | (simp; done) | (simp; omega)) ?_) | (with_reducible refine bel_drew ?_) | (with_reducible refine bel_drewN ?_ _))); first | done | fail "left"), ?_, ?_⟩
        · simp [World.setCell, Array.getElem?_modify, A1f.out]
        · simp [World.setCell, Array.getElem?_modify, A6f.out]
        · refine Own.mono (B := w2.heap.size) ?_ z2
          exact (by (repeat (first | (with_reducible exact O4f.out) | (with_reducible refine Own.set ?_ _ _ (by first | omega | (simp; done) | (simp; omega))) | (with_reducible refine Own.alloc ?_ _) | (with_reducible refine Own.drew ?_) | (with_reducible refine Own.drewN ?_ _))); first | done | fail "left")
        · exact (by (repeat (first | (with_reducible exact ODf.out) | (with_reducible refine Own.set ?_ _ _ (by first | omega | (simp; done) | (simp; omega))) | (with_reducible refine Own.alloc ?_ _) | (with_reducible refine Own.drew ?_) | (with_reducible refine Own.drewN ?_ _))); first | done | fail "left")
    case rest =>
      obtain ⟨p4, cap4, a1, a6, hb, hf4, hod⟩ := hcut
      clear c_A1 f_A1 c_A6 f_A6 FS A1 A6 BA OD
      go_upto_region 7 with fail
      refine gen_wp (fun wx => Hid (wx.heap[w.heap.size]? = some (.cells #[.int .i64 n, .slice p4 l.length cap4, .int .i64 m, .int .i64 0, .int .i64 q.s, .int .i64 q.v, .int .i64 q.rto, .int .i64 q.fails, .bool q.has] 28)) ∧ Hid (wx.heap[w.heap.size + 1]? = some (.cells #[.int .i64 0, .slice none 0 0, .int .i64 0, .int .i64 0, .int .i64 0, .int .i64 0, .int .i64 0, .int .i64 0, .bool false] 28)) ∧ Hid (Below w.heap.size w wx) ∧ Hid (Own 40 7 (w.heap.size + 2) wx (.slice p4 l.length cap4) l.length (flat Fl.cells l)) ∧ Hid (Own 3 1 (w.heap.size + 2) wx (.slice pd D.length capd) D.length (D.map (Value.int .i64))) ∧ True) ⟨Lib.hid a1, Lib.hid a6, Lib.hid hb, Lib.hid hf4, Lib.hid hod, trivial⟩ ?_
      rintro wx ⟨A1, A6, BA, FS, OD, -⟩
      clear a1 a6 hb hf4 hod
      have c_A1 := cell_of_block A1.out
      have f_A1 := frozen_of_block A1.out
      have c_A6 := cell_of_block A6.out
      have f_A6 := frozen_of_block A6.out
      have k0 : (0 : Int) ≤ (K : Int) := by omega
      have k1 : (K : Int) ≤ (D.length : Int) := by omega
      have k2 : (K : Int) ≤ (capd : Int) := by omega
      have HSZ := Lib.hid (show w.heap.size + 2 ≤ wx.heap.size by have := block_lt A6.out; omega)
      have HLD := Lib.hid OD.out.lt
      go_wp2_with fail
      go_loopw [9, 51] (fun ov iv wr => ∃ (k : Nat) (S : Sd) (O : List Fl) (p' po : Option Addr) (cap' capo : Nat), k ≤ K ∧ iv = .int .i64 k ∧ ov = .slice po O.length capo ∧ O.length = k ∧ tickL now ⟨n, l, m, 0⟩ (D.take k) = (S, O) ∧
        wr.heap[w.heap.size]? = some (.cells #[.int .i64 S.next, .slice p' S.fl.length cap', .int .i64 S.cwnd, .int .i64 S.acc, .int .i64 q.s, .int .i64 q.v, .int .i64 q.rto, .int .i64 q.fails, .bool q.has] 28) ∧
        wr.heap[w.heap.size + 1]? = some (.cells #[.int .i64 0, .slice none 0 0, .int .i64 0, .int .i64 0, .int .i64 0, .int .i64 0, .int .i64 0, .int .i64 0, .bool false] 28) ∧
        Own 40 7 (w.heap.size + 2) wr (.slice p' S.fl.length cap') S.fl.length (flat Fl.cells S.fl) ∧ Own 40 7 wx.heap.size wr (.slice po O.length capo) O.length (flat Fl.cells O) ∧ Own 3 1 (w.heap.size + 2) wr (.slice pd D.length capd) D.length (D.map (Value.int .i64)) ∧ wx.heap.size ≤ wr.heap.size ∧ Below w.heap.size w wr) (fun _ i _ => K - (intOf i).toNat)
      case atStart => exact ⟨0, ⟨n, l, m, 0⟩, [], p4, none, cap4, 0, by omega, rfl, rfl, rfl, rfl, A1.out, A6.out, FS.out, own_nil _ _ _ _, OD.out, Nat.le_refl _, BA.out⟩
      case round =>
        obtain ⟨k, S, O, p', po, cap', capo, hk, rfl, rfl, hOl, htk, a1, a6, hfs, hoo, hod, hsz, hwb⟩ := hrel
        clear c_A1 f_A1 c_A6 f_A6 FS A1 A6 BA OD
        have A1 := Lib.hid a1
        have A6 := Lib.hid a6
        have BA := Lib.hid hwb
        have FS := Lib.hid hfs
        have OD := Lib.hid hod
        have OO := Lib.hid hoo
        have HT := Lib.hid htk
        have HOl := Lib.hid hOl
        have HRk := Lib.hid (show sdRight S = true ∧ S.fl.length = l.length by
          have := tickL_right n0 n1 (D.take k) _ HRl.out
          rw [htk] at this; exact ⟨this.1, this.2.2.1⟩)
        have hSl : S.fl.length ≤ 8 := by rw [HRk.out.2]; exact hl8
        clear a1 a6 hwb hfs hod hoo htk hOl
        have c_A1 := cell_of_block A1.out
        have f_A1 := frozen_of_block A1.out
        have c_A6 := cell_of_block A6.out
        have f_A6 := frozen_of_block A6.out
        by_cases hlt : k < K
        · have hkD : k < D.length := by omega
          obtain ⟨x, hx⟩ : ∃ x, x = D[k] := ⟨_, rfl⟩
          obtain ⟨bd, od, hpd, hcell⟩ := (ints_of_own OD.out).2.atp k hkD
          rw [← hx] at hcell
          subst hpd
          have HX := Lib.hid hx
          have t2 : (k : Int) < (K : Int) := by omega
          have t3 : (0 : Int) ≤ (k : Int) := by omega
          obtain ⟨S', f, ok, hrs⟩ : ∃ S' f ok, sdResend S x now = (S', f, ok) := ⟨_, _, _, rfl⟩
          have HRS := Lib.hid hrs
          have HTk := Lib.hid (show tickL now ⟨n, l, m, 0⟩ (D.take (k + 1)) = (S', O ++ [f]) by
            rw [List.take_add_one, List.getElem?_eq_getElem hkD, ← hx]
            exact tickL_snoc HT.out hrs)
          have HFt := Lib.hid (show ∀ f ∈ S.fl, 0 ≤ f.tries ∧ f.tries ≤ 1073741824 from fun f hf => by have := (rightSd HRk.out.1).fl f hf; omega)
          have hOk : O.length ≤ 8 := by rw [HOl.out]; omega
          clear hx hrs
          go_wp2_with fail
          refine (sresend_any S.next _ S.cwnd S.acc S.fl x now _ FS.out.sl (by omega) HFt.out S' f ok HRS.out).mono ?_
          rintro e w5 ⟨p5, cap5, rfl, O5, B5⟩
          replace A1 := Lib.hid (keepb A1.out B5.out)
          replace c_A1 := cell_of_block A1.out
          replace f_A1 := frozen_of_block A1.out
          replace A6 := Lib.hid (keepb A6.out B5.out)
          replace c_A6 := cell_of_block A6.out
          replace f_A6 := frozen_of_block A6.out
          have HLo := Lib.hid OO.out.lt
          replace BA := Lib.hid (chain BA.out B5.out)
          replace OO := Lib.hid (OO.out.keep B5.out)
          replace OD := Lib.hid (OD.out.keep B5.out)
          have hz5 : wx.heap.size ≤ w5.heap.size := by have := B5.out.size; omega
          have hzx := HSZ.out
          have hz5r : wr.heap.size ≤ w5.heap.size := B5.out.size
          clear B5 hcell
          go_upto_region 11 with fail
          refine gen_wp (fun w6 => Hid (Below w5.heap.size w5 w6) ∧ Hid (w6.heap[w5.heap.size]? = some (.cells #[.int .i64 S'.next, .slice p5 S'.fl.length cap5, .int .i64 S'.cwnd, .int .i64 S'.acc] 24)) ∧ Hid (w6.heap[(w5.heap.size + 1)]? = some (.cells #[.int .i64 f.seq, .int .i64 f.note.user, .int .i64 f.note.ver, .int .i64 f.note.stat, .int .i64 f.note.cnt, .int .i64 f.at_, .int .i64 f.tries] 40)) ∧ Hid (Own 40 7 wr.heap.size w6 (.slice p5 S'.fl.length cap5) S'.fl.length (flat Fl.cells S'.fl)) ∧ True) ⟨Lib.hid (by (repeat (first | (with_reducible exact Below.refl _ _) | (with_reducible refine bel_set (by first | omega | (simp; done) | (simp; omega)) ?_) | (with_reducible refine bel_alloc (by first | omega | (simp; done) | (simp; omega)) ?_) | (with_reducible refine bel_drew ?_) | (with_reducible refine bel_drewN ?_ _))); first | done | fail "left"), Lib.hid (by first | (simp [World.setCell, Array.getElem?_modify, A1.out, A6.out]; done) | (simp [World.setCell, Array.getElem?_modify, A1.out, A6.out]; omega) | ((repeat (first | (with_reducible exact A1.out) | (with_reducible exact A6.out) | (with_reducible exact heap_new _ _ _ (by first | rfl | (simp; done))) | (with_reducible refine keepa ?_ _) | (simp [World.setCell, Array.getElem?_modify, A1.out, A6.out]; done))); done)), Lib.hid (by first | (simp [World.setCell, Array.getElem?_modify, A1.out, A6.out]; done) | (simp [World.setCell, Array.getElem?_modify, A1.out, A6.out]; omega) | ((repeat (first | (with_reducible exact A1.out) | (with_reducible exact A6.out) | (with_reducible exact heap_new _ _ _ (by first | rfl | (simp; done))) | (with_reducible refine keepa ?_ _) | (simp [World.setCell, Array.getElem?_modify, A1.out, A6.out]; done))); done)), Lib.hid (by (repeat (first | (with_reducible exact O5.out) | (with_reducible refine Own.set ?_ _ _ (by first | omega | (simp; done) | (simp; omega))) | (with_reducible refine Own.alloc ?_ _) | (with_reducible refine Own.drew ?_) | (with_reducible refine Own.drewN ?_ _))); first | done | fail "left"), trivial⟩ ?_
          clear c_A1 f_A1 c_A6 f_A6
          rintro w6 ⟨N, A12, A13, O6, -⟩
          have c_A12 := cell_of_block A12.out
          have f_A12 := frozen_of_block A12.out
          have c_A13 := cell_of_block A13.out
          have f_A13 := frozen_of_block A13.out
          replace A1 := Lib.hid (keepb A1.out N.out)
          replace c_A1 := cell_of_block A1.out
          replace f_A1 := frozen_of_block A1.out
          replace A6 := Lib.hid (keepb A6.out N.out)
          replace c_A6 := cell_of_block A6.out
          replace f_A6 := frozen_of_block A6.out
          replace BA := Lib.hid (chain BA.out N.out)
          replace OO := Lib.hid (OO.out.keep N.out)
          replace OD := Lib.hid (OD.out.keep N.out)
          have HZ6 := Lib.hid N.out.size
          clear N O5
          have m1 : w.heap.size ≠ w5.heap.size := by omega
          have m2 : w.heap.size ≠ w5.heap.size + 1 := by omega
          go_upto_region 12 with fail
          refine gen_wp (fun w7 => Hid (w7.heap[w.heap.size]? = some (.cells #[.int .i64 S'.next, .slice p5 S'.fl.length cap5, .int .i64 S'.cwnd, .int .i64 S'.acc, .int .i64 q.s, .int .i64 q.v, .int .i64 q.rto, .int .i64 q.fails, .bool q.has] 28)) ∧ Hid (w7.heap[(w.heap.size + 1)]? = some (.cells #[.int .i64 0, .slice none 0 0, .int .i64 0, .int .i64 0, .int .i64 0, .int .i64 0, .int .i64 0, .int .i64 0, .bool false] 28)) ∧ Hid (w7.heap[(w5.heap.size + 1)]? = some (.cells #[.int .i64 f.seq, .int .i64 f.note.user, .int .i64 f.note.ver, .int .i64 f.note.stat, .int .i64 f.note.cnt, .int .i64 f.at_, .int .i64 f.tries] 40)) ∧ Hid (Below w.heap.size w w7) ∧ Hid (Own 40 7 wr.heap.size w7 (.slice p5 S'.fl.length cap5) S'.fl.length (flat Fl.cells S'.fl)) ∧ Hid (Own 40 7 wx.heap.size w7 (.slice po O.length capo) O.length (flat Fl.cells O)) ∧ Hid (Own 3 1 (w.heap.size + 2) w7 (.slice (some ⟨bd, od, none⟩) D.length capd) D.length (D.map (Value.int .i64))) ∧ Hid (w5.heap.size ≤ w7.heap.size) ∧ True) ⟨Lib.hid (by first | (simp [World.setCell, Array.getElem?_modify, A1.out, A6.out, A12.out, A13.out, m1, m1.symm, m2, m2.symm]; done) | (simp [World.setCell, Array.getElem?_modify, A1.out, A6.out, A12.out, A13.out, m1, m1.symm, m2, m2.symm]; omega) | ((repeat (first | (with_reducible exact A1.out) | (with_reducible exact A6.out) | (with_reducible exact A12.out) | (with_reducible exact A13.out) | (with_reducible exact heap_new _ _ _ (by first | rfl | (simp; done))) | (with_reducible refine keepa ?_ _) | (simp [World.setCell, Array.getElem?_modify, A1.out, A6.out, A12.out, A13.out, m1, m1.symm, m2, m2.symm]; done))); done)), Lib.hid (by first | (simp [World.setCell, Array.getElem?_modify, A1.out, A6.out, A12.out, A13.out, m1, m1.symm, m2, m2.symm]; done) | (simp [World.setCell, Array.getElem?_modify, A1.out, A6.out, A12.out, A13.out, m1, m1.symm, m2, m2.symm]; omega) | ((repeat (first | (with_reducible exact A1.out) | (with_reducible exact A6.out) | (with_reducible exact A12.out) | (with_reducible exact A13.out) | (with_reducible exact heap_new _ _ _ (by first | rfl | (simp; done))) | (with_reducible refine keepa ?_ _) | (simp [World.setCell, Array.getElem?_modify, A1.out, A6.out, A12.out, A13.out, m1, m1.symm, m2, m2.symm]; done))); done)), Lib.hid (by first | (simp [World.setCell, Array.getElem?_modify, A1.out, A6.out, A12.out, A13.out, m1, m1.symm, m2, m2.symm]; done) | (simp [World.setCell, Array.getElem?_modify, A1.out, A6.out, A12.out, A13.out, m1, m1.symm, m2, m2.symm]; omega) | ((repeat (first | (with_reducible exact A1.out) | (with_reducible exact A6.out) | (with_reducible exact A12.out) | (with_reducible exact A13.out) | (with_reducible exact heap_new _ _ _ (by first | rfl | (simp; done))) | (with_reducible refine keepa ?_ _) | (simp [World.setCell, Array.getElem?_modify, A1.out, A6.out, A12.out, A13.out, m1, m1.symm, m2, m2.symm]; done))); done)), Lib.hid (by have hbsz := Below.size (BA.out); (repeat (first | (with_reducible exact BA.out) | (with_reducible refine bel_set (by first | omega | (simp; done) | (simp; omega)) ?_) | (with_reducible refine bel_alloc (by first | omega | (simp; done) | (simp; omega)) ?_) | (with_reducible refine bel_drew ?_) | (with_reducible refine bel_drewN ?_ _))); first | done | fail "left"), Lib.hid (by (repeat (first | (with_reducible exact O6.out) | (with_reducible refine Own.set ?_ _ _ (by first | omega | (simp; done) | (simp; omega))) | (with_reducible refine Own.alloc ?_ _) | (with_reducible refine Own.drew ?_) | (with_reducible refine Own.drewN ?_ _))); first | done | fail "left"), Lib.hid (by (repeat (first | (with_reducible exact OO.out) | (with_reducible refine Own.set ?_ _ _ (by first | omega | (simp; done) | (simp; omega))) | (with_reducible refine Own.alloc ?_ _) | (with_reducible refine Own.drew ?_) | (with_reducible refine Own.drewN ?_ _))); first | done | fail "left"), Lib.hid (by (repeat (first | (with_reducible exact OD.out) | (with_reducible refine Own.set ?_ _ _ (by first | omega | (simp; done) | (simp; omega))) | (with_reducible refine Own.alloc ?_ _) | (with_reducible refine Own.drew ?_) | (with_reducible refine Own.drewN ?_ _))); first | done | fail "left"), Lib.hid (by have := HZ6.out; simp [World.setCell]; omega), trivial⟩ ?_
          clear c_A1 f_A1 c_A6 f_A6 c_A12 f_A12 c_A13 f_A13
          rintro w7 ⟨A1, A6, A13, BA, O7, OO, OD, HZ7, -⟩
          have c_A1 := cell_of_block A1.out
          have f_A1 := frozen_of_block A1.out
          have c_A6 := cell_of_block A6.out
          have f_A6 := frozen_of_block A6.out
          have c_A13 := cell_of_block A13.out
          have f_A13 := frozen_of_block A13.out
          have z7 := HZ7.out
          have hzr : wx.heap.size ≤ w7.heap.size := by omega
          have HNE := Lib.hid (show ∀ k, (Value.slice po O.length capo).ownBlock = some k → wx.heap.size ≤ k ∧ k < wr.heap.size from fun k hk => ⟨OO.out.block k hk, HLo.out k hk⟩)
          have HO7 := Lib.hid O7.out.block
          have HDB := Lib.hid (show ∀ k, (Value.slice (some ⟨bd, od, none⟩) D.length capd).ownBlock = some k → k < wx.heap.size from HLD.out)
          go_wp2_with (at_builtin; refine wpList_app rfl (.tmp 66) (.tmp 68) 22 rfl wx.heap.size 40 (.agg #[.int .i64 0, .int .i64 0, .int .i64 0, .int .i64 0, .int .i64 0, .int .i64 0, .int .i64 0]) 7 56 Try.underlying22 (by kernel_rfl) rfl (by decide) w.heap.size w (Lib.hid (BA.out.alloc BA.out.size _)) (by omega) (Lib.hid (OO.out.alloc _)) rfl ⟨w7.heap.size, 0, none⟩ 1 1 rfl f.cells rfl (Lib.hid (news_new (heap_new _ _ _ rfl))) (by simp [Value.oneCell', Fl.cells]) (by omega) (by omega) (by simp; omega) ?_; intro p2 cap2 w8 hc2 HO8 HB8 HK8; replace A1 := Lib.hid (HK8.out _ _ (keepa A1.out _) (fun k hk => by have := HNE.out k hk; omega)); replace c_A1 := cell_of_block A1.out; replace f_A1 := frozen_of_block A1.out; replace A6 := Lib.hid (HK8.out _ _ (keepa A6.out _) (fun k hk => by have := HNE.out k hk; omega)); replace c_A6 := cell_of_block A6.out; replace f_A6 := frozen_of_block A6.out; replace A13 := Lib.hid (HK8.out _ _ (keepa A13.out _) (fun k hk => by have := HNE.out k hk; omega)); replace c_A13 := cell_of_block A13.out; replace f_A13 := frozen_of_block A13.out; replace O7 := Lib.hid (Own.kept (O7.out.alloc _) HK8.out (fun g hg k hk => by have := HO7.out g hg; have := (HNE.out k hk).2; omega)); replace OD := Lib.hid (Own.kept (OD.out.alloc _) HK8.out (fun g hg k hk => by have := HDB.out g hg; have := (HNE.out k hk).1; omega)))
          go_roundw
          case rel =>
            refine ⟨k + 1, S', O ++ [f], p5, p2, cap5, cap2, by omega, by go_num, by simp, by simp; exact HOl.out, HTk.out, A1.out, A6.out, O7.out.mono (by omega), ?_, OD.out, ?_, HB8.out⟩
            · rw [flat_append, List.length_append]; exact HO8.out
            · have := block_lt A13.out; omega
          case measure => simp [intOf]; omega
        · obtain rfl : k = K := by omega
          have t2 : decide ((k : Int) < (k : Int)) = false := by simp
          have HE3 := Lib.hid (show (d, o) = (⟨S, q⟩, O) by rw [HE2.out, HT.out])
          cases HE3.out
          have hzx := HSZ.out
          go_wp2_with fail
          refine bodyPost_ret (v := .tuple #[.agg #[.int .i64 S.next, .slice p' S.fl.length cap', .int .i64 S.cwnd, .int .i64 S.acc, .int .i64 q.s, .int .i64 q.v, .int .i64 q.rto, .int .i64 q.fails, .bool q.has], .slice po o.length capo]) (by simp [results, Try.results12, go_sem, World.setCell, Array.getElem?_modify, World.cell?, A6.out]) rfl ⟨p', cap', po, capo, rfl, Lib.hid ?_, Lib.hid ?_, Lib.hid (by have hbsz := Below.size (BA.out); (repeat (first | (with_reducible exact BA.out) | (with_reducible refine bel_set (by first | omega | (simp; done) | (simp; omega)) ?_) | (with_reducible refine bel_alloc (by first | omega | (simp; done) | (simp; omega)) ?_) | (with_reducible refine bel_drew ?_) | (with_reducible refine bel_drewN ?_ _))); first | done | fail "left")⟩
          · exact Own.mono (B := w.heap.size + 2) (by (repeat (first | (with_reducible exact FS.out) | (with_reducible refine Own.set ?_ _ _ (by first | omega | (simp; done) | (simp; omega))) | (with_reducible refine Own.alloc ?_ _) | (with_reducible refine Own.drew ?_) | (with_reducible refine Own.drewN ?_ _))); first | done | fail "left") (by omega)
          · exact Own.mono (B := wx.heap.size) (by (repeat (first | (with_reducible exact OO.out) | (with_reducible refine Own.set ?_ _ _ (by first | omega | (simp; done) | (simp; omega))) | (with_reducible refine Own.alloc ?_ _) | (with_reducible refine Own.drew ?_) | (with_reducible refine Own.drewN ?_ _))); first | done | fail "left") (by omega)
end Go.Proofs.Yteilgibfmljoeaa.K

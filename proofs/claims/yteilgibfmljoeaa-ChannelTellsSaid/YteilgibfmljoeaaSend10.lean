/-
  CONTRACT of send.Acked.
-/
import Derived.Test.YteilgibfmljoeaaSend9
set_option linter.unusedVariables false
set_option linter.unusedSimpArgs false
namespace Nj
theorem chain_facts {n : Int} : ∀ {l : List Fl} {last : Int}, flChain n last l = true → 0 ≤ last → ∀ f ∈ l, last < f.seq ∧ f.seq < n ∧ n - f.seq ≤ 8 ∧ 1 ≤ f.tries ∧ f.tries ≤ 1073741824 ∧ 0 ≤ f.at_ ∧ f.at_ ≤ 1099511627776
  | [], _, _, _, f, hf => by cases hf
  | g :: l, last, h, h0, f, hf => by
    simp only [flChain, Bool.and_eq_true, flFits, decide_eq_true_eq] at h
    rcases List.mem_cons.1 hf with rfl | hf
    · omega
    · have := chain_facts h.2 (by omega) f hf
      omega
structure RightSd (s : Sd) : Prop where
  n0 : 1 ≤ s.next
  n1 : s.next ≤ 1073741824
  c0 : 1 ≤ s.cwnd
  c1 : s.cwnd ≤ 8
  a0 : 0 ≤ s.acc
  a1 : s.acc < 8
  len : s.fl.length ≤ 8
  fl : ∀ f ∈ s.fl, 0 < f.seq ∧ f.seq < s.next ∧ s.next - f.seq ≤ 8 ∧ 1 ≤ f.tries ∧ f.tries ≤ 1073741824 ∧ 0 ≤ f.at_ ∧ f.at_ ≤ 1099511627776
theorem rightSd {s : Sd} (h : sdRight s = true) : RightSd s := by
  simp only [sdRight, sdEnds, Bool.and_eq_true, decide_eq_true_eq] at h
  obtain ⟨hc, h1, h2, h3, h4, h5, h6, h7⟩ := h
  exact ⟨h1, h2, h3, h4, h5, h6, h7, chain_facts hc (Int.le_refl _)⟩
end Nj
namespace Go.Proofs.Yteilgibfmljoeaa.K
open Go Go.RowKit Nj

/-- a Send and a number -/
def RetSdI (w : World) (s : Sd) (m : Int) (e : Ending) (w' : World) : Prop := ∃ p cap, e = .returned (.tuple #[.agg #[.int .i64 s.next, .slice p s.fl.length cap, .int .i64 s.cwnd, .int .i64 s.acc], .int .i64 m]) ∧ Hid (Own 40 7 w.heap.size w' (.slice p s.fl.length cap) s.fl.length (flat Fl.cells s.fl)) ∧ Hid (Below w.heap.size w w')

set_option maxHeartbeats 4000000 in
theorem sacked_any (n : Int) (v : Value) (c a : Int) (l : List Fl) (ack sack now : Int) (w : World) (h : Fls w v l) (hr : sdRight ⟨n, l, c, a⟩ = true) (hnow : 0 ≤ now ∧ now ≤ 1099511627776)
    (s : Sd) (m : Int) (hs : sdAcked ⟨n, l, c, a⟩ ack sack now = (s, m)) :
    Calls Try.prog 26 #[.agg #[.int .i64 n, v, .int .i64 c, .int .i64 a], .int .i64 ack, .int .i64 sack, .int .i64 now] w (RetSdI w s m) := by
  have HS := Lib.hid h
  have HR := Lib.hid (rightSd hr)
  have HE := Lib.hid hs
  have HN := Lib.hid hnow
  obtain ⟨p, cap, rfl, hcap⟩ := fls_shape h
  have hl : l.length ≤ 8 := HR.out.len
  clear h hr hs hnow
  go_enter Try.func26, Try.ntmps26
  go_upto_region 1 with fail
  simp only [Nat.add_assoc, Nat.reduceAdd]
  refine gen_wp (fun wa => Hid (wa.heap[w.heap.size]? = some (.cells #[.int .i64 n, .slice p l.length cap, .int .i64 c, .int .i64 a] 24)) ∧ Hid (wa.heap[(w.heap.size + 1)]? = some (.cells #[.int .i64 ack] 3)) ∧ Hid (wa.heap[(w.heap.size + 2)]? = some (.cells #[.int .i64 sack] 3)) ∧ Hid (wa.heap[(w.heap.size + 3)]? = some (.cells #[.int .i64 now] 3)) ∧ Hid (wa.heap[(w.heap.size + 4)]? = some (.cells #[.int .i64 0, .slice none 0 0, .int .i64 0, .int .i64 0] 24)) ∧ Hid (Below w.heap.size w wa) ∧ Hid (wa.heap.size = w.heap.size + 5) ∧ True) ⟨Lib.hid (by first | (simp [World.setCell, Array.getElem?_modify]; done) | (simp [World.setCell, Array.getElem?_modify]; omega) | ((repeat (first | (with_reducible exact heap_new _ _ _ (by first | rfl | (simp; done))) | (with_reducible refine keepa ?_ _) | (simp [World.setCell, Array.getElem?_modify]; done))); done)), Lib.hid (by first | (simp [World.setCell, Array.getElem?_modify]; done) | (simp [World.setCell, Array.getElem?_modify]; omega) | ((repeat (first | (with_reducible exact heap_new _ _ _ (by first | rfl | (simp; done))) | (with_reducible refine keepa ?_ _) | (simp [World.setCell, Array.getElem?_modify]; done))); done)), Lib.hid (by first | (simp [World.setCell, Array.getElem?_modify]; done) | (simp [World.setCell, Array.getElem?_modify]; omega) | ((repeat (first | (with_reducible exact heap_new _ _ _ (by first | rfl | (simp; done))) | (with_reducible refine keepa ?_ _) | (simp [World.setCell, Array.getElem?_modify]; done))); done)), Lib.hid (by first | (simp [World.setCell, Array.getElem?_modify]; done) | (simp [World.setCell, Array.getElem?_modify]; omega) | ((repeat (first | (with_reducible exact heap_new _ _ _ (by first | rfl | (simp; done))) | (with_reducible refine keepa ?_ _) | (simp [World.setCell, Array.getElem?_modify]; done))); done)), Lib.hid (by first | (simp [World.setCell, Array.getElem?_modify]; done) | (simp [World.setCell, Array.getElem?_modify]; omega) | ((repeat (first | (with_reducible exact heap_new _ _ _ (by first | rfl | (simp; done))) | (with_reducible refine keepa ?_ _) | (simp [World.setCell, Array.getElem?_modify]; done))); done)), Lib.hid (by (repeat (first | (with_reducible exact Below.refl _ _) | (with_reducible refine bel_set (by first | omega | (simp; done) | (simp; omega)) ?_) | (with_reducible refine bel_alloc (by first | omega | (simp; done) | (simp; omega)) ?_) | (with_reducible refine bel_drew ?_) | (with_reducible refine bel_drewN ?_ _))); first | done | fail "left"), Lib.hid (by simp), trivial⟩ ?_
  rintro wa ⟨A1, A2, A3, A4, A5, BA, SZ, -⟩
  have c_A1 := cell_of_block A1.out
  have f_A1 := frozen_of_block A1.out
  have c_A2 := cell_of_block A2.out
  have f_A2 := frozen_of_block A2.out
  have c_A3 := cell_of_block A3.out
  have f_A3 := frozen_of_block A3.out
  have c_A4 := cell_of_block A4.out
  have f_A4 := frozen_of_block A4.out
  have c_A5 := cell_of_block A5.out
  have f_A5 := frozen_of_block A5.out
  go_wp2_with fail
  refine (sown_any _ _ _ _ l _ (HS.out.keep (by decide) BA.out) (by omega)).mono ?_
  rintro e w1 ⟨p1, cap1, rfl, HO1, B1⟩
  replace HO1 := Lib.hid (show Own 40 7 (w.heap.size + 5) w1 (.slice p1 l.length cap1) l.length (flat Fl.cells l) by rw [← SZ.out]; exact HO1.out)
  replace A1 := Lib.hid (keepb A1.out B1.out)
  replace c_A1 := cell_of_block A1.out
  replace f_A1 := frozen_of_block A1.out
  replace A2 := Lib.hid (keepb A2.out B1.out)
  replace c_A2 := cell_of_block A2.out
  replace f_A2 := frozen_of_block A2.out
  replace A3 := Lib.hid (keepb A3.out B1.out)
  replace c_A3 := cell_of_block A3.out
  replace f_A3 := frozen_of_block A3.out
  replace A4 := Lib.hid (keepb A4.out B1.out)
  replace c_A4 := cell_of_block A4.out
  replace f_A4 := frozen_of_block A4.out
  replace A5 := Lib.hid (keepb A5.out B1.out)
  replace c_A5 := cell_of_block A5.out
  replace f_A5 := frozen_of_block A5.out
  replace BA := Lib.hid (chain BA.out B1.out)
  have HLt := Lib.hid HO1.out.lt
  have hsz1 : w.heap.size + 5 ≤ w1.heap.size := by have := SZ.out; have := B1.out.size; omega
  go_upto_region 3 with fail
  refine gen_wp (fun w2 => Hid (w2.heap[w.heap.size]? = some (.cells #[.int .i64 n, .slice p1 l.length cap1, .int .i64 c, .int .i64 a] 24)) ∧ Hid (w2.heap[(w.heap.size + 1)]? = some (.cells #[.int .i64 ack] 3)) ∧ Hid (w2.heap[(w.heap.size + 2)]? = some (.cells #[.int .i64 sack] 3)) ∧ Hid (w2.heap[(w.heap.size + 3)]? = some (.cells #[.int .i64 now] 3)) ∧ Hid (w2.heap[(w.heap.size + 4)]? = some (.cells #[.int .i64 0, .slice none 0 0, .int .i64 0, .int .i64 0] 24)) ∧ Hid (w2.heap[w1.heap.size]? = some (.cells #[.int .i64 (-1)] 3)) ∧ Hid (Below w.heap.size w w2) ∧ Hid (Own 40 7 (w.heap.size + 5) w2 (.slice p1 l.length cap1) l.length (flat Fl.cells l)) ∧ Hid (w2.heap.size = w1.heap.size + 1) ∧ True) ⟨Lib.hid (by first | (simp [World.setCell, Array.getElem?_modify, A1.out, A2.out, A3.out, A4.out, A5.out]; done) | (simp [World.setCell, Array.getElem?_modify, A1.out, A2.out, A3.out, A4.out, A5.out]; omega) | ((repeat (first | (with_reducible exact A1.out) | (with_reducible exact A2.out) | (with_reducible exact A3.out) | (with_reducible exact A4.out) | (with_reducible exact A5.out) | (with_reducible exact heap_new _ _ _ (by first | rfl | (simp; done))) | (with_reducible refine keepa ?_ _) | (simp [World.setCell, Array.getElem?_modify, A1.out, A2.out, A3.out, A4.out, A5.out]; done))); done)), Lib.hid (by first | (simp [World.setCell, Array.getElem?_modify, A1.out, A2.out, A3.out, A4.out, A5.out]; done) | (simp [World.setCell, Array.getElem?_modify, A1.out, A2.out, A3.out, A4.out, A5.out]; omega) | ((repeat (first | (with_reducible exact A1.out) | (with_reducible exact A2.out) | (with_reducible exact A3.out) | (with_reducible exact A4.out) | (with_reducible exact A5.out) | (with_reducible exact heap_new _ _ _ (by first | rfl | (simp; done))) | (with_reducible refine keepa ?_ _) | (simp [World.setCell, Array.getElem?_modify, A1.out, A2.out, A3.out, A4.out, A5.out]; done))); done)), Lib.hid (by first | (simp [World.setCell, Array.getElem?_modify, A1.out, A2.out, A3.out, A4.out, A5.out]; done) | (simp [World.setCell, Array.getElem?_modify, A1.out, A2.out, A3.out, A4.out, A5.out]; omega) | ((repeat (first | (with_reducible exact A1.out) | (with_reducible exact A2.out) | (with_reducible exact A3.out) | (with_reducible exact A4.out) | (with_reducible exact A5.out) | (with_reducible exact heap_new _ _ _ (by first | rfl | (simp; done))) | (with_reducible refine keepa ?_ _) | (simp [World.setCell, Array.getElem?_modify, A1.out, A2.out, A3.out, A4.out, A5.out]; done))); done)), Lib.hid (by first | (simp [World.setCell, Array.getElem?_modify, A1.out, A2.out, A3.out, A4.out, A5.out]; done) | (simp [World.setCell, Array.getElem?_modify, A1.out, A2.out, A3.out, A4.out, A5.out]; omega) | ((repeat (first | (with_reducible exact A1.out) | (with_reducible exact A2.out) | (with_reducible exact A3.out) | (with_reducible exact A4.out) | (with_reducible exact A5.out) | (with_reducible exact heap_new _ _ _ (by first | rfl | (simp; done))) | (with_reducible refine keepa ?_ _) | (simp [World.setCell, Array.getElem?_modify, A1.out, A2.out, A3.out, A4.out, A5.out]; done))); done)), Lib.hid (by first | (simp [World.setCell, Array.getElem?_modify, A1.out, A2.out, A3.out, A4.out, A5.out]; done) | (simp [World.setCell, Array.getElem?_modify, A1.out, A2.out, A3.out, A4.out, A5.out]; omega) | ((repeat (first | (with_reducible exact A1.out) | (with_reducible exact A2.out) | (with_reducible exact A3.out) | (with_reducible exact A4.out) | (with_reducible exact A5.out) | (with_reducible exact heap_new _ _ _ (by first | rfl | (simp; done))) | (with_reducible refine keepa ?_ _) | (simp [World.setCell, Array.getElem?_modify, A1.out, A2.out, A3.out, A4.out, A5.out]; done))); done)), Lib.hid (by first | (simp [World.setCell, Array.getElem?_modify, A1.out, A2.out, A3.out, A4.out, A5.out]; done) | (simp [World.setCell, Array.getElem?_modify, A1.out, A2.out, A3.out, A4.out, A5.out]; omega) | ((repeat (first | (with_reducible exact A1.out) | (with_reducible exact A2.out) | (with_reducible exact A3.out) | (with_reducible exact A4.out) | (with_reducible exact A5.out) | (with_reducible exact heap_new _ _ _ (by first | rfl | (simp; done))) | (with_reducible refine keepa ?_ _) | (simp [World.setCell, Array.getElem?_modify, A1.out, A2.out, A3.out, A4.out, A5.out]; done))); done)), Lib.hid (by have hbsz := Below.size (BA.out); (repeat (first | (with_reducible exact BA.out) | (with_reducible refine bel_set (by first | omega | (simp; done) | (simp; omega)) ?_) | (with_reducible refine bel_alloc (by first | omega | (simp; done) | (simp; omega)) ?_) | (with_reducible refine bel_drew ?_) | (with_reducible refine bel_drewN ?_ _))); first | done | fail "left"), Lib.hid (by (repeat (first | (with_reducible exact HO1.out) | (with_reducible refine Own.set ?_ _ _ (by first | omega | (simp; done) | (simp; omega))) | (with_reducible refine Own.alloc ?_ _) | (with_reducible refine Own.drew ?_) | (with_reducible refine Own.drewN ?_ _))); first | done | fail "left"), Lib.hid (by simp), trivial⟩ ?_
  clear c_A1 f_A1 c_A2 f_A2 c_A3 f_A3 c_A4 f_A4 c_A5 f_A5
  rintro w2 ⟨A1, A2, A3, A4, A5, A6, BA, HO1, SZ2, -⟩
  have c_A1 := cell_of_block A1.out
  have f_A1 := frozen_of_block A1.out
  have c_A2 := cell_of_block A2.out
  have f_A2 := frozen_of_block A2.out
  have c_A3 := cell_of_block A3.out
  have f_A3 := frozen_of_block A3.out
  have c_A4 := cell_of_block A4.out
  have f_A4 := frozen_of_block A4.out
  have c_A5 := cell_of_block A5.out
  have f_A5 := frozen_of_block A5.out
  have c_A6 := cell_of_block A6.out
  have f_A6 := frozen_of_block A6.out
  have hne61 : w1.heap.size ≠ w.heap.size := by omega
  have hne62 : w1.heap.size ≠ w.heap.size + 4 := by omega
  have hn1 : n ≤ 1073741824 := HR.out.n1
  by_cases hout : ack < 0 ∨ n ≤ ack
  · have HE2 := Lib.hid (show (s, m) = (⟨n, l, c, a⟩, -1) by rw [← HE.out]; unfold sdAcked; rw [if_pos hout])
    rcases (show ack < 0 ∨ (¬ ack < 0 ∧ n ≤ ack) by omega) with e1 | ⟨e1, e2⟩
    all_goals clear hout
    all_goals
      cases HE2.out
      go_wp2_with fail
      go_region
      go_wp2_with fail
      refine bodyPost_ret (v := .tuple #[.agg #[.int .i64 n, .slice p1 l.length cap1, .int .i64 c, .int .i64 a], .int .i64 (-1)]) (by simp [results, Try.results26, go_sem, c_A5]) rfl ⟨p1, cap1, rfl, Lib.hid ?_, Lib.hid (by have hbsz := Below.size (BA.out); (repeat (first | (with_reducible exact BA.out) | (with_reducible refine bel_set (by first | omega | (simp; done) | (simp; omega)) ?_) | (with_reducible refine bel_alloc (by first | omega | (simp; done) | (simp; omega)) ?_) | (with_reducible refine bel_drew ?_) | (with_reducible refine bel_drewN ?_ _))); first | done | fail "left")⟩
      exact Own.mono (B := w.heap.size + 5) (by (repeat (first | (with_reducible exact HO1.out) | (with_reducible refine Own.set ?_ _ _ (by first | omega | (simp; done) | (simp; omega))) | (with_reducible refine Own.alloc ?_ _) | (with_reducible refine Own.drew ?_) | (with_reducible refine Own.drewN ?_ _))); first | done | fail "left") (by omega)
  · obtain ⟨fl', hfl⟩ : ∃ fl', fl' = l.filter fun f => !told f.seq ack sack := ⟨_, rfl⟩
    obtain ⟨g, hg⟩ : ∃ g, g = growF 16 (a + (l.length - fl'.length)) c := ⟨_, rfl⟩
    have hle : fl'.length ≤ l.length := by rw [hfl]; exact List.length_filter_le _ _
    have HE2 := Lib.hid (show (s, m) = (⟨n, fl', g.2, g.1⟩, l.foldl (sampleOf ack sack now) (-1)) by
      rw [← HE.out]; unfold sdAcked; rw [if_neg hout]; simp only [hg, hfl])
    have e1 : ¬ ack < 0 := by omega
    have e2 : ¬ n ≤ ack := by omega
    have HFl := Lib.hid hfl
    have HG := Lib.hid hg
    have t0 : 0 ≤ ack := by omega
    clear hout hfl hg
    go_wp2_with fail
    refine (delf_any (w.heap.size + 5) p1 cap1 l (w.heap.size + 1) (w.heap.size + 2) w1.heap.size (w.heap.size + 3) ack sack (-1) now w2 HO1.out (by omega) A2.out A3.out A6.out A4.out (by omega)
      (fun k hk => by have := HLt.out k hk; have := HO1.out.block k hk; omega) (fun f hf => by have := HR.out.fl f hf; simp only at this; omega) (by omega) HN.out).mono ?_
    rintro e w3 ⟨rfl, HO3, M3, S3⟩
    rw [← HFl.out] at HO3 ⊢
    have NE := Lib.hid (show ∀ b, b ≤ w.heap.size + 4 → ¬ ((Value.slice p1 l.length cap1).ownBlock = some b ∨ b = w1.heap.size) from fun b hb hh => by
      rcases hh with hh | hh
      · have := HO1.out.block b hh; omega
      · omega)
    replace A1 := Lib.hid (M3.out.keep A1.out (NE.out _ (by omega)))
    replace A5 := Lib.hid (M3.out.keep A5.out (NE.out _ (by omega)))
    have BA3 := Lib.hid (M3.out.below BA.out BA.out.size (fun k hk => by
      rcases hk with hk | hk
      · have := HO1.out.block k hk; omega
      · omega))
    have A6' := S3
    clear c_A1 f_A1 c_A2 f_A2 c_A3 f_A3 c_A4 f_A4 c_A5 f_A5 c_A6 f_A6
    have c_A1 := cell_of_block A1.out
    have f_A1 := frozen_of_block A1.out
    have c_A5 := cell_of_block A5.out
    have f_A5 := frozen_of_block A5.out
    have c_A6' := cell_of_block A6'.out
    have f_A6' := frozen_of_block A6'.out
    have a0 : 0 ≤ a := HR.out.a0
    have a1 : a ≤ 7 := by have := HR.out.a1; simp only at this; omega
    have q0 : 1 ≤ c := HR.out.c0
    have q1 : c ≤ 8 := HR.out.c1
    go_upto_region 8 with fail
    refine gen_wp (fun w4 => Hid (w4.heap[w.heap.size]? = some (.cells #[.int .i64 n, .slice p1 fl'.length cap1, .int .i64 c, .int .i64 (a + ((l.length : Int) - (fl'.length : Int)))] 24)) ∧ Hid (w4.heap[(w.heap.size + 4)]? = some (.cells #[.int .i64 0, .slice none 0 0, .int .i64 0, .int .i64 0] 24)) ∧ Hid (w4.heap[w1.heap.size]? = some (.cells #[.int .i64 (l.foldl (sampleOf ack sack now) (-1))] 3)) ∧ Hid (Below w.heap.size w w4) ∧ Hid (Own 40 7 (w.heap.size + 5) w4 (.slice p1 fl'.length cap1) fl'.length (flat Fl.cells fl')) ∧ True) ⟨Lib.hid (by first | (simp [World.setCell, Array.getElem?_modify, A1.out, A5.out, A6'.out, hne61, hne61.symm]; done) | (simp [World.setCell, Array.getElem?_modify, A1.out, A5.out, A6'.out, hne61, hne61.symm]; omega) | ((repeat (first | (with_reducible exact A1.out) | (with_reducible exact A5.out) | (with_reducible exact A6'.out) | (with_reducible exact heap_new _ _ _ (by first | rfl | (simp; done))) | (with_reducible refine keepa ?_ _) | (simp [World.setCell, Array.getElem?_modify, A1.out, A5.out, A6'.out, hne61, hne61.symm]; done))); done)), Lib.hid (by first | (simp [World.setCell, Array.getElem?_modify, A1.out, A5.out, A6'.out, hne61, hne61.symm]; done) | (simp [World.setCell, Array.getElem?_modify, A1.out, A5.out, A6'.out, hne61, hne61.symm]; omega) | ((repeat (first | (with_reducible exact A1.out) | (with_reducible exact A5.out) | (with_reducible exact A6'.out) | (with_reducible exact heap_new _ _ _ (by first | rfl | (simp; done))) | (with_reducible refine keepa ?_ _) | (simp [World.setCell, Array.getElem?_modify, A1.out, A5.out, A6'.out, hne61, hne61.symm]; done))); done)), Lib.hid (by first | (simp [World.setCell, Array.getElem?_modify, A1.out, A5.out, A6'.out, hne61, hne61.symm]; done) | (simp [World.setCell, Array.getElem?_modify, A1.out, A5.out, A6'.out, hne61, hne61.symm]; omega) | ((repeat (first | (with_reducible exact A1.out) | (with_reducible exact A5.out) | (with_reducible exact A6'.out) | (with_reducible exact heap_new _ _ _ (by first | rfl | (simp; done))) | (with_reducible refine keepa ?_ _) | (simp [World.setCell, Array.getElem?_modify, A1.out, A5.out, A6'.out, hne61, hne61.symm]; done))); done)), Lib.hid (by have hbsz := Below.size (BA3.out); (repeat (first | (with_reducible exact BA3.out) | (with_reducible refine bel_set (by first | omega | (simp; done) | (simp; omega)) ?_) | (with_reducible refine bel_alloc (by first | omega | (simp; done) | (simp; omega)) ?_) | (with_reducible refine bel_drew ?_) | (with_reducible refine bel_drewN ?_ _))); first | done | fail "left"), Lib.hid (by (repeat (first | (with_reducible exact HO3.out) | (with_reducible refine Own.set ?_ _ _ (by first | omega | (simp; done) | (simp; omega))) | (with_reducible refine Own.alloc ?_ _) | (with_reducible refine Own.drew ?_) | (with_reducible refine Own.drewN ?_ _))); first | done | fail "left"), trivial⟩ ?_
    clear c_A1 f_A1 c_A5 f_A5 c_A6' f_A6'
    rintro w4 ⟨A1, A5, A6', BA4, HO4, -⟩
    have c_A1 := cell_of_block A1.out
    have f_A1 := frozen_of_block A1.out
    have c_A5 := cell_of_block A5.out
    have f_A5 := frozen_of_block A5.out
    have c_A6' := cell_of_block A6'.out
    have f_A6' := frozen_of_block A6'.out
    obtain ⟨acc, hacc⟩ : ∃ acc, acc = a + ((l.length : Int) - (fl'.length : Int)) := ⟨_, rfl⟩
    rw [← hacc] at A1
    have b0 : 0 ≤ acc := by omega
    have b1 : acc ≤ 16 := by omega
    have HG2 := Lib.hid (show g = growF 16 acc c by rw [HG.out, hacc])
    have HGW := Lib.hid (fun W => grow_any n p1 fl'.length cap1 c acc W ⟨q0, q1⟩ ⟨b0, b1⟩)
    rw [← HG2.out] at HGW
    obtain ⟨sm, hsm⟩ : ∃ sm, sm = l.foldl (sampleOf ack sack now) (-1) := ⟨_, rfl⟩
    rw [← hsm] at A6'
    have HSM := Lib.hid hsm
    clear c_A1 f_A1 c_A6' f_A6' hacc hsm
    have c_A1 := cell_of_block A1.out
    have f_A1 := frozen_of_block A1.out
    have c_A6' := cell_of_block A6'.out
    have f_A6' := frozen_of_block A6'.out
    have hne63 := hne62.symm
    have hz1 := block_lt A1.out
    have hz5 := block_lt A5.out
    have hz6 := block_lt A6'.out
    go_region_held3 (fun w' => w'.cell? ⟨w.heap.size, 0, none⟩ = some (.int .i64 n) ∧ w'.cell? ⟨w.heap.size, 1, none⟩ = some (.slice p1 fl'.length cap1) ∧ w'.cell? ⟨w.heap.size, 2, none⟩ = some (.int .i64 c) ∧ w'.cell? ⟨w.heap.size, 3, none⟩ = some (.int .i64 acc) ∧ w'.cell? ⟨w1.heap.size, 0, none⟩ = some (.int .i64 sm)) (go_keep)
      ((first
        | (go_at_call 54; refine (HGW.out w4.drew).mono ?_; rintro e w5 ⟨rfl, B5⟩; have c5_1 := cell_of_block (keepb (show w4.drew.heap[w.heap.size]? = _ from A1.out) B5.out); have c5_6 := cell_of_block (keepb (show w4.drew.heap[w1.heap.size]? = _ from A6'.out) B5.out); have A5b := Lib.hid (keepb (show w4.drew.heap[w.heap.size + 4]? = _ from A5.out) B5.out); have c5_5 := cell_of_block A5b.out; have f5_5 := frozen_of_block A5b.out)))
    have HO5 := Lib.hid ((show Own 40 7 (w.heap.size + 5) w4.drew (.slice p1 fl'.length cap1) fl'.length (flat Fl.cells fl') from HO4.out).keep B5.out)
    have BA5 := Lib.hid (chain (show Below w.heap.size w w4.drew from BA4.out.drew) B5.out)
    obtain ⟨g1, g2⟩ := g
    cases HE2.out
    go_wp2_with fail
    refine bodyPost_ret (v := .tuple #[.agg #[.int .i64 n, .slice p1 fl'.length cap1, .int .i64 g2, .int .i64 g1], .int .i64 sm]) (by simp [results, Try.results26, go_sem, c5_5]) rfl ⟨p1, cap1, by rw [HSM.out], Lib.hid ?_, Lib.hid (by have hbsz := Below.size (BA5.out); (repeat (first | (with_reducible exact BA5.out) | (with_reducible refine bel_set (by first | omega | (simp; done) | (simp; omega)) ?_) | (with_reducible refine bel_alloc (by first | omega | (simp; done) | (simp; omega)) ?_) | (with_reducible refine bel_drew ?_) | (with_reducible refine bel_drewN ?_ _))); first | done | fail "left")⟩
    refine Own.mono (B := w.heap.size + 5) ?_ (by omega)
    show Own 40 7 (w.heap.size + 5) _ (.slice p1 fl'.length cap1) fl'.length (flat Fl.cells fl')
    exact (by (repeat (first | (with_reducible exact HO5.out) | (with_reducible refine Own.set ?_ _ _ (by first | omega | (simp; done) | (simp; omega))) | (with_reducible refine Own.alloc ?_ _) | (with_reducible refine Own.drew ?_) | (with_reducible refine Own.drewN ?_ _))); first | done | fail "left")
end Go.Proofs.Yteilgibfmljoeaa.K

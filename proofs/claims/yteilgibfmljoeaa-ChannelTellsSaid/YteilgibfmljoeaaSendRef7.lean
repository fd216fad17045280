/-
  CONTRACT of nightjarref11.Acked.
-/
import Derived.Test.YteilgibfmljoeaaSendRef6
import Derived.Test.YteilgibfmljoeaaSendPlain
set_option linter.unusedVariables false
set_option linter.unusedSimpArgs false
namespace Nj
open Go Go.RowKit
theorem told_lo {q a s : Int} (h : q ≤ a) : told q a s = true := by unfold told; simp [h]
theorem told_mid {q a s : Int} (h : ¬ q ≤ a) (h' : q - a - 2 < 0) : told q a s = false := by
  unfold told; rw [decide_eq_false h, decide_eq_false (show ¬ 0 ≤ q - a - 2 by omega)]; rfl
theorem told_hi {q a s : Int} (h : 6 < q - a - 2) : told q a s = false := by
  unfold told; rw [decide_eq_false (show ¬ q ≤ a by omega), decide_eq_false (show ¬ q - a - 2 < 7 by omega)]; simp
theorem told_bit {q a s : Int} (h0 : 0 ≤ q - a - 2) (h1 : q - a - 2 ≤ 6) : told q a s = bitAt s (q - a - 2).toNat := by
  unfold told; rw [decide_eq_false (show ¬ q ≤ a by omega), decide_eq_true (show 0 ≤ q - a - 2 by omega), decide_eq_true (show q - a - 2 < 7 by omega)]; simp
theorem bit_rem (s : Int) (k : Nat) : ((s / 2 ^ k).tmod 2 == 0) = !bitAt s k := by
  unfold bitAt
  generalize s / 2 ^ k = x
  rw [Bool.eq_iff_iff]
  simp only [beq_iff_eq, Bool.not_eq_true', decide_eq_false_iff_not]
  have h1 : x.tmod 2 = 0 ↔ x % 2 = 0 := by
    rw [← Int.dvd_iff_tmod_eq_zero, ← Int.dvd_iff_emod_eq_zero]
  rw [h1]; omega
def accOf (b : Nat) (w : World) : Nat := (intOf ((w.cell? ⟨b, 3, none⟩).getD undef)).toNat
end Nj
namespace Go.Proofs.Yteilgibfmljoeaa.K
open Go Go.RowKit Nj

set_option maxHeartbeats 4000000 in
theorem racked_any (n : Int) (v : Value) (c a : Int) (l : List Fl) (ack sack now : Int) (w : World) (h : Fls w v l) (hR : sdRight ⟨n, l, c, a⟩ = true) (hnow : 0 ≤ now ∧ now ≤ 1099511627776)
    (s : Sd) (m : Int) (hr : sdAcked ⟨n, l, c, a⟩ ack sack now = (s, m)) :
    Calls Try.prog 60 #[.agg #[.int .i64 n, v, .int .i64 c, .int .i64 a], .int .i64 ack, .int .i64 sack, .int .i64 now] w fun e w' => ∃ p cap, e = .returned (.tuple #[.agg #[.int .i64 s.next, .slice p s.fl.length cap, .int .i64 s.cwnd, .int .i64 s.acc], .int .i64 m]) ∧ Hid (Own 40 7 w.heap.size w' (.slice p s.fl.length cap) s.fl.length (flat Fl.cells s.fl)) ∧ Hid (Below w.heap.size w w') := by
  have FS := Lib.hid h
  have FS0 := Lib.hid h
  have HP := Lib.hid (rightSd hR)
  have hl8 : l.length ≤ 8 := HP.out.len
  have hn0 : 1 ≤ n := HP.out.n0
  have hn1 : n ≤ 1073741824 := HP.out.n1
  have q0 : 1 ≤ c := HP.out.c0
  have q1 : c ≤ 8 := HP.out.c1
  have a0 : 0 ≤ a := HP.out.a0
  have a1 : a ≤ 7 := by have := HP.out.a1; simp only at this; omega
  obtain ⟨e1, e2⟩ := hnow
  have HE := Lib.hid hr
  obtain ⟨p, cap, rfl, hcap⟩ := fls_shape h
  clear h hR hr
  go_enter Try.func60, Try.ntmps60
  go_upto_region 1 with fail
  refine gen_wp (fun w1 => Hid (w1.heap[w.heap.size]? = some (.cells #[.int .i64 n, .slice p l.length cap, .int .i64 c, .int .i64 a] 24)) ∧ Hid (w1.heap[(w.heap.size + 1)]? = some (.cells #[.int .i64 0, .slice none 0 0, .int .i64 0, .int .i64 0] 24)) ∧ Hid (Below w.heap.size w w1) ∧ Hid (w1.heap.size = w.heap.size + 2) ∧ True) ⟨Lib.hid (by first | (simp [World.setCell, Array.getElem?_modify]; done) | (simp [World.setCell, Array.getElem?_modify]; omega) | ((repeat (first | (with_reducible exact heap_new _ _ _ (by first | rfl | (simp; done))) | (with_reducible refine keepa ?_ _) | (simp [World.setCell, Array.getElem?_modify]; done))); done)), Lib.hid (by first | (simp [World.setCell, Array.getElem?_modify]; done) | (simp [World.setCell, Array.getElem?_modify]; omega) | ((repeat (first | (with_reducible exact heap_new _ _ _ (by first | rfl | (simp; done))) | (with_reducible refine keepa ?_ _) | (simp [World.setCell, Array.getElem?_modify]; done))); done)), Lib.hid (by (repeat (first | (with_reducible exact Below.refl _ _) | (with_reducible refine bel_set (by first | omega | (simp; done) | (simp; omega)) ?_) | (with_reducible refine bel_alloc (by first | omega | (simp; done) | (simp; omega)) ?_) | (with_reducible refine bel_drew ?_) | (with_reducible refine bel_drewN ?_ _))); first | done | fail "left"), Lib.hid (by simp), trivial⟩ ?_
  rintro w1 ⟨A1, A3, BA, SZ, -⟩
  have c_A1 := cell_of_block A1.out
  have f_A1 := frozen_of_block A1.out
  have c_A3 := cell_of_block A3.out
  have f_A3 := frozen_of_block A3.out
  replace FS := fls_keep FS BA
  go_wp2_with fail
  refine (rcopied_any n _ c a l _ FS.out (by omega)).mono ?_; rintro e w2 ⟨p1, cap1, rfl, O2, B2⟩
  replace A1 := Lib.hid (keepb A1.out B2.out)
  replace c_A1 := cell_of_block A1.out
  replace f_A1 := frozen_of_block A1.out
  replace A3 := Lib.hid (keepb A3.out B2.out)
  replace c_A3 := cell_of_block A3.out
  replace f_A3 := frozen_of_block A3.out
  replace BA := Lib.hid (chain BA.out B2.out)
  replace FS := fls_keep FS B2
  replace O2 := Lib.hid (show Own 40 7 (w.heap.size + 2) w2 (.slice p1 l.length cap1) l.length (flat Fl.cells l) by rw [← SZ.out]; exact O2.out)
  have SZ2 := Lib.hid (show w.heap.size + 2 ≤ w2.heap.size by have := B2.out.size; have := SZ.out; omega)
  go_upto_region 2 with fail
  refine gen_wp (fun w3 => Hid (Below w2.heap.size w2 w3) ∧ Hid (w3.heap[w2.heap.size]? = some (.cells #[.int .i64 n, .slice p1 l.length cap1, .int .i64 c, .int .i64 a] 24)) ∧ Hid (w3.heap.size = w2.heap.size + 1) ∧ True) ⟨Lib.hid (by (repeat (first | (with_reducible exact Below.refl _ _) | (with_reducible refine bel_set (by first | omega | (simp; done) | (simp; omega)) ?_) | (with_reducible refine bel_alloc (by first | omega | (simp; done) | (simp; omega)) ?_) | (with_reducible refine bel_drew ?_) | (with_reducible refine bel_drewN ?_ _))); first | done | fail "left"), Lib.hid (by first | (simp [World.setCell, Array.getElem?_modify, A1.out, A3.out]; done) | (simp [World.setCell, Array.getElem?_modify, A1.out, A3.out]; omega) | ((repeat (first | (with_reducible exact A1.out) | (with_reducible exact A3.out) | (with_reducible exact heap_new _ _ _ (by first | rfl | (simp; done))) | (with_reducible refine keepa ?_ _) | (simp [World.setCell, Array.getElem?_modify, A1.out, A3.out]; done))); done)), Lib.hid (by simp), trivial⟩ ?_
  clear c_A1 f_A1 c_A3 f_A3
  rintro w3 ⟨N, A9, SZ3, -⟩
  have c_A9 := cell_of_block A9.out
  have f_A9 := frozen_of_block A9.out
  replace A1 := Lib.hid (keepb A1.out N.out)
  replace c_A1 := cell_of_block A1.out
  replace f_A1 := frozen_of_block A1.out
  replace A3 := Lib.hid (keepb A3.out N.out)
  replace c_A3 := cell_of_block A3.out
  replace f_A3 := frozen_of_block A3.out
  replace BA := Lib.hid (chain BA.out N.out)
  replace FS := fls_keep FS N
  replace O2 := Lib.hid (O2.out.keep N.out)
  clear N B2
  have z2 := SZ2.out
  have m1 : w.heap.size ≠ w2.heap.size := by omega
  have m2 : w.heap.size + 1 ≠ w2.heap.size := by omega
  by_cases hout : ack < 0 ∨ n ≤ ack
  · have HE2 := Lib.hid (show (s, m) = (⟨n, l, c, a⟩, -1) by rw [← HE.out]; unfold sdAcked; rw [if_pos hout])
    rcases (show ack < 0 ∨ (¬ ack < 0 ∧ n ≤ ack) by omega) with e1 | ⟨e1, e2⟩
    all_goals clear hout
    all_goals
      cases HE2.out
      go_wp2_with fail
      (try go_region)
      (try go_wp2_with fail)
      refine bodyPost_ret (v := .tuple #[.agg #[.int .i64 n, .slice p1 l.length cap1, .int .i64 c, .int .i64 a], .int .i64 (-1)]) (by simp [results, Try.results60, go_sem, World.setCell, Array.getElem?_modify, World.cell?, A3.out]) rfl ⟨p1, cap1, rfl, Lib.hid ?_, Lib.hid (by have hbsz := Below.size (BA.out); (repeat (first | (with_reducible exact BA.out) | (with_reducible refine bel_set (by first | omega | (simp; done) | (simp; omega)) ?_) | (with_reducible refine bel_alloc (by first | omega | (simp; done) | (simp; omega)) ?_) | (with_reducible refine bel_drew ?_) | (with_reducible refine bel_drewN ?_ _))); first | done | fail "left")⟩
      exact Own.mono (B := w.heap.size + 2) (by (repeat (first | (with_reducible exact O2.out) | (with_reducible refine Own.set ?_ _ _ (by first | omega | (simp; done) | (simp; omega))) | (with_reducible refine Own.alloc ?_ _) | (with_reducible refine Own.drew ?_) | (with_reducible refine Own.drewN ?_ _))); first | done | fail "left") (by omega)
  · have f1 : ¬ ack < 0 := by omega
    have f2 : ¬ n ≤ ack := by omega
    have t0 : 0 ≤ ack := by omega
    obtain ⟨D, hD⟩ : ∃ D : Nat → List Fl, ∀ k, D k = (l.take k).filter fun f => !told f.seq ack sack := ⟨_, fun _ => rfl⟩
    obtain ⟨S, hS⟩ : ∃ S : Nat → Int, ∀ k, S k = (l.take k).foldl (sampleOf ack sack now) (-1) := ⟨_, fun _ => rfl⟩
    have HDl := Lib.hid (show ∀ k, (D k).length ≤ l.length from fun k => by rw [hD]; exact Nat.le_trans (List.length_filter_le _ _) (List.length_take_le' _ _))
    have HD := Lib.hid hD
    have HSs := Lib.hid hS
    have HFl := Lib.hid (show ∀ f ∈ l, (1 ≤ f.seq ∧ f.seq ≤ 1073741824) ∧ 0 ≤ f.at_ ∧ f.at_ ≤ 1099511627776 from fun f hf => by have := HP.out.fl f hf; simp only at this; omega)
    have HSb := Lib.hid (show ∀ k, -1 ≤ S k ∧ S k ≤ 1099511627776 from fun k => by
      rw [hS]; exact sample_bound (by omega) _ _ (fun f hf => (HFl.out f (List.mem_of_mem_take hf)).2.1) (by omega) (by omega))
    obtain ⟨g, hg⟩ : ∃ g, g = growF 16 (a + ((l.length : Int) - ((D l.length).length : Int))) c := ⟨_, rfl⟩
    have HE2 := Lib.hid (show (s, m) = (⟨n, D l.length, g.2, g.1⟩, S l.length) by
      rw [← HE.out]; unfold sdAcked; rw [if_neg hout]; simp only [hg, hD, hS, List.take_length])
    have HG := Lib.hid hg
    clear hout hD hS hg
    go_upto_region 5 with fail
    refine gen_wp (fun w4 => Hid (w4.heap[w.heap.size]? = some (.cells #[.int .i64 n, .slice p l.length cap, .int .i64 c, .int .i64 a] 24)) ∧ Hid (w4.heap[(w.heap.size + 1)]? = some (.cells #[.int .i64 0, .slice none 0 0, .int .i64 0, .int .i64 0] 24)) ∧ Hid (w4.heap[w2.heap.size]? = some (.cells #[.int .i64 n, .slice none 0 0, .int .i64 c, .int .i64 a] 24)) ∧ Hid (Below w.heap.size w w4) ∧ Hid (w4.heap.size = w2.heap.size + 1) ∧ True) ⟨Lib.hid (by first | (simp [World.setCell, Array.getElem?_modify, A1.out, A3.out, A9.out, m1, m1.symm, m2, m2.symm]; done) | (simp [World.setCell, Array.getElem?_modify, A1.out, A3.out, A9.out, m1, m1.symm, m2, m2.symm]; omega) | ((repeat (first | (with_reducible exact A1.out) | (with_reducible exact A3.out) | (with_reducible exact A9.out) | (with_reducible exact heap_new _ _ _ (by first | rfl | (simp; done))) | (with_reducible refine keepa ?_ _) | (simp [World.setCell, Array.getElem?_modify, A1.out, A3.out, A9.out, m1, m1.symm, m2, m2.symm]; done))); done)), Lib.hid (by first | (simp [World.setCell, Array.getElem?_modify, A1.out, A3.out, A9.out, m1, m1.symm, m2, m2.symm]; done) | (simp [World.setCell, Array.getElem?_modify, A1.out, A3.out, A9.out, m1, m1.symm, m2, m2.symm]; omega) | ((repeat (first | (with_reducible exact A1.out) | (with_reducible exact A3.out) | (with_reducible exact A9.out) | (with_reducible exact heap_new _ _ _ (by first | rfl | (simp; done))) | (with_reducible refine keepa ?_ _) | (simp [World.setCell, Array.getElem?_modify, A1.out, A3.out, A9.out, m1, m1.symm, m2, m2.symm]; done))); done)), Lib.hid (by first | (simp [World.setCell, Array.getElem?_modify, A1.out, A3.out, A9.out, m1, m1.symm, m2, m2.symm]; done) | (simp [World.setCell, Array.getElem?_modify, A1.out, A3.out, A9.out, m1, m1.symm, m2, m2.symm]; omega) | ((repeat (first | (with_reducible exact A1.out) | (with_reducible exact A3.out) | (with_reducible exact A9.out) | (with_reducible exact heap_new _ _ _ (by first | rfl | (simp; done))) | (with_reducible refine keepa ?_ _) | (simp [World.setCell, Array.getElem?_modify, A1.out, A3.out, A9.out, m1, m1.symm, m2, m2.symm]; done))); done)), Lib.hid (by have hbsz := Below.size (BA.out); (repeat (first | (with_reducible exact BA.out) | (with_reducible refine bel_set (by first | omega | (simp; done) | (simp; omega)) ?_) | (with_reducible refine bel_alloc (by first | omega | (simp; done) | (simp; omega)) ?_) | (with_reducible refine bel_drew ?_) | (with_reducible refine bel_drewN ?_ _))); first | done | fail "left"), Lib.hid (by simpa using SZ3.out), trivial⟩ ?_
    clear c_A1 f_A1 c_A3 f_A3 c_A9 f_A9
    rintro w4 ⟨A1, A3, A9, BA, SZ4, -⟩
    have c_A1 := cell_of_block A1.out
    have f_A1 := frozen_of_block A1.out
    have c_A3 := cell_of_block A3.out
    have f_A3 := frozen_of_block A3.out
    have c_A9 := cell_of_block A9.out
    have f_A9 := frozen_of_block A9.out
    have FS4 : Hid (Fls w4 (.slice p l.length cap) l) := Lib.hid (FS0.out.keep (by decide) BA.out)
    clear FS O2
    go_wp2_with fail
    go_loopw [11, 12] (fun sv iv wr => ∃ (k d cap' : Nat) (p' : Option Addr), k ≤ l.length ∧ iv = .int .i64 k ∧ sv = .int .i64 (S k) ∧ d = (D k).length ∧ Own 40 7 (w2.heap.size + 1) wr (.slice p' d cap') d (flat Fl.cells (D k)) ∧
      wr.heap[w2.heap.size]? = some (.cells #[.int .i64 n, .slice p' d cap', .int .i64 c, .int .i64 (a + ((k : Int) - (d : Int)))] 24) ∧ wr.heap[w.heap.size]? = some (.cells #[.int .i64 n, .slice p l.length cap, .int .i64 c, .int .i64 a] 24) ∧
      wr.heap[w.heap.size + 1]? = some (.cells #[.int .i64 0, .slice none 0 0, .int .i64 0, .int .i64 0] 24) ∧ Below w.heap.size w wr) (fun _ i _ => l.length - (intOf i).toNat)
    case atStart => 
      refine ⟨0, 0, 0, none, by omega, rfl, by rw [HSs.out]; rfl, by rw [HD.out]; rfl, ?_, by simpa using A9.out, A1.out, A3.out, BA.out⟩
      have : D 0 = [] := by rw [HD.out]; rfl
      rw [this]; exact own_nil _ _ _ _
    case round =>
      obtain ⟨k, d, cap', p', hk, rfl, rfl, hd, hown, h9, h1, h3, hwb⟩ := hrel
      clear c_A1 f_A1 c_A3 f_A3 c_A9 f_A9 A1 A3 A9 BA FS4
      have HO := Lib.hid hown
      have A9 := Lib.hid h9
      have A1 := Lib.hid h1
      have A3 := Lib.hid h3
      have BA := Lib.hid hwb
      have HDd := Lib.hid hd
      have FS := Lib.hid (FS0.out.keep (by decide) BA.out)
      have hd8 : d ≤ 8 := by have := HDl.out k; omega
      have hzr := block_lt A9.out
      clear hown h9 h1 h3 hwb hd
      have c_A1 := cell_of_block A1.out
      have f_A1 := frozen_of_block A1.out
      have c_A3 := cell_of_block A3.out
      have f_A3 := frozen_of_block A3.out
      have c_A9 := cell_of_block A9.out
      have f_A9 := frozen_of_block A9.out
      by_cases hlt : k < l.length
      · obtain ⟨b, o, rfl, _⟩ := FS.out.open (by omega)
        obtain ⟨f, hf⟩ : ∃ f, f = l[k] := ⟨_, rfl⟩
        obtain ⟨c0, c1, c2, c3, c4, c5, c6⟩ := fls_row FS (Below.refl _ _) k hlt f hf
        obtain ⟨⟨g1, g2⟩, g3, g4⟩ := HFl.out f (by rw [hf]; simp)
        have HF := Lib.hid hf
        have t1 : (k : Int) < (l.length : Int) := by omega
        have t2 : (0 : Int) ≤ (k : Int) := by omega
        clear hf
        go_upto_region 10 with fail
        refine gen_wp (fun w5 => Hid (Below wr.heap.size wr w5) ∧ Hid (w5.heap[wr.heap.size]? = some (.cells #[.int .i64 f.seq, .int .i64 f.note.user, .int .i64 f.note.ver, .int .i64 f.note.stat, .int .i64 f.note.cnt, .int .i64 f.at_, .int .i64 f.tries] 40)) ∧ Hid (w5.heap.size = wr.heap.size + 1) ∧ True) ⟨Lib.hid (by (repeat (first | (with_reducible exact Below.refl _ _) | (with_reducible refine bel_set (by first | omega | (simp; done) | (simp; omega)) ?_) | (with_reducible refine bel_alloc (by first | omega | (simp; done) | (simp; omega)) ?_) | (with_reducible refine bel_drew ?_) | (with_reducible refine bel_drewN ?_ _))); first | done | fail "left"), Lib.hid (by first | (simp [World.setCell, Array.getElem?_modify, A1.out, A3.out, A9.out]; done) | (simp [World.setCell, Array.getElem?_modify, A1.out, A3.out, A9.out]; omega) | ((repeat (first | (with_reducible exact A1.out) | (with_reducible exact A3.out) | (with_reducible exact A9.out) | (with_reducible exact heap_new _ _ _ (by first | rfl | (simp; done))) | (with_reducible refine keepa ?_ _) | (simp [World.setCell, Array.getElem?_modify, A1.out, A3.out, A9.out]; done))); done)), Lib.hid (by simp), trivial⟩ ?_
        clear c_A1 f_A1 c_A3 f_A3 c_A9 f_A9
        rintro w5 ⟨N, AF, SZ5, -⟩
        have c_AF := cell_of_block AF.out
        have f_AF := frozen_of_block AF.out
        clear c0 c1 c2 c3 c4 c5 c6
        replace A1 := Lib.hid (keepb A1.out N.out)
        replace c_A1 := cell_of_block A1.out
        replace f_A1 := frozen_of_block A1.out
        replace A3 := Lib.hid (keepb A3.out N.out)
        replace c_A3 := cell_of_block A3.out
        replace f_A3 := frozen_of_block A3.out
        replace A9 := Lib.hid (keepb A9.out N.out)
        replace c_A9 := cell_of_block A9.out
        replace f_A9 := frozen_of_block A9.out
        replace BA := Lib.hid (chain BA.out N.out)
        have HLt := Lib.hid HO.out.lt
        replace HO := Lib.hid (HO.out.keep N.out)
        clear N
        have z5 : wr.heap.size < w5.heap.size := by have := SZ5.out; omega
        obtain ⟨sb0, sb1⟩ := HSb.out k
        obtain ⟨tb, htb⟩ : ∃ tb, tb = told f.seq ack sack := ⟨_, rfl⟩
        have HT := Lib.hid htb
        have HDs := Lib.hid (show D (k + 1) = D k ++ (if (!tb) = true then [f] else []) by rw [HD.out, HD.out, keep_step hlt, ← HF.out, htb])
        have HSs1 := Lib.hid (show S (k + 1) = sampleOf ack sack now (S k) f by rw [HSs.out, HSs.out, fold_step hlt, ← HF.out])
        clear htb
        cases tb with
        | false =>
          have HDs2 := Lib.hid (show D (k + 1) = D k ++ [f] by rw [HDs.out]; rfl)
          have HSs2 := Lib.hid (show S (k + 1) = S k by rw [HSs1.out]; unfold sampleOf; rw [← HT.out]; rfl)
          have hcase : (¬ f.seq ≤ ack ∧ f.seq - ack - 2 < 0) ∨ (6 < f.seq - ack - 2) ∨ (0 ≤ f.seq - ack - 2 ∧ f.seq - ack - 2 ≤ 6 ∧ ((sack / 2 ^ (f.seq - ack - 2).toNat).tmod 2 == 0) = true) := by
            by_cases h1 : f.seq ≤ ack
            · have := HT.out; rw [told_lo h1] at this; cases this
            · by_cases h2 : f.seq - ack - 2 < 0
              · exact .inl ⟨h1, h2⟩
              · by_cases h3 : 6 < f.seq - ack - 2
                · exact .inr (.inl h3)
                · refine .inr (.inr ⟨by omega, by omega, ?_⟩)
                  rw [bit_rem, ← told_bit (by omega) (by omega), ← HT.out]; rfl
          have HNE := Lib.hid (show ∀ k, (Value.slice p' d cap').ownBlock = some k → w2.heap.size + 1 ≤ k ∧ k < wr.heap.size from fun k hk => ⟨HO.out.block k hk, HLt.out k hk⟩)
          rcases hcase with ⟨y1, y2⟩ | y1 | ⟨y1, y2, y3⟩
          all_goals
            go_upto_region 12 with fail
            go_wp2_with (at_builtin; refine wpList_app rfl (.tmp 64) (.tmp 66) 22 rfl (w2.heap.size + 1) 40 (.agg #[.int .i64 0, .int .i64 0, .int .i64 0, .int .i64 0, .int .i64 0, .int .i64 0, .int .i64 0]) 7 56 Try.underlying22 (by kernel_rfl) rfl (by decide) w.heap.size w (Lib.hid (BA.out.alloc BA.out.size _)) (by omega) (Lib.hid (HO.out.alloc _)) rfl ⟨w5.heap.size, 0, none⟩ 1 1 rfl f.cells rfl (Lib.hid (news_new (heap_new _ _ _ rfl))) (by simp [Value.oneCell', Fl.cells]) (by omega) (by omega) (by simp; omega) ?_; intro p2 cap2 w6 hc2 HO6 HB6 HK6; replace A1 := Lib.hid (HK6.out _ _ (keepa A1.out _) (fun k hk => by have := HNE.out k hk; omega)); replace c_A1 := cell_of_block A1.out; replace f_A1 := frozen_of_block A1.out; replace A3 := Lib.hid (HK6.out _ _ (keepa A3.out _) (fun k hk => by have := HNE.out k hk; omega)); replace c_A3 := cell_of_block A3.out; replace f_A3 := frozen_of_block A3.out; replace A9 := Lib.hid (HK6.out _ _ (keepa A9.out _) (fun k hk => by have := HNE.out k hk; omega)); replace c_A9 := cell_of_block A9.out; replace f_A9 := frozen_of_block A9.out)
            go_roundw
            case rel =>
              refine ⟨k + 1, d + 1, cap2, p2, by omega, by go_num, by rw [HSs2.out], by rw [HDs2.out, HDd.out]; simp, ?_, ?_, ?_, ?_, (by have hbsz := Below.size (HB6.out); (repeat (first | (with_reducible exact HB6.out) | (with_reducible refine bel_set (by first | omega | (simp; done) | (simp; omega)) ?_) | (with_reducible refine bel_alloc (by first | omega | (simp; done) | (simp; omega)) ?_) | (with_reducible refine bel_drew ?_) | (with_reducible refine bel_drewN ?_ _))); first | done | fail "left")⟩
              · rw [HDs2.out, flat_append]
                refine Own.set_apart (by simpa [flat, Fl.cells] using HO6.out) (fun g hg => ?_) _ _
                have := HO6.out.block g hg; omega
              · simp [World.setCell, Array.getElem?_modify, A9.out]; omega
              · simp [World.setCell, Array.getElem?_modify, A1.out, m1, m1.symm]
              · simp [World.setCell, Array.getElem?_modify, A3.out, m2, m2.symm]
            case measure => simp [intOf]; omega
        | true =>
          have HDs2 := Lib.hid (show D (k + 1) = D k by rw [HDs.out]; simp)
          have hcase : (f.seq ≤ ack) ∨ (0 ≤ f.seq - ack - 2 ∧ f.seq - ack - 2 ≤ 6 ∧ ((sack / 2 ^ (f.seq - ack - 2).toNat).tmod 2 == 0) = false) := by
            by_cases h1 : f.seq ≤ ack
            · exact .inl h1
            · by_cases h2 : f.seq - ack - 2 < 0
              · have := HT.out; rw [told_mid h1 h2] at this; cases this
              · by_cases h3 : 6 < f.seq - ack - 2
                · have := HT.out; rw [told_hi h3] at this; cases this
                · refine .inr ⟨by omega, by omega, ?_⟩
                  rw [bit_rem, ← told_bit (by omega) (by omega), ← HT.out]; rfl
          by_cases ht : f.tries = 1
          · have t3 : (f.tries == 1) = true := by simpa using ht
            have HSs2 := Lib.hid (show S (k + 1) = max (max (S k) (now - f.at_)) 0 by rw [HSs1.out]; unfold sampleOf; rw [← HT.out]; simp [ht])
            obtain ⟨sk, hsk⟩ : ∃ sk, sk = S (k + 1) := ⟨_, rfl⟩
            have gs := int_rule (show (if S k < (if now - f.at_ < 0 then 0 else now - f.at_) then (if now - f.at_ < 0 then 0 else now - f.at_) else S k) = sk by rw [hsk, HSs2.out]; omega)
            have HSk := Lib.hid hsk
            clear hsk ht
            rcases hcase with y1 | ⟨y1, y2, y3⟩
            all_goals
              go_wp2_with fail
              go_roundw
              case rel =>
                refine ⟨k + 1, d, cap', p', by omega, by go_num, by rw [← HSk.out], by rw [HDs2.out, HDd.out], ?_, ?_, ?_, ?_, (by have hbsz := Below.size (BA.out); (repeat (first | (with_reducible exact BA.out) | (with_reducible refine bel_set (by first | omega | (simp; done) | (simp; omega)) ?_) | (with_reducible refine bel_alloc (by first | omega | (simp; done) | (simp; omega)) ?_) | (with_reducible refine bel_drew ?_) | (with_reducible refine bel_drewN ?_ _))); first | done | fail "left")⟩
                · rw [HDs2.out]
                  exact Own.set_apart HO.out (fun g hg => by have := HO.out.block g hg; omega) _ _
                · simp [World.setCell, Array.getElem?_modify, A9.out]; omega
                · simp [World.setCell, Array.getElem?_modify, A1.out, m1, m1.symm]
                · simp [World.setCell, Array.getElem?_modify, A3.out, m2, m2.symm]
              case measure => simp [intOf]; omega
          · have t3 : (f.tries == 1) = false := by simpa using ht
            have HSs2 := Lib.hid (show S (k + 1) = S k by rw [HSs1.out]; unfold sampleOf; rw [← HT.out]; simp [ht])
            clear ht
            rcases hcase with y1 | ⟨y1, y2, y3⟩
            all_goals
              go_wp2_with fail
              go_roundw
              case rel =>
                refine ⟨k + 1, d, cap', p', by omega, by go_num, by rw [HSs2.out], by rw [HDs2.out, HDd.out], ?_, ?_, ?_, ?_, (by have hbsz := Below.size (BA.out); (repeat (first | (with_reducible exact BA.out) | (with_reducible refine bel_set (by first | omega | (simp; done) | (simp; omega)) ?_) | (with_reducible refine bel_alloc (by first | omega | (simp; done) | (simp; omega)) ?_) | (with_reducible refine bel_drew ?_) | (with_reducible refine bel_drewN ?_ _))); first | done | fail "left")⟩
                · rw [HDs2.out]
                  exact Own.set_apart HO.out (fun g hg => by have := HO.out.block g hg; omega) _ _
                · simp [World.setCell, Array.getElem?_modify, A9.out]; omega
                · simp [World.setCell, Array.getElem?_modify, A1.out, m1, m1.symm]
                · simp [World.setCell, Array.getElem?_modify, A3.out, m2, m2.symm]
              case measure => simp [intOf]; omega
      · have hke : k = l.length := by omega
        subst hke
        have t1 : decide ((l.length : Int) < (l.length : Int)) = false := by simp
        obtain ⟨acc, hacc⟩ : ∃ acc, acc = a + ((l.length : Int) - (d : Int)) := ⟨_, rfl⟩
        rw [← hacc] at A9
        have b0 : 0 ≤ acc := by have := HDl.out l.length; have := HDd.out; omega
        have b1 : acc ≤ 16 := by omega
        have HG2 := Lib.hid (show growF 16 acc c = g by rw [HG.out, hacc, HDd.out])
        have HE3 := Lib.hid (show (s, m) = (⟨n, D l.length, g.2, g.1⟩, S l.length) from HE2.out)
        obtain ⟨R, hR⟩ : ∃ R, R = D l.length := ⟨_, rfl⟩
        obtain ⟨sm, hsm⟩ : ∃ sm, sm = S l.length := ⟨_, rfl⟩
        rw [← hR, ← hsm] at HE3
        rw [← hR] at HO
        rw [← hsm]
        have HRl := Lib.hid (show d = R.length by rw [hR]; exact HDd.out)
        clear c_A9 f_A9 hacc hR hsm
        have c_A9 := cell_of_block A9.out
        have f_A9 := frozen_of_block A9.out
        go_wp2_with fail
        go_loopw [] (fun wr => ∃ (j : Nat) (C A : Int), (1 ≤ C ∧ C ≤ 8 ∧ 0 ≤ A ∧ A ≤ j ∧ j ≤ 16) ∧ growF j A C = g ∧ Own 40 7 (w2.heap.size + 1) wr (.slice p' d cap') d (flat Fl.cells R) ∧
          wr.heap[w2.heap.size]? = some (.cells #[.int .i64 n, .slice p' d cap', .int .i64 C, .int .i64 A] 24) ∧
          wr.heap[w.heap.size + 1]? = some (.cells #[.int .i64 0, .slice none 0 0, .int .i64 0, .int .i64 0] 24) ∧ Below w.heap.size w wr) (fun wr => accOf w2.heap.size wr)
        case atStart => exact ⟨16, c, acc, ⟨by omega, by omega, by omega, by omega, by omega⟩, HG2.out, HO.out, A9.out, A3.out, BA.out⟩
        case round =>
          obtain ⟨j, C, A, ⟨k1, k2, k3, k4, k5⟩, hg, hown, h9, h3, hwb⟩ := hrel
          clear c_A3 f_A3 c_A9 f_A9 c_A1 f_A1 A1 A3 A9 BA HO HG2
          have HO := Lib.hid hown
          have A9 := Lib.hid h9
          have A3 := Lib.hid h3
          have BA := Lib.hid hwb
          have HGj := Lib.hid hg
          clear hown h9 h3 hwb hg
          have c_A3 := cell_of_block A3.out
          have f_A3 := frozen_of_block A3.out
          have c_A9 := cell_of_block A9.out
          have f_A9 := frozen_of_block A9.out
          by_cases hlt : C ≤ A
          · obtain ⟨i, rfl⟩ : ∃ i, j = i + 1 := ⟨j - 1, by omega⟩
            obtain ⟨M, hM⟩ : ∃ M, M = min (C + 1) 8 := ⟨_, rfl⟩
            have HGi := Lib.hid (show growF i (A - C) M = g by rw [← HGj.out, growF, if_pos hlt, hM])
            have gM := int_rule (show (if 8 < C + 1 then 8 else C + 1) = M by omega)
            have j0 : 1 ≤ M := by omega
            have j1 : M ≤ 8 := by omega
            have HMu := Lib.hid (show accOf w2.heap.size wr = A.toNat by unfold accOf; rw [c_A9 3]; rfl)
            clear hM
            go_wp2_with fail
            go_roundw
            case rel =>
              refine ⟨i, M, A - C, ⟨by omega, by omega, by omega, by omega, by omega⟩, HGi.out, ?_, by simp [World.setCell, Array.getElem?_modify, A9.out], by simp [World.setCell, Array.getElem?_modify, A3.out, m2, m2.symm], (by have hbsz := Below.size (BA.out); (repeat (first | (with_reducible exact BA.out) | (with_reducible refine bel_set (by first | omega | (simp; done) | (simp; omega)) ?_) | (with_reducible refine bel_alloc (by first | omega | (simp; done) | (simp; omega)) ?_) | (with_reducible refine bel_drew ?_) | (with_reducible refine bel_drewN ?_ _))); first | done | fail "left")⟩
              exact Own.set_apart (Own.set_apart HO.out (fun g hg => by have := HO.out.block g hg; omega) _ _) (fun g hg => by have := HO.out.block g hg; omega) _ _
            case measure => rw [HMu.out]; unfold accOf; simp [go_sem, c_A9, intOf]; omega
          · have HGF := Lib.hid (show g = (A, C) by rw [← HGj.out]; cases j <;> simp [growF]; omega)
            have HE4 := Lib.hid (show (s, m) = (⟨n, R, C, A⟩, sm) by rw [HE3.out, HGF.out])
            have hd' := HRl.out
            subst hd'
            cases HE4.out
            go_wp2_with fail
            (try go_region)
            (try go_wp2_with fail)
            refine bodyPost_ret (v := .tuple #[.agg #[.int .i64 n, .slice p' R.length cap', .int .i64 C, .int .i64 A], .int .i64 m]) (by simp [results, Try.results60, go_sem, World.setCell, Array.getElem?_modify, World.cell?, A3.out]) rfl ⟨p', cap', rfl, Lib.hid ?_, Lib.hid (by have hbsz := Below.size (BA.out); (repeat (first | (with_reducible exact BA.out) | (with_reducible refine bel_set (by first | omega | (simp; done) | (simp; omega)) ?_) | (with_reducible refine bel_alloc (by first | omega | (simp; done) | (simp; omega)) ?_) | (with_reducible refine bel_drew ?_) | (with_reducible refine bel_drewN ?_ _))); first | done | fail "left")⟩
            exact Own.mono (B := w2.heap.size + 1) (by (repeat (first | (with_reducible exact HO.out) | (with_reducible refine Own.set ?_ _ _ (by first | omega | (simp; done) | (simp; omega))) | (with_reducible refine Own.alloc ?_ _) | (with_reducible refine Own.drew ?_) | (with_reducible refine Own.drewN ?_ _))); first | done | fail "left") (by omega)
end Go.Proofs.Yteilgibfmljoeaa.K

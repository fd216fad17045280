/-
  CONTRACT of nightjarref11.Resend.
-/
import Derived.Test.YteilgibfmljoeaaSendRef5
import Derived.StillTailTactics
set_option linter.unusedVariables false
set_option linter.unusedSimpArgs false
namespace Go.Proofs.Yteilgibfmljoeaa.K
open Go Go.RowKit Nj

set_option maxHeartbeats 4000000 in
theorem rresend_any (n : Int) (v : Value) (c a : Int) (l : List Fl) (seq now : Int) (w : World) (h : Fls w v l) (hl : l.length ≤ 1000) (hf : ∀ f ∈ l, 0 ≤ f.tries ∧ f.tries ≤ 1073741824)
    (s : Sd) (f : Fl) (ok : Bool) (hr : sdResend ⟨n, l, c, a⟩ seq now = (s, f, ok)) :
    Calls Try.prog 63 #[.agg #[.int .i64 n, v, .int .i64 c, .int .i64 a], .int .i64 seq, .int .i64 now] w (RetSd3 w s f ok) := by
  have FS := Lib.hid h
  have HR := Lib.hid hr
  have HF := Lib.hid hf
  clear h hr hf
  go_enter Try.func63, Try.ntmps63
  go_upto_region 1 with fail
  simp only [Nat.add_assoc, Nat.reduceAdd]
  refine gen_wp (fun w1 => Hid (w1.heap[w.heap.size]? = some (.cells #[.int .i64 n, v, .int .i64 c, .int .i64 a] 24)) ∧ Hid (w1.heap[(w.heap.size + 1)]? = some (.cells #[.int .i64 0, .slice none 0 0, .int .i64 0, .int .i64 0] 24)) ∧ Hid (w1.heap[(w.heap.size + 2)]? = some (.cells #[.int .i64 0, .int .i64 0, .int .i64 0, .int .i64 0, .int .i64 0, .int .i64 0, .int .i64 0] 40)) ∧ Hid (Below w.heap.size w w1) ∧ Hid (w1.heap.size = w.heap.size + 3) ∧ True) ⟨Lib.hid (by first | (simp [World.setCell, Array.getElem?_modify]; done) | (simp [World.setCell, Array.getElem?_modify]; omega) | ((repeat (first | (with_reducible exact heap_new _ _ _ (by first | rfl | (simp; done))) | (with_reducible refine keepa ?_ _) | (simp [World.setCell, Array.getElem?_modify]; done))); done)), Lib.hid (by first | (simp [World.setCell, Array.getElem?_modify]; done) | (simp [World.setCell, Array.getElem?_modify]; omega) | ((repeat (first | (with_reducible exact heap_new _ _ _ (by first | rfl | (simp; done))) | (with_reducible refine keepa ?_ _) | (simp [World.setCell, Array.getElem?_modify]; done))); done)), Lib.hid (by first | (simp [World.setCell, Array.getElem?_modify]; done) | (simp [World.setCell, Array.getElem?_modify]; omega) | ((repeat (first | (with_reducible exact heap_new _ _ _ (by first | rfl | (simp; done))) | (with_reducible refine keepa ?_ _) | (simp [World.setCell, Array.getElem?_modify]; done))); done)), Lib.hid (by (repeat (first | (with_reducible exact Below.refl _ _) | (with_reducible refine bel_set (by first | omega | (simp; done) | (simp; omega)) ?_) | (with_reducible refine bel_alloc (by first | omega | (simp; done) | (simp; omega)) ?_) | (with_reducible refine bel_drew ?_) | (with_reducible refine bel_drewN ?_ _))); first | done | fail "left"), Lib.hid (by simp), trivial⟩ ?_
  rintro w1 ⟨A1, A3, A4, BA, SZ, -⟩
  have c_A1 := cell_of_block A1.out
  have f_A1 := frozen_of_block A1.out
  have c_A3 := cell_of_block A3.out
  have f_A3 := frozen_of_block A3.out
  have c_A4 := cell_of_block A4.out
  have f_A4 := frozen_of_block A4.out
  replace FS := fls_keep FS BA
  go_wp2_with fail
  refine (rcopied_any n v c a l _ FS.out (by omega)).mono ?_; rintro e w2 ⟨p1, cap1, rfl, O2, B2⟩
  replace A1 := Lib.hid (keepb A1.out B2.out)
  replace c_A1 := cell_of_block A1.out
  replace f_A1 := frozen_of_block A1.out
  replace A3 := Lib.hid (keepb A3.out B2.out)
  replace c_A3 := cell_of_block A3.out
  replace f_A3 := frozen_of_block A3.out
  replace A4 := Lib.hid (keepb A4.out B2.out)
  replace c_A4 := cell_of_block A4.out
  replace f_A4 := frozen_of_block A4.out
  replace BA := Lib.hid (chain BA.out B2.out)
  replace O2 := Lib.hid (show Own 40 7 (w.heap.size + 3) w2 (.slice p1 l.length cap1) l.length (flat Fl.cells l) by rw [← SZ.out]; exact O2.out)
  have SZ2 := Lib.hid (show w.heap.size + 3 ≤ w2.heap.size by have := B2.out.size; have := SZ.out; omega)
  have hc1 : l.length ≤ cap1 := by obtain ⟨_, _, e, h⟩ := O2.out.shape; cases e; exact h
  have HLt := Lib.hid O2.out.lt
  go_upto_region 3 with fail
  refine gen_wp (fun w3 => Hid (Below w2.heap.size w2 w3) ∧ Hid (w3.heap[w2.heap.size]? = some (.cells #[.int .i64 n, .slice p1 l.length cap1, .int .i64 c, .int .i64 a] 24)) ∧ True) ⟨Lib.hid (by (repeat (first | (with_reducible exact Below.refl _ _) | (with_reducible refine bel_set (by first | omega | (simp; done) | (simp; omega)) ?_) | (with_reducible refine bel_alloc (by first | omega | (simp; done) | (simp; omega)) ?_) | (with_reducible refine bel_drew ?_) | (with_reducible refine bel_drewN ?_ _))); first | done | fail "left"), Lib.hid (by first | (simp [World.setCell, Array.getElem?_modify, A1.out, A3.out, A4.out]; done) | (simp [World.setCell, Array.getElem?_modify, A1.out, A3.out, A4.out]; omega) | ((repeat (first | (with_reducible exact A1.out) | (with_reducible exact A3.out) | (with_reducible exact A4.out) | (with_reducible exact heap_new _ _ _ (by first | rfl | (simp; done))) | (with_reducible refine keepa ?_ _) | (simp [World.setCell, Array.getElem?_modify, A1.out, A3.out, A4.out]; done))); done)), trivial⟩ ?_
  clear c_A1 f_A1 c_A3 f_A3 c_A4 f_A4
  rintro w3 ⟨N, A9, -⟩
  have c_A9 := cell_of_block A9.out
  have f_A9 := frozen_of_block A9.out
  replace A3 := Lib.hid (keepb A3.out N.out)
  replace c_A3 := cell_of_block A3.out
  replace f_A3 := frozen_of_block A3.out
  replace A4 := Lib.hid (keepb A4.out N.out)
  replace c_A4 := cell_of_block A4.out
  replace f_A4 := frozen_of_block A4.out
  replace BA := Lib.hid (chain BA.out N.out)
  replace O2 := Lib.hid (O2.out.keep N.out)
  clear N B2 A1
  go_wp2_with fail
  go_loopw [10] (fun i wr => ∃ k : Nat, k ≤ l.length ∧ i = .int .i64 k ∧ (∀ j (hj : j < l.length), j < k → decide (l[j].seq = seq) = false) ∧ Below w3.heap.size w3 wr) (fun i _ => l.length - (intOf i).toNat)
  case atStart => exact ⟨0, by omega, rfl, fun j _ hj => by omega, Below.refl _ _⟩
  case round =>
    obtain ⟨k, hk, rfl, hall, hwb⟩ := hrel
    have HA := Lib.hid hall
    have HW := Lib.hid hwb
    clear hall hwb c_A3 f_A3 c_A4 f_A4 c_A9 f_A9
    replace A3 := Lib.hid (keepb A3.out HW.out)
    replace A4 := Lib.hid (keepb A4.out HW.out)
    replace A9 := Lib.hid (keepb A9.out HW.out)
    replace BA := Lib.hid (chain BA.out HW.out)
    replace O2 := Lib.hid (O2.out.keep HW.out)
    have c_A3 := cell_of_block A3.out
    have f_A3 := frozen_of_block A3.out
    have c_A4 := cell_of_block A4.out
    have f_A4 := frozen_of_block A4.out
    have c_A9 := cell_of_block A9.out
    have f_A9 := frozen_of_block A9.out
    have z2 := SZ2.out
    by_cases hlt : k < l.length
    · obtain ⟨g, rfl, hg⟩ := own_at O2.out (by omega)
      have hgl := HLt.out g rfl
      obtain ⟨x, hx⟩ : ∃ x, x = l[k] := ⟨_, rfl⟩
      have HX := Lib.hid hx
      obtain ⟨x0, x1⟩ := HF.out x (by rw [hx]; simp)
      have FSr : Hid (Fls wr (.slice (some ⟨g, 0, none⟩) l.length cap1) l) := Lib.hid O2.out.sl
      obtain ⟨c0, c1, c2, c3, c4, c5, c6⟩ := fls_row FSr (Below.refl _ _) k hlt x hx
      simp only [Nat.zero_add] at c0 c1 c2 c3 c4 c5 c6
      have ff := fun i => (O2.out.frozen i).2.2
      have t1 : (k : Int) < (l.length : Int) := by omega
      have t2 : (0 : Int) ≤ (k : Int) := by omega
      clear hx
      by_cases hu : x.seq = seq
      · have t3 : (x.seq == seq) = true := by simpa using hu
        have HSeq := Lib.hid hu
        clear hu
        obtain ⟨m, hm⟩ : ∃ m, m = min (x.tries + 1) 1073741824 := ⟨_, rfl⟩
        have gm := int_rule (show (if 1073741824 < x.tries + 1 then 1073741824 else x.tries + 1) = m by omega)
        have HM := Lib.hid hm
        have HO2 := Lib.hid (show Own 40 7 (w.heap.size + 3) ((wr.setCell ⟨g, k * 7 + 5, none⟩ (.int .i64 now)).setCell ⟨g, k * 7 + 6, none⟩ (.int .i64 m)) (.slice (some ⟨g, 0, none⟩) l.length cap1) l.length (flat Fl.cells (l.set k (flAgain now x))) by
          have h2 := ((O2.out.store (k * 7 + 5) (.int .i64 now)).2.store (k * 7 + 6) (.int .i64 m)).2
          have e := again_cells hlt now
          rw [← HX.out, ← hm] at e
          rw [e] at h2; exact h2)
        have hne1 : w2.heap.size ≠ g := by omega
        have hne3 : w.heap.size + 1 ≠ g := by omega
        have hne4 : w.heap.size + 2 ≠ g := by omega
        clear hm
        have gw : IntKind.i64.wrap (x.tries + 1) = x.tries + 1 := by rw [IntKind.wrap_i64]; omega
        all_goals
          go_upto_region 7 with fail
          refine gen_wp (fun w4 => Hid (w4.heap[(w.heap.size + 1)]? = some (.cells #[.int .i64 0, .slice none 0 0, .int .i64 0, .int .i64 0] 24)) ∧ Hid (w4.heap[(w.heap.size + 2)]? = some (.cells #[.int .i64 0, .int .i64 0, .int .i64 0, .int .i64 0, .int .i64 0, .int .i64 0, .int .i64 0] 40)) ∧ Hid (w4.heap[w2.heap.size]? = some (.cells #[.int .i64 n, .slice (some ⟨g, 0, none⟩) l.length cap1, .int .i64 c, .int .i64 a] 24)) ∧ Hid (Below w.heap.size w w4) ∧ Hid (Own 40 7 (w.heap.size + 3) w4 (.slice (some ⟨g, 0, none⟩) l.length cap1) l.length ((flat Fl.cells l).set (k * 7 + 5) (.int .i64 now))) ∧ Hid (w4.cell? ⟨g, k * 7 + 6, none⟩ = some (.int .i64 x.tries)) ∧ True) ⟨Lib.hid (by first | (simp [World.setCell, Array.getElem?_modify, A3.out, A4.out, A9.out, hne1, hne1.symm, hne3, hne3.symm, hne4, hne4.symm]; done) | (simp [World.setCell, Array.getElem?_modify, A3.out, A4.out, A9.out, hne1, hne1.symm, hne3, hne3.symm, hne4, hne4.symm]; omega) | ((repeat (first | (with_reducible exact A3.out) | (with_reducible exact A4.out) | (with_reducible exact A9.out) | (with_reducible exact heap_new _ _ _ (by first | rfl | (simp; done))) | (with_reducible refine keepa ?_ _) | (simp [World.setCell, Array.getElem?_modify, A3.out, A4.out, A9.out, hne1, hne1.symm, hne3, hne3.symm, hne4, hne4.symm]; done))); done)), Lib.hid (by first | (simp [World.setCell, Array.getElem?_modify, A3.out, A4.out, A9.out, hne1, hne1.symm, hne3, hne3.symm, hne4, hne4.symm]; done) | (simp [World.setCell, Array.getElem?_modify, A3.out, A4.out, A9.out, hne1, hne1.symm, hne3, hne3.symm, hne4, hne4.symm]; omega) | ((repeat (first | (with_reducible exact A3.out) | (with_reducible exact A4.out) | (with_reducible exact A9.out) | (with_reducible exact heap_new _ _ _ (by first | rfl | (simp; done))) | (with_reducible refine keepa ?_ _) | (simp [World.setCell, Array.getElem?_modify, A3.out, A4.out, A9.out, hne1, hne1.symm, hne3, hne3.symm, hne4, hne4.symm]; done))); done)), Lib.hid (by first | (simp [World.setCell, Array.getElem?_modify, A3.out, A4.out, A9.out, hne1, hne1.symm, hne3, hne3.symm, hne4, hne4.symm]; done) | (simp [World.setCell, Array.getElem?_modify, A3.out, A4.out, A9.out, hne1, hne1.symm, hne3, hne3.symm, hne4, hne4.symm]; omega) | ((repeat (first | (with_reducible exact A3.out) | (with_reducible exact A4.out) | (with_reducible exact A9.out) | (with_reducible exact heap_new _ _ _ (by first | rfl | (simp; done))) | (with_reducible refine keepa ?_ _) | (simp [World.setCell, Array.getElem?_modify, A3.out, A4.out, A9.out, hne1, hne1.symm, hne3, hne3.symm, hne4, hne4.symm]; done))); done)), Lib.hid (by have hbsz := Below.size (BA.out); (repeat (first | (with_reducible exact BA.out) | (with_reducible refine bel_set (by first | omega | (simp; done) | (simp; omega)) ?_) | (with_reducible refine bel_alloc (by first | omega | (simp; done) | (simp; omega)) ?_) | (with_reducible refine bel_drew ?_) | (with_reducible refine bel_drewN ?_ _))); first | done | fail "left"), Lib.hid ((O2.out.store (k * 7 + 5) (.int .i64 now)).2), Lib.hid ((World.cell?_setCell_other _ _ _ _ (by simp)).trans c6), trivial⟩ ?_
          clear c_A3 f_A3 c_A4 f_A4 c_A9 f_A9 c0 c1 c2 c3 c4 c5 c6 ff
          rintro w4 ⟨A3, A4, A9, BA, O4, C6, -⟩
          have c_A3 := cell_of_block A3.out
          have f_A3 := frozen_of_block A3.out
          have c_A4 := cell_of_block A4.out
          have f_A4 := frozen_of_block A4.out
          have c_A9 := cell_of_block A9.out
          have f_A9 := frozen_of_block A9.out
          clear HO2
          refine wp_region_still_tail 13 (by kernel_rfl) (by kernel_rfl) ?_
          generalize hwd : ({ w4 with drawn := w4.drawn + 1 } : World) = w5
          have BD := Lib.hid (show Below w4.heap.size w4 w5 by subst hwd; exact ⟨rfl, rfl, rfl, Nat.le_refl _, fun _ _ => rfl⟩)
          clear hwd
          have A9d := Lib.hid (keepb A9.out BD.out)
          have c_A9d := cell_of_block A9d.out
          have f_A9d := frozen_of_block A9d.out
          have c6 : w5.cell? ⟨g, k * 7 + 6, none⟩ = some (.int .i64 x.tries) := by rw [BD.out.cell (p := ⟨g, k * 7 + 6, none⟩) (cell_lt C6.out)]; exact C6.out
          have ff := fun i => (Own.frozen (O4.out.keep BD.out) i).2.2
          simp only [List.take_succ_cons, List.take_zero, List.drop_succ_cons, List.drop_zero]
          repeat still_step
          refine wpStill_nil ?_
          have A3d := Lib.hid (keepb A3.out BD.out)
          have A4d := Lib.hid (keepb A4.out BD.out)
          have BAd := Lib.hid (chain BA.out BD.out)
          have HO6 := Lib.hid (show Own 40 7 (w.heap.size + 3) (w5.setCell ⟨g, k * 7 + 6, none⟩ (.int .i64 m)) (.slice (some ⟨g, 0, none⟩) l.length cap1) l.length (flat Fl.cells (l.set k (flAgain now x))) by
            have h2 := ((O4.out.keep BD.out).store (k * 7 + 6) (.int .i64 m)).2
            have e := again_cells hlt now
            rw [← HX.out, ← HM.out] at e
            rw [e] at h2; exact h2)
          have c_A3d := cell_of_block A3d.out
          have f_A3d := frozen_of_block A3d.out
          have c_A4d := cell_of_block A4d.out
          have f_A4d := frozen_of_block A4d.out
          go_upto_region 8 with fail
          (try simp only [gw, gm])
          (try rw [show (if 1073741824 < x.tries + 1 then 1073741824 else x.tries + 1) = m by have := HM.out; omega])
          refine gen_wp (fun w6 => Hid (w6.heap[w2.heap.size]? = some (.cells #[.int .i64 n, .slice (some ⟨g, 0, none⟩) l.length cap1, .int .i64 c, .int .i64 a] 24)) ∧ Hid (w6.heap[(w.heap.size + 1)]? = some (.cells #[.int .i64 0, .slice none 0 0, .int .i64 0, .int .i64 0] 24)) ∧ Hid (w6.heap[(w.heap.size + 2)]? = some (.cells #[.int .i64 0, .int .i64 0, .int .i64 0, .int .i64 0, .int .i64 0, .int .i64 0, .int .i64 0] 40)) ∧ Hid (Below w.heap.size w w6) ∧ Hid (Own 40 7 (w.heap.size + 3) w6 (.slice (some ⟨g, 0, none⟩) l.length cap1) l.length (flat Fl.cells (l.set k (flAgain now x)))) ∧ True) ⟨Lib.hid (by first | (simp [World.setCell, Array.getElem?_modify, A9d.out, A3d.out, A4d.out, hne1, hne1.symm, hne3, hne3.symm, hne4, hne4.symm]; done) | (simp [World.setCell, Array.getElem?_modify, A9d.out, A3d.out, A4d.out, hne1, hne1.symm, hne3, hne3.symm, hne4, hne4.symm]; omega) | ((repeat (first | (with_reducible exact A9d.out) | (with_reducible exact A3d.out) | (with_reducible exact A4d.out) | (with_reducible exact heap_new _ _ _ (by first | rfl | (simp; done))) | (with_reducible refine keepa ?_ _) | (simp [World.setCell, Array.getElem?_modify, A9d.out, A3d.out, A4d.out, hne1, hne1.symm, hne3, hne3.symm, hne4, hne4.symm]; done))); done)), Lib.hid (by first | (simp [World.setCell, Array.getElem?_modify, A9d.out, A3d.out, A4d.out, hne1, hne1.symm, hne3, hne3.symm, hne4, hne4.symm]; done) | (simp [World.setCell, Array.getElem?_modify, A9d.out, A3d.out, A4d.out, hne1, hne1.symm, hne3, hne3.symm, hne4, hne4.symm]; omega) | ((repeat (first | (with_reducible exact A9d.out) | (with_reducible exact A3d.out) | (with_reducible exact A4d.out) | (with_reducible exact heap_new _ _ _ (by first | rfl | (simp; done))) | (with_reducible refine keepa ?_ _) | (simp [World.setCell, Array.getElem?_modify, A9d.out, A3d.out, A4d.out, hne1, hne1.symm, hne3, hne3.symm, hne4, hne4.symm]; done))); done)), Lib.hid (by first | (simp [World.setCell, Array.getElem?_modify, A9d.out, A3d.out, A4d.out, hne1, hne1.symm, hne3, hne3.symm, hne4, hne4.symm]; done) | (simp [World.setCell, Array.getElem?_modify, A9d.out, A3d.out, A4d.out, hne1, hne1.symm, hne3, hne3.symm, hne4, hne4.symm]; omega) | ((repeat (first | (with_reducible exact A9d.out) | (with_reducible exact A3d.out) | (with_reducible exact A4d.out) | (with_reducible exact heap_new _ _ _ (by first | rfl | (simp; done))) | (with_reducible refine keepa ?_ _) | (simp [World.setCell, Array.getElem?_modify, A9d.out, A3d.out, A4d.out, hne1, hne1.symm, hne3, hne3.symm, hne4, hne4.symm]; done))); done)), Lib.hid (by have hbsz := Below.size (BAd.out); (repeat (first | (with_reducible exact BAd.out) | (with_reducible refine bel_set (by first | omega | (simp; done) | (simp; omega)) ?_) | (with_reducible refine bel_alloc (by first | omega | (simp; done) | (simp; omega)) ?_) | (with_reducible refine bel_drew ?_) | (with_reducible refine bel_drewN ?_ _))); first | done | fail "left"), Lib.hid HO6.out, trivial⟩ ?_
          clear c_A9d f_A9d c_A3d f_A3d c_A4d f_A4d c6 ff
          rintro w6 ⟨A9e, A3e, A4e, BAe, O6, -⟩
          have c_A9e := cell_of_block A9e.out
          have f_A9e := frozen_of_block A9e.out
          have c_A3e := cell_of_block A3e.out
          have f_A3e := frozen_of_block A3e.out
          have c_A4e := cell_of_block A4e.out
          have f_A4e := frozen_of_block A4e.out
          clear A9d A3d A4d
          have FS4 : Hid (Fls w6 (.slice (some ⟨g, 0, none⟩) l.length cap1) (l.set k (flAgain now x))) := Lib.hid (by have := O6.out.sl; unfold Fls; rw [List.length_set]; exact this)
          obtain ⟨c0, c1, c2, c3, c4, c5, c6⟩ := fls_row FS4 (Below.refl _ _) k (by rw [List.length_set]; exact hlt) (flAgain now x) (by simp)
          simp only [Nat.zero_add, flAgain] at c0 c1 c2 c3 c4 c5 c6
          rw [← HM.out] at c6
          go_region
          have HE := Lib.hid (show (s, f, ok) = (⟨n, l.set k (flAgain now x), c, a⟩, flAgain now x, true) by
            rw [← HR.out]; unfold sdResend
            simp only [resend_some (now := now) hlt (by rw [← HX.out]; simpa using HSeq.out) HA.out]
            rw [← HX.out])
          go_wp2_with fail
          cases HE.out
          refine bodyPost_ret (v := .tuple #[.agg #[.int .i64 n, .slice (some ⟨g, 0, none⟩) l.length cap1, .int .i64 c, .int .i64 a], .agg #[.int .i64 x.seq, .int .i64 x.note.user, .int .i64 x.note.ver, .int .i64 x.note.stat, .int .i64 x.note.cnt, .int .i64 now, .int .i64 m], .bool true]) (by simp [results, Try.results63, go_sem, c_A3e, c_A4e]) rfl ⟨some ⟨g, 0, none⟩, cap1, by simp [flAgain, HM.out], Lib.hid ?_, Lib.hid (by have hbsz := Below.size (BAe.out); (repeat (first | (with_reducible exact BAe.out) | (with_reducible refine bel_set (by first | omega | (simp; done) | (simp; omega)) ?_) | (with_reducible refine bel_alloc (by first | omega | (simp; done) | (simp; omega)) ?_) | (with_reducible refine bel_drew ?_) | (with_reducible refine bel_drewN ?_ _))); first | done | fail "left")⟩
          refine Own.mono (B := w.heap.size + 3) ?_ (by omega)
          have hO : Own 40 7 (w.heap.size + 3) w6 (.slice (some ⟨g, 0, none⟩) (l.set k (flAgain now x)).length cap1) (l.set k (flAgain now x)).length (flat Fl.cells (l.set k (flAgain now x))) := by rw [List.length_set]; exact O6.out
          show Own 40 7 (w.heap.size + 3) _ (.slice (some ⟨g, 0, none⟩) (l.set k (flAgain now x)).length cap1) (l.set k (flAgain now x)).length (flat Fl.cells (l.set k (flAgain now x)))
          exact (by (repeat (first | (with_reducible exact hO) | (with_reducible refine Own.set ?_ _ _ (by first | omega | (simp; done) | (simp; omega))) | (with_reducible refine Own.alloc ?_ _) | (with_reducible refine Own.drew ?_) | (with_reducible refine Own.drewN ?_ _))); first | done | fail "left")
      · have t3 : (x.seq == seq) = false := by simpa using hu
        have HA2 := Lib.hid (show ∀ j (hj : j < l.length), j < k + 1 → decide (l[j].seq = seq) = false by
          intro j hj hjk
          by_cases e : j = k
          · subst e; rw [← HX.out]; simpa using hu
          · exact HA.out j hj (by omega))
        clear hu
        go_wp2_with fail
        go_roundw
        case rel => exact ⟨k + 1, by omega, by go_num, HA2.out, HW.out⟩
        case measure => simp [intOf]; omega
    · have hke : k = l.length := by omega
      subst hke
      have t1 : decide ((l.length : Int) < (l.length : Int)) = false := by simp
      have HE := Lib.hid (show (s, f, ok) = (⟨n, l, c, a⟩, fl0, false) by rw [← HR.out]; unfold sdResend; simp only [resend_none (now := now) (fun j hj => HA.out j hj hj)])
      cases HE.out
      go_wp2_with fail
      (try go_region)
      (try go_wp2_with fail)
      refine bodyPost_ret (v := .tuple #[.agg #[.int .i64 n, .slice p1 l.length cap1, .int .i64 c, .int .i64 a], .agg #[.int .i64 fl0.seq, .int .i64 fl0.note.user, .int .i64 fl0.note.ver, .int .i64 fl0.note.stat, .int .i64 fl0.note.cnt, .int .i64 fl0.at_, .int .i64 fl0.tries], .bool false]) (by simp [results, Try.results63, go_sem, c_A3, c_A4, fl0, nt0]) rfl ⟨p1, cap1, rfl, Lib.hid ?_, Lib.hid (by have hbsz := Below.size (BA.out); (repeat (first | (with_reducible exact BA.out) | (with_reducible refine bel_set (by first | omega | (simp; done) | (simp; omega)) ?_) | (with_reducible refine bel_alloc (by first | omega | (simp; done) | (simp; omega)) ?_) | (with_reducible refine bel_drew ?_) | (with_reducible refine bel_drewN ?_ _))); first | done | fail "left")⟩
      exact Own.mono (B := w.heap.size + 3) (by (repeat (first | (with_reducible exact O2.out) | (with_reducible refine Own.set ?_ _ _ (by first | omega | (simp; done) | (simp; omega))) | (with_reducible refine Own.alloc ?_ _) | (with_reducible refine Own.drew ?_) | (with_reducible refine Own.drewN ?_ _))); first | done | fail "left") (by omega)
end Go.Proofs.Yteilgibfmljoeaa.K

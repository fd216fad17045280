/-
  CONTRACTS of nightjarref11: Lost, Void, Due.
-/
import Derived.Test.YteilgibfmljoeaaSendRef
set_option linter.unusedVariables false
set_option linter.unusedSimpArgs false
namespace Go.Proofs.Yteilgibfmljoeaa.K
open Go Go.RowKit Nj

set_option maxHeartbeats 1000000 in
theorem rlost_any (n : Int) (v : Value) (c a : Int) (l : List Fl) (w : World) (h : Fls w v l) (hle : l.length ≤ 1048576) (hc : 0 ≤ c ∧ c ≤ 8) :
    Calls Try.prog 64 #[.agg #[.int .i64 n, v, .int .i64 c, .int .i64 a]] w (RetSd w (sdLost ⟨n, l, c, a⟩)) := by
  have FS := Lib.hid h
  obtain ⟨hc0, hc1⟩ := hc
  obtain ⟨m, hm⟩ : ∃ m, m = max (c / 2) 1 := ⟨_, rfl⟩
  have HM := Lib.hid (show sdLost ⟨n, l, c, a⟩ = ⟨n, l, m, 0⟩ by rw [hm]; rfl)
  have gm := int_rule (show (if c / 2 < 1 then 1 else c / 2) = m by omega)
  clear h hm
  rw [HM.out]
  go_enter Try.func64, Try.ntmps64
  go_upto_region 1 with fail
  refine gen_wp (fun w1 => Hid (w1.heap[w.heap.size]? = some (.cells #[.int .i64 n, v, .int .i64 c, .int .i64 a] 24)) ∧ Hid (w1.heap[(w.heap.size + 1)]? = some (.cells #[.int .i64 0, .slice none 0 0, .int .i64 0, .int .i64 0] 24)) ∧ Hid (Below w.heap.size w w1) ∧ Hid (w1.heap.size = w.heap.size + 2) ∧ True) ⟨Lib.hid (by first | (simp [World.setCell, Array.getElem?_modify]; done) | (simp [World.setCell, Array.getElem?_modify]; omega) | ((repeat (first | (with_reducible exact heap_new _ _ _ (by first | rfl | (simp; done))) | (with_reducible refine keepa ?_ _) | (simp [World.setCell, Array.getElem?_modify]; done))); done)), Lib.hid (by first | (simp [World.setCell, Array.getElem?_modify]; done) | (simp [World.setCell, Array.getElem?_modify]; omega) | ((repeat (first | (with_reducible exact heap_new _ _ _ (by first | rfl | (simp; done))) | (with_reducible refine keepa ?_ _) | (simp [World.setCell, Array.getElem?_modify]; done))); done)), Lib.hid (by (repeat (first | (with_reducible exact Below.refl _ _) | (with_reducible refine bel_set (by first | omega | (simp; done) | (simp; omega)) ?_) | (with_reducible refine bel_alloc (by first | omega | (simp; done) | (simp; omega)) ?_) | (with_reducible refine bel_drew ?_) | (with_reducible refine bel_drewN ?_ _))); first | done | fail "left"), Lib.hid (by simp), trivial⟩ ?_
  rintro w1 ⟨A1, A2, BA, SZ, -⟩
  have c_A1 := cell_of_block A1.out
  have f_A1 := frozen_of_block A1.out
  have c_A2 := cell_of_block A2.out
  have f_A2 := frozen_of_block A2.out
  replace FS := fls_keep FS BA
  go_wp2_with fail
  refine (rcopied_any n v c a l _ FS.out hle).mono ?_; rintro e w2 ⟨p2, cap2, rfl, O2, B2⟩
  replace A1 := Lib.hid (keepb A1.out B2.out)
  replace c_A1 := cell_of_block A1.out
  replace f_A1 := frozen_of_block A1.out
  replace A2 := Lib.hid (keepb A2.out B2.out)
  replace c_A2 := cell_of_block A2.out
  replace f_A2 := frozen_of_block A2.out
  replace BA := Lib.hid (chain BA.out B2.out)
  replace O2 := Lib.hid (show Own 40 7 (w.heap.size + 2) w2 (.slice p2 l.length cap2) l.length (flat Fl.cells l) by rw [← SZ.out]; exact O2.out)
  have SZ2 := Lib.hid (show w.heap.size + 2 ≤ w2.heap.size by have := B2.out.size; have := SZ.out; omega)
  go_upto_region 2 with fail
  refine gen_wp (fun w3 => Hid (Below w2.heap.size w2 w3) ∧ Hid (w3.heap[w2.heap.size]? = some (.cells #[.int .i64 n, .slice p2 l.length cap2, .int .i64 c, .int .i64 a] 24)) ∧ Hid (Own 40 7 (w.heap.size + 2) w3 (.slice p2 l.length cap2) l.length (flat Fl.cells l)) ∧ True) ⟨Lib.hid (by (repeat (first | (with_reducible exact Below.refl _ _) | (with_reducible refine bel_set (by first | omega | (simp; done) | (simp; omega)) ?_) | (with_reducible refine bel_alloc (by first | omega | (simp; done) | (simp; omega)) ?_) | (with_reducible refine bel_drew ?_) | (with_reducible refine bel_drewN ?_ _))); first | done | fail "left"), Lib.hid (by first | (simp [World.setCell, Array.getElem?_modify, A1.out, A2.out]; done) | (simp [World.setCell, Array.getElem?_modify, A1.out, A2.out]; omega) | ((repeat (first | (with_reducible exact A1.out) | (with_reducible exact A2.out) | (with_reducible exact heap_new _ _ _ (by first | rfl | (simp; done))) | (with_reducible refine keepa ?_ _) | (simp [World.setCell, Array.getElem?_modify, A1.out, A2.out]; done))); done)), Lib.hid (by (repeat (first | (with_reducible exact O2.out) | (with_reducible refine Own.set ?_ _ _ (by first | omega | (simp; done) | (simp; omega))) | (with_reducible refine Own.alloc ?_ _) | (with_reducible refine Own.drew ?_) | (with_reducible refine Own.drewN ?_ _))); first | done | fail "left"), trivial⟩ ?_
  clear c_A1 f_A1 c_A2 f_A2
  rintro w3 ⟨N, A3, O3, -⟩
  have c_A3 := cell_of_block A3.out
  have f_A3 := frozen_of_block A3.out
  have A2b := Lib.hid (keepb A2.out N.out)
  have A1b := Lib.hid (keepb A1.out N.out)
  have c_A1b := cell_of_block A1b.out
  have f_A1b := frozen_of_block A1b.out
  have c_A2b := cell_of_block A2b.out
  have f_A2b := frozen_of_block A2b.out
  go_upto_region 4 with fail
  refine gen_wp (fun w4 => Hid (Below w2.heap.size w2 w4) ∧ Hid (w4.heap[w2.heap.size]? = some (.cells #[.int .i64 n, .slice p2 l.length cap2, .int .i64 m, .int .i64 0] 24)) ∧ True) ⟨Lib.hid (by have hbsz := Below.size (N.out); (repeat (first | (with_reducible exact N.out) | (with_reducible refine bel_set (by first | omega | (simp; done) | (simp; omega)) ?_) | (with_reducible refine bel_alloc (by first | omega | (simp; done) | (simp; omega)) ?_) | (with_reducible refine bel_drew ?_) | (with_reducible refine bel_drewN ?_ _))); first | done | fail "left"), Lib.hid (by first | (simp [World.setCell, Array.getElem?_modify, A1b.out, A2b.out, A3.out]; done) | (simp [World.setCell, Array.getElem?_modify, A1b.out, A2b.out, A3.out]; omega) | ((repeat (first | (with_reducible exact A1b.out) | (with_reducible exact A2b.out) | (with_reducible exact A3.out) | (with_reducible exact heap_new _ _ _ (by first | rfl | (simp; done))) | (with_reducible refine keepa ?_ _) | (simp [World.setCell, Array.getElem?_modify, A1b.out, A2b.out, A3.out]; done))); done)), trivial⟩ ?_
  clear c_A1b f_A1b c_A2b f_A2b c_A3 f_A3
  rintro w4 ⟨N, A3, -⟩
  have c_A3 := cell_of_block A3.out
  have f_A3 := frozen_of_block A3.out
  replace A2 := Lib.hid (keepb A2.out N.out)
  replace c_A2 := cell_of_block A2.out
  replace f_A2 := frozen_of_block A2.out
  replace BA := Lib.hid (chain BA.out N.out)
  replace O2 := Lib.hid (O2.out.keep N.out)
  have z2 := SZ2.out
  go_wp2_with fail
  refine bodyPost_ret (v := .agg #[.int .i64 n, .slice p2 l.length cap2, .int .i64 m, .int .i64 0]) (by simp [results, Try.results64, go_sem, World.setCell, Array.getElem?_modify, World.cell?, A2.out]) rfl ⟨p2, cap2, rfl, Lib.hid ?_, Lib.hid (by have hbsz := Below.size (BA.out); (repeat (first | (with_reducible exact BA.out) | (with_reducible refine bel_set (by first | omega | (simp; done) | (simp; omega)) ?_) | (with_reducible refine bel_alloc (by first | omega | (simp; done) | (simp; omega)) ?_) | (with_reducible refine bel_drew ?_) | (with_reducible refine bel_drewN ?_ _))); first | done | fail "left")⟩
  exact Own.mono (B := w.heap.size + 2) (by (repeat (first | (with_reducible exact O2.out) | (with_reducible refine Own.set ?_ _ _ (by first | omega | (simp; done) | (simp; omega))) | (with_reducible refine Own.alloc ?_ _) | (with_reducible refine Own.drew ?_) | (with_reducible refine Own.drewN ?_ _))); first | done | fail "left") (by omega)

set_option maxHeartbeats 2000000 in
theorem rvoid_any (n : Int) (v : Value) (c a : Int) (l : List Fl) (user : Int) (w : World) (h : Fls w v l) (hl : l.length ≤ 1000) :
    Calls Try.prog 66 #[.agg #[.int .i64 n, v, .int .i64 c, .int .i64 a], .int .i64 user] w (RetSd w (sdVoid ⟨n, l, c, a⟩ user)) := by
  have FS := Lib.hid h
  clear h
  go_enter Try.func66, Try.ntmps66
  go_upto_region 1 with fail
  refine gen_wp (fun w1 => Hid (w1.heap[w.heap.size]? = some (.cells #[.int .i64 n, v, .int .i64 c, .int .i64 a] 24)) ∧ Hid (w1.heap[(w.heap.size + 1)]? = some (.cells #[.int .i64 0, .slice none 0 0, .int .i64 0, .int .i64 0] 24)) ∧ Hid (Below w.heap.size w w1) ∧ Hid (w1.heap.size = w.heap.size + 2) ∧ True) ⟨Lib.hid (by first | (simp [World.setCell, Array.getElem?_modify]; done) | (simp [World.setCell, Array.getElem?_modify]; omega) | ((repeat (first | (with_reducible exact heap_new _ _ _ (by first | rfl | (simp; done))) | (with_reducible refine keepa ?_ _) | (simp [World.setCell, Array.getElem?_modify]; done))); done)), Lib.hid (by first | (simp [World.setCell, Array.getElem?_modify]; done) | (simp [World.setCell, Array.getElem?_modify]; omega) | ((repeat (first | (with_reducible exact heap_new _ _ _ (by first | rfl | (simp; done))) | (with_reducible refine keepa ?_ _) | (simp [World.setCell, Array.getElem?_modify]; done))); done)), Lib.hid (by (repeat (first | (with_reducible exact Below.refl _ _) | (with_reducible refine bel_set (by first | omega | (simp; done) | (simp; omega)) ?_) | (with_reducible refine bel_alloc (by first | omega | (simp; done) | (simp; omega)) ?_) | (with_reducible refine bel_drew ?_) | (with_reducible refine bel_drewN ?_ _))); first | done | fail "left"), Lib.hid (by simp), trivial⟩ ?_
  rintro w1 ⟨A1, A2, BA, SZ, -⟩
  have c_A1 := cell_of_block A1.out
  have f_A1 := frozen_of_block A1.out
  have c_A2 := cell_of_block A2.out
  have f_A2 := frozen_of_block A2.out
  replace FS := fls_keep FS BA
  go_wp2_with fail
  refine (rcopied_any n v c a l _ FS.out (by omega)).mono ?_; rintro e w2 ⟨p1, cap1, rfl, O2, B2⟩
  replace A1 := Lib.hid (keepb A1.out B2.out)
  replace c_A1 := cell_of_block A1.out
  replace f_A1 := frozen_of_block A1.out
  replace A2 := Lib.hid (keepb A2.out B2.out)
  replace c_A2 := cell_of_block A2.out
  replace f_A2 := frozen_of_block A2.out
  replace BA := Lib.hid (chain BA.out B2.out)
  replace O2 := Lib.hid (show Own 40 7 (w.heap.size + 2) w2 (.slice p1 l.length cap1) l.length (flat Fl.cells l) by rw [← SZ.out]; exact O2.out)
  have hc1 : l.length ≤ cap1 := by obtain ⟨_, _, e, h⟩ := O2.out.shape; cases e; exact h
  have HLt := Lib.hid O2.out.lt
  go_upto_region 3 with fail
  refine gen_wp (fun w3 => Hid (Below w2.heap.size w2 w3) ∧ Hid (w3.heap[w2.heap.size]? = some (.cells #[.int .i64 n, .slice p1 l.length cap1, .int .i64 c, .int .i64 a] 24)) ∧ Hid (Own 40 7 (w.heap.size + 2) w3 (.slice p1 l.length cap1) l.length (flat Fl.cells l)) ∧ True) ⟨Lib.hid (by (repeat (first | (with_reducible exact Below.refl _ _) | (with_reducible refine bel_set (by first | omega | (simp; done) | (simp; omega)) ?_) | (with_reducible refine bel_alloc (by first | omega | (simp; done) | (simp; omega)) ?_) | (with_reducible refine bel_drew ?_) | (with_reducible refine bel_drewN ?_ _))); first | done | fail "left"), Lib.hid (by first | (simp [World.setCell, Array.getElem?_modify, A1.out, A2.out]; done) | (simp [World.setCell, Array.getElem?_modify, A1.out, A2.out]; omega) | ((repeat (first | (with_reducible exact A1.out) | (with_reducible exact A2.out) | (with_reducible exact heap_new _ _ _ (by first | rfl | (simp; done))) | (with_reducible refine keepa ?_ _) | (simp [World.setCell, Array.getElem?_modify, A1.out, A2.out]; done))); done)), Lib.hid (by (repeat (first | (with_reducible exact O2.out) | (with_reducible refine Own.set ?_ _ _ (by first | omega | (simp; done) | (simp; omega))) | (with_reducible refine Own.alloc ?_ _) | (with_reducible refine Own.drew ?_) | (with_reducible refine Own.drewN ?_ _))); first | done | fail "left"), trivial⟩ ?_
  clear c_A1 f_A1 c_A2 f_A2
  rintro w3 ⟨N, A5, O3, -⟩
  have c_A5 := cell_of_block A5.out
  have f_A5 := frozen_of_block A5.out
  replace A2 := Lib.hid (keepb A2.out N.out)
  replace c_A2 := cell_of_block A2.out
  replace f_A2 := frozen_of_block A2.out
  replace BA := Lib.hid (chain BA.out N.out)
  clear N O2 B2 A1
  go_wp2_with fail
  go_loopw [6] (fun i wr => ∃ k : Nat, k ≤ l.length ∧ i = .int .i64 k ∧ Own 40 7 (w.heap.size + 2) wr (.slice p1 l.length cap1) l.length (flat Fl.cells (voidRow user l k)) ∧ wr.heap[w2.heap.size]? = some (.cells #[.int .i64 n, .slice p1 l.length cap1, .int .i64 c, .int .i64 a] 24) ∧ wr.heap[w.heap.size + 1]? = some (.cells #[.int .i64 0, .slice none 0 0, .int .i64 0, .int .i64 0] 24) ∧ Below w.heap.size w wr) (fun i _ => l.length - (intOf i).toNat)
  case atStart => exact ⟨0, by omega, rfl, O3.out, A5.out, A2.out, BA.out⟩
  case round =>
    obtain ⟨k, hk, rfl, hown, ha1, ha2, hwb⟩ := hrel
    clear c_A5 f_A5 c_A2 f_A2
    replace O3 := Lib.hid hown
    replace A5 := Lib.hid ha1
    replace A2 := Lib.hid ha2
    have HW := Lib.hid hwb
    clear hown ha1 ha2 hwb
    have c_A5 := cell_of_block A5.out
    have f_A5 := frozen_of_block A5.out
    have c_A2 := cell_of_block A2.out
    have f_A2 := frozen_of_block A2.out
    by_cases hlt : k < l.length
    · obtain ⟨g, rfl, hg⟩ := own_at O3.out (by omega)
      have hgl := HLt.out g rfl
      obtain ⟨f, hf⟩ : ∃ f, f = l[k] := ⟨_, rfl⟩
      have HF := Lib.hid hf
      have hk2 : k < (voidRow user l k).length := by rw [voidRow_len]; exact hlt
      have FSr : Hid (Fls wr (.slice (some ⟨g, 0, none⟩) l.length cap1) (voidRow user l k)) := Lib.hid (by unfold Fls; rw [voidRow_len]; exact O3.out.sl)
      obtain ⟨c0, c1, c2, c3, c4, c5, c6⟩ := fls_row FSr (Below.refl _ _) k hk2 f (by rw [voidRow_get hlt]; exact hf)
      simp only [Nat.zero_add] at c0 c1 c2 c3 c4 c5 c6
      have ff := fun i => (O3.out.frozen i).2.2
      have t1 : (k : Int) < (l.length : Int) := by omega
      have t2 : (0 : Int) ≤ (k : Int) := by omega
      have hne1 : w2.heap.size ≠ g := by omega
      have hne2 : w.heap.size + 1 ≠ g := by omega
      clear hf
      by_cases hu : f.note.user = user
      · have t3 : (f.note.user == user) = true := by simpa using hu
        go_wp2_with fail
        go_roundw
        case rel =>
          refine ⟨k + 1, by omega, by go_num, ?_, by simp [World.setCell, Array.getElem?_modify, A5.out, hne1, hne1.symm], by simp [World.setCell, Array.getElem?_modify, A2.out, hne2, hne2.symm], (by have hbsz := Below.size (HW.out); (repeat (first | (with_reducible exact HW.out) | (with_reducible refine bel_set (by first | omega | (simp; done) | (simp; omega)) ?_) | (with_reducible refine bel_alloc (by first | omega | (simp; done) | (simp; omega)) ?_) | (with_reducible refine bel_drew ?_) | (with_reducible refine bel_drewN ?_ _))); first | done | fail "left")⟩
          have h4 := ((((O3.out.store (k * 7 + 1) (.int .i64 0)).2.store (k * 7 + 2) (.int .i64 0)).2.store (k * 7 + 3) (.int .i64 0)).2.store (k * 7 + 4) (.int .i64 0)).2
          rw [void_cells hk2] at h4
          rw [voidRow_succ hlt, ← HF.out, flVoid, if_pos hu]
          have : (voidRow user l k)[k] = f := by rw [voidRow_get hlt]; exact HF.out.symm
          rw [this] at h4
          exact h4
        case measure => simp [intOf]; omega
      · have t3 : (f.note.user == user) = false := by simpa using hu
        go_wp2_with fail
        go_roundw
        case rel =>
          refine ⟨k + 1, by omega, by go_num, ?_, A5.out, A2.out, HW.out⟩
          have e : voidRow user l (k + 1) = voidRow user l k := by
            rw [voidRow_succ hlt, ← HF.out, flVoid, if_neg hu]
            have : f = (voidRow user l k)[k] := by rw [voidRow_get hlt]; exact HF.out
            rw [this]; simp
          rw [e]; exact O3.out
        case measure => simp [intOf]; omega
    · have hke : k = l.length := by omega
      subst hke
      have hv : voidRow user l l.length = l.map (flVoid user) := voidRow_all user l
      have t1 : decide ((l.length : Int) < (l.length : Int)) = false := by simp
      have HO2 := Lib.hid (show Own 40 7 (w.heap.size + 2) wr (.slice p1 (l.map (flVoid user)).length cap1) (l.map (flVoid user)).length (flat Fl.cells (l.map (flVoid user))) by
        have := O3.out; rw [hv] at this; simpa using this)
      clear hv
      go_wp2_with fail
      refine bodyPost_ret (v := .agg #[.int .i64 n, .slice p1 l.length cap1, .int .i64 c, .int .i64 a]) (by simp [results, Try.results66, go_sem, World.setCell, Array.getElem?_modify, World.cell?, A2.out]) rfl ⟨p1, cap1, by simp [sdVoid], Lib.hid ?_, Lib.hid (by have hbsz := Below.size (HW.out); (repeat (first | (with_reducible exact HW.out) | (with_reducible refine bel_set (by first | omega | (simp; done) | (simp; omega)) ?_) | (with_reducible refine bel_alloc (by first | omega | (simp; done) | (simp; omega)) ?_) | (with_reducible refine bel_drew ?_) | (with_reducible refine bel_drewN ?_ _))); first | done | fail "left")⟩
      refine Own.mono (B := w.heap.size + 2) ?_ (by omega)
      show Own 40 7 (w.heap.size + 2) _ (.slice p1 (l.map (flVoid user)).length cap1) (l.map (flVoid user)).length (flat Fl.cells (l.map (flVoid user)))
      exact (by (repeat (first | (with_reducible exact HO2.out) | (with_reducible refine Own.set ?_ _ _ (by first | omega | (simp; done) | (simp; omega))) | (with_reducible refine Own.alloc ?_ _) | (with_reducible refine Own.drew ?_) | (with_reducible refine Own.drewN ?_ _))); first | done | fail "left")

set_option maxHeartbeats 2000000 in
theorem rdue_any (n : Int) (v : Value) (c a : Int) (l : List Fl) (now rto : Int) (w : World) (h : Fls w v l) (hl : l.length ≤ 1000) (hf : ∀ f ∈ l, 0 ≤ f.at_ ∧ f.at_ ≤ 1099511627776) (hr : 0 ≤ rto ∧ rto ≤ 1099511627776) :
    Calls Try.prog 62 #[.agg #[.int .i64 n, v, .int .i64 c, .int .i64 a], .int .i64 now, .int .i64 rto] w fun e w' => ∃ p cap, e = .returned (.slice p (sdDue ⟨n, l, c, a⟩ now rto).length cap) ∧ Hid (Own 3 1 w.heap.size w' (.slice p (sdDue ⟨n, l, c, a⟩ now rto).length cap) (sdDue ⟨n, l, c, a⟩ now rto).length ((sdDue ⟨n, l, c, a⟩ now rto).map (Value.int .i64))) ∧ Hid (Below w.heap.size w w') := by
  have HS := Lib.hid h
  have HF := Lib.hid hf
  obtain ⟨r0, r1⟩ := hr
  obtain ⟨p, cap, rfl, hcap⟩ := fls_shape h
  clear h hf
  obtain ⟨D, hD⟩ : ∃ D : Nat → List Int, ∀ k, D k = ((l.take k).filter fun f => decide (f.at_ + rto ≤ now)).map (·.seq) := ⟨_, fun _ => rfl⟩
  have HD := Lib.hid hD
  have HDl := Lib.hid (show ∀ k, (D k).length ≤ k from fun k => by
    rw [hD k, List.length_map]
    exact Nat.le_trans (List.length_filter_le _ _) (List.length_take_le _ _))
  clear hD
  go_enter Try.func62, Try.ntmps62
  go_upto_region 1 with fail
  refine gen_wp (fun w1 => Hid (w1.heap[w.heap.size]? = some (.cells #[.int .i64 n, .slice p l.length cap, .int .i64 c, .int .i64 a] 24)) ∧ Hid (Below w.heap.size w w1) ∧ Hid (w1.heap.size = w.heap.size + 1) ∧ True) ⟨Lib.hid (by first | (simp [World.setCell, Array.getElem?_modify]; done) | (simp [World.setCell, Array.getElem?_modify]; omega) | ((repeat (first | (with_reducible exact heap_new _ _ _ (by first | rfl | (simp; done))) | (with_reducible refine keepa ?_ _) | (simp [World.setCell, Array.getElem?_modify]; done))); done)), Lib.hid (by (repeat (first | (with_reducible exact Below.refl _ _) | (with_reducible refine bel_set (by first | omega | (simp; done) | (simp; omega)) ?_) | (with_reducible refine bel_alloc (by first | omega | (simp; done) | (simp; omega)) ?_) | (with_reducible refine bel_drew ?_) | (with_reducible refine bel_drewN ?_ _))); first | done | fail "left"), Lib.hid (by simp), trivial⟩ ?_
  rintro w1 ⟨A1, BA, SZ, -⟩
  have c_A1 := cell_of_block A1.out
  have f_A1 := frozen_of_block A1.out
  go_wp2_with fail
  go_loopw [7, 8] (fun dv i wr => ∃ (k d cap' : Nat) (p' : Option Addr), k ≤ l.length ∧ i = .int .i64 k ∧ dv = .slice p' d cap' ∧ d = (D k).length ∧ Own 3 1 (w.heap.size + 1) wr (.slice p' d cap') d ((D k).map (Value.int .i64)) ∧ wr.heap[w.heap.size]? = some (.cells #[.int .i64 n, .slice p l.length cap, .int .i64 c, .int .i64 a] 24) ∧ Below w.heap.size w wr) (fun _ i _ => l.length - (intOf i).toNat)
  case atStart =>
    refine ⟨0, 0, 0, none, by omega, rfl, rfl, ?_, ?_, A1.out, BA.out⟩
    · have := HDl.out 0; omega
    · have : D 0 = [] := by rw [HD.out]; rfl
      rw [this]; exact own_nil _ _ _ _
  case round =>
    obtain ⟨k, d, cap', p', hk, rfl, rfl, hd, hown, ha1, hwb⟩ := hrel
    clear c_A1 f_A1
    have HO := Lib.hid hown
    have HW := Lib.hid hwb
    have HDd := Lib.hid hd
    replace A1 := Lib.hid ha1
    have hdk : d ≤ 1000 := by have := HDl.out k; omega
    clear hown hwb hd ha1
    have c_A1 := cell_of_block A1.out
    have f_A1 := frozen_of_block A1.out
    by_cases hlt : k < l.length
    · obtain ⟨b, o, rfl, _⟩ := HS.out.open (by omega)
      obtain ⟨f, hf⟩ : ∃ f, f = l[k] := ⟨_, rfl⟩
      obtain ⟨c0, c1, c2, c3, c4, c5, c6⟩ := fls_row HS HW.out k hlt f hf
      have hfb := HF.out f (by rw [hf]; simp)
      obtain ⟨f0, f1⟩ := hfb
      have HX := Lib.hid hf
      have t1 : (k : Int) < (l.length : Int) := by omega
      have t2 : (0 : Int) ≤ (k : Int) := by omega
      clear hf
      by_cases hu : f.at_ + rto ≤ now
      · have HDs := Lib.hid (show D (k + 1) = D k ++ [f.seq] by
          have := due_yes (s := ⟨0, l, 0, 0⟩) (now := now) (rto := rto) hlt (by rw [← HX.out]; exact hu)
          rw [HD.out, HD.out, HX.out]; exact this)
        have hszw : w.heap.size + 1 ≤ wr.heap.size := block_lt A1.out
        have HNE := Lib.hid (show ∀ k, (Value.slice p' d cap').ownBlock = some k → w.heap.size + 1 ≤ k from fun k hk => HO.out.block k hk)
        go_wp2_with (at_builtin; refine wpList_app rfl (.tmp 26) (.tmp 33) 58 rfl (w.heap.size + 1) 3 (.int .i64 0) 1 8 Try.underlying58 (by kernel_rfl) rfl (by decide) w.heap.size w (Lib.hid (HW.out.alloc HW.out.size _)) (by omega) (Lib.hid (HO.out.alloc _)) rfl ⟨wr.heap.size, 0, none⟩ 1 1 rfl [.int .i64 f.seq] rfl (Lib.hid (news_new (heap_new _ _ _ rfl))) (by simp [Value.oneCell']) (by omega) (by omega) (by simp; omega) ?_; intro p2 cap2 w5 hc2 HO5 HB5 HK5; replace A1 := Lib.hid (HK5.out _ _ (keepa A1.out _) (fun k hk => by have := HNE.out k hk; omega)); replace c_A1 := cell_of_block A1.out; replace f_A1 := frozen_of_block A1.out)
        go_roundw
        case rel =>
          refine ⟨k + 1, d + 1, cap2, p2, by omega, by go_num, rfl, ?_, ?_, A1.out, HB5.out⟩
          · rw [HDs.out, List.length_append, ← HDd.out]; rfl
          · rw [HDs.out, List.map_append]; exact HO5.out
        case measure => simp [intOf]; omega
      · have HDs := Lib.hid (show D (k + 1) = D k by
          have := due_no (s := ⟨0, l, 0, 0⟩) (now := now) (rto := rto) hlt (by rw [← HX.out]; exact hu)
          rw [HD.out, HD.out]; exact this)
        go_wp2_with fail
        go_roundw
        case rel => exact ⟨k + 1, d, cap', p', by omega, by go_num, rfl, by rw [HDs.out]; exact HDd.out, by rw [HDs.out]; exact HO.out, A1.out, HW.out⟩
        case measure => simp [intOf]; omega
    · have hke : k = l.length := by omega
      subst hke
      have t1 : decide ((l.length : Int) < (l.length : Int)) = false := by simp
      have HE := Lib.hid (show D l.length = sdDue ⟨n, l, c, a⟩ now rto by rw [HD.out, List.take_length]; rfl)
      have hd : d = (sdDue ⟨n, l, c, a⟩ now rto).length := by rw [HDd.out, HE.out]
      subst hd
      have HO2 := Lib.hid (show Own 3 1 (w.heap.size + 1) wr (.slice p' (sdDue ⟨n, l, c, a⟩ now rto).length cap') (sdDue ⟨n, l, c, a⟩ now rto).length ((sdDue ⟨n, l, c, a⟩ now rto).map (Value.int .i64)) by have := HO.out; rw [HE.out] at this; exact this)
      go_wp2_with fail
      go_ret
      exact ⟨p', cap', rfl, Lib.hid (HO2.out.mono (by omega)), HW⟩
end Go.Proofs.Yteilgibfmljoeaa.K

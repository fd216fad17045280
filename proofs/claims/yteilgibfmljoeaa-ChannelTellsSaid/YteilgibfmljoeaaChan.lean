/-
  CONTRACTS of package channel: Start, Right, Room, Idle, Same, Push, Ack, Void.
-/
import Derived.Test.YteilgibfmljoeaaChanFns
import Derived.Test.YteilgibfmljoeaaRtt
import Derived.Test.YteilgibfmljoeaaReg
import Derived.RegionTactic
import Derived.BigRegion
set_option linter.unusedVariables false
set_option linter.unusedSimpArgs false
namespace Go.Proofs.Yteilgibfmljoeaa.K
open Go Go.RowKit Nj

theorem rttRight_at (r : Rt) (w : World) : Calls Try.prog 25 #[.agg #[.int .i64 r.s, .int .i64 r.v, .int .i64 r.rto, .int .i64 r.fails, .bool r.has]] w fun e w' => e = .returned (.bool (rttRight r)) ∧ Hid (Below w.heap.size w w') :=
  (rttRight_any r.s r.v r.rto r.fails r.has w).mono fun _ _ h => ⟨h.1, Lib.hid h.2⟩
theorem rttStart_at (w : World) : Calls Try.prog 36 #[] w fun e w' => e = .returned (.agg #[.int .i64 0, .int .i64 0, .int .i64 8, .int .i64 0, .bool false]) ∧ Hid (Below w.heap.size w w') :=
  (rttStart_any w).mono fun _ _ h => ⟨h.1, Lib.hid h.2⟩
theorem rttSample_at (r : Rt) (n : Int) (w : World) (q : Rt) (hq : rttSample r n = q) : Calls Try.prog 27 #[.agg #[.int .i64 r.s, .int .i64 r.v, .int .i64 r.rto, .int .i64 r.fails, .bool r.has], .int .i64 n] w fun e w' => e = .returned (.agg #[.int .i64 q.s, .int .i64 q.v, .int .i64 q.rto, .int .i64 q.fails, .bool q.has]) ∧ Hid (Below w.heap.size w w') := by
  subst hq; exact (rttSample_any r.s r.v r.rto r.fails r.has n w).mono fun _ _ h => ⟨h.1, Lib.hid h.2⟩
theorem rttBackoff_at (r : Rt) (w : World) (q : Rt) (hq : rttBackoff r = q) : Calls Try.prog 31 #[.agg #[.int .i64 r.s, .int .i64 r.v, .int .i64 r.rto, .int .i64 r.fails, .bool r.has]] w fun e w' => e = .returned (.agg #[.int .i64 q.s, .int .i64 q.v, .int .i64 q.rto, .int .i64 q.fails, .bool q.has]) ∧ Hid (Below w.heap.size w w') := by
  subst hq; exact (rttBackoff_any r.s r.v r.rto r.fails r.has w).mono fun _ _ h => ⟨h.1, Lib.hid h.2⟩

theorem cstart_any (w : World) : Calls Try.prog 16 #[] w fun e w' => e = .returned (.agg #[.int .i64 1, .slice none 0 0, .int .i64 1, .int .i64 0, .int .i64 0, .int .i64 0, .int .i64 8, .int .i64 0, .bool false]) ∧ Hid (Below w.heap.size w w') := by
  go_enter Try.func16, Try.ntmps16
  go_upto_region 1 with fail
  refine gen_wp (fun w1 => Hid (w1.heap[w.heap.size]? = some (.cells #[.int .i64 0, .slice none 0 0, .int .i64 0, .int .i64 0, .int .i64 0, .int .i64 0, .int .i64 0, .int .i64 0, .bool false] 28)) ∧ Hid (Below w.heap.size w w1) ∧ True) ⟨Lib.hid (by first | (simp [World.setCell, Array.getElem?_modify]; done) | (simp [World.setCell, Array.getElem?_modify]; omega) | ((repeat (first | (with_reducible exact heap_new _ _ _ (by first | rfl | (simp; done))) | (with_reducible refine keepa ?_ _) | (simp [World.setCell, Array.getElem?_modify]; done))); done)), Lib.hid (by (repeat (first | (with_reducible exact Below.refl _ _) | (with_reducible refine bel_set (by first | omega | (simp; done) | (simp; omega)) ?_) | (with_reducible refine bel_alloc (by first | omega | (simp; done) | (simp; omega)) ?_) | (with_reducible refine bel_drew ?_) | (with_reducible refine bel_drewN ?_ _))); first | done | fail "left"), trivial⟩ ?_
  rintro w1 ⟨A1, BA, -⟩
  have c_A1 := cell_of_block A1.out
  have f_A1 := frozen_of_block A1.out
  go_wp2_with fail
  refine (sstart_any _).mono ?_; rintro e w2 ⟨rfl, B2⟩
  replace A1 := Lib.hid (keepb A1.out B2.out)
  replace c_A1 := cell_of_block A1.out
  replace f_A1 := frozen_of_block A1.out
  replace BA := Lib.hid (chain BA.out B2.out)
  go_wp2_with fail
  refine (rttStart_at _).mono ?_; rintro e w3 ⟨rfl, B3⟩
  replace A1 := Lib.hid (keepb A1.out B3.out)
  replace c_A1 := cell_of_block A1.out
  replace f_A1 := frozen_of_block A1.out
  replace BA := Lib.hid (chain BA.out B3.out)
  go_wp2_with fail
  exact bodyPost_ret (v := .agg #[.int .i64 1, .slice none 0 0, .int .i64 1, .int .i64 0, .int .i64 0, .int .i64 0, .int .i64 8, .int .i64 0, .bool false]) (by simp [results, Try.results16, go_sem, World.setCell, Array.getElem?_modify, World.cell?, A1.out]) rfl ⟨rfl, Lib.hid (by have hbsz := Below.size (BA.out); (repeat (first | (with_reducible exact BA.out) | (with_reducible refine bel_set (by first | omega | (simp; done) | (simp; omega)) ?_) | (with_reducible refine bel_alloc (by first | omega | (simp; done) | (simp; omega)) ?_) | (with_reducible refine bel_drew ?_) | (with_reducible refine bel_drewN ?_ _))); first | done | fail "left")⟩

theorem cright_any (n : Int) (v : Value) (c a : Int) (r : Rt) (l : List Fl) (w : World) (h : Fls w v l) (hn : n ≤ 9223372036854775807) :
    Calls Try.prog 10 #[.agg #[.int .i64 n, v, .int .i64 c, .int .i64 a, .int .i64 r.s, .int .i64 r.v, .int .i64 r.rto, .int .i64 r.fails, .bool r.has]] w fun e w' => e = .returned (.bool (chRight ⟨⟨n, l, c, a⟩, r⟩)) ∧ Hid (Below w.heap.size w w') := by
  have FS := Lib.hid h
  clear h
  obtain ⟨b1, hb1⟩ : ∃ b, b = sdRight ⟨n, l, c, a⟩ := ⟨_, rfl⟩
  obtain ⟨b2, hb2⟩ : ∃ b, b = rttRight r := ⟨_, rfl⟩
  have HC := Lib.hid (fun W (hW : Fls W v l) => sright_any n v c a l W hW hn)
  have HR := Lib.hid (fun W => rttRight_at r W)
  rw [← hb1] at HC
  rw [← hb2] at HR
  have HE := Lib.hid (show chRight ⟨⟨n, l, c, a⟩, r⟩ = (b1 && b2) by rw [hb1, hb2]; rfl)
  clear hb1 hb2
  go_enter Try.func10, Try.ntmps10
  go_upto_region 1 with fail
  refine gen_wp (fun w1 => Hid (w1.heap[w.heap.size]? = some (.cells #[.int .i64 n, v, .int .i64 c, .int .i64 a, .int .i64 r.s, .int .i64 r.v, .int .i64 r.rto, .int .i64 r.fails, .bool r.has] 28)) ∧ Hid (Below w.heap.size w w1) ∧ True) ⟨Lib.hid (by first | (simp [World.setCell, Array.getElem?_modify]; done) | (simp [World.setCell, Array.getElem?_modify]; omega) | ((repeat (first | (with_reducible exact heap_new _ _ _ (by first | rfl | (simp; done))) | (with_reducible refine keepa ?_ _) | (simp [World.setCell, Array.getElem?_modify]; done))); done)), Lib.hid (by (repeat (first | (with_reducible exact Below.refl _ _) | (with_reducible refine bel_set (by first | omega | (simp; done) | (simp; omega)) ?_) | (with_reducible refine bel_alloc (by first | omega | (simp; done) | (simp; omega)) ?_) | (with_reducible refine bel_drew ?_) | (with_reducible refine bel_drewN ?_ _))); first | done | fail "left"), trivial⟩ ?_
  rintro w1 ⟨A1, BA, -⟩
  have c_A1 := cell_of_block A1.out
  have f_A1 := frozen_of_block A1.out
  go_wp2_with fail
  refine (HC.out _ (fls_keep FS BA).out).mono ?_; rintro e w2 ⟨rfl, B2⟩
  replace A1 := Lib.hid (keepb A1.out B2.out)
  replace c_A1 := cell_of_block A1.out
  replace f_A1 := frozen_of_block A1.out
  replace BA := Lib.hid (chain BA.out B2.out)
  cases b1 with
  | false =>
    go_wp2_with fail
    go_ret
    exact ⟨by rw [HE.out]; rfl, BA⟩
  | true =>
    go_wp2_with fail
    refine (HR.out _).mono ?_; rintro e w3 ⟨rfl, B3⟩
    replace BA := Lib.hid (chain BA.out B3.out)
    go_wp2_with fail
    go_ret
    exact ⟨by rw [HE.out]; rfl, BA⟩

theorem croom_any (n : Int) (v : Value) (c a : Int) (r : Rt) (l : List Fl) (m : Int) (w : World) (h : Fls w v l) (hR : sdRight ⟨n, l, c, a⟩ = true) (hr : sdRoom ⟨n, l, c, a⟩ = m) :
    Calls Try.prog 15 #[.agg #[.int .i64 n, v, .int .i64 c, .int .i64 a, .int .i64 r.s, .int .i64 r.v, .int .i64 r.rto, .int .i64 r.fails, .bool r.has]] w fun e w' => e = .returned (.int .i64 m) ∧ Hid (Below w.heap.size w w') := by
  have FS := Lib.hid h
  subst hr
  have R := Lib.hid (rightSd hR)
  clear h hR
  go_enter Try.func15, Try.ntmps15
  go_upto_region 1 with fail
  refine gen_wp (fun w1 => Hid (w1.heap[w.heap.size]? = some (.cells #[.int .i64 n, v, .int .i64 c, .int .i64 a, .int .i64 r.s, .int .i64 r.v, .int .i64 r.rto, .int .i64 r.fails, .bool r.has] 28)) ∧ Hid (Below w.heap.size w w1) ∧ True) ⟨Lib.hid (by first | (simp [World.setCell, Array.getElem?_modify]; done) | (simp [World.setCell, Array.getElem?_modify]; omega) | ((repeat (first | (with_reducible exact heap_new _ _ _ (by first | rfl | (simp; done))) | (with_reducible refine keepa ?_ _) | (simp [World.setCell, Array.getElem?_modify]; done))); done)), Lib.hid (by (repeat (first | (with_reducible exact Below.refl _ _) | (with_reducible refine bel_set (by first | omega | (simp; done) | (simp; omega)) ?_) | (with_reducible refine bel_alloc (by first | omega | (simp; done) | (simp; omega)) ?_) | (with_reducible refine bel_drew ?_) | (with_reducible refine bel_drewN ?_ _))); first | done | fail "left"), trivial⟩ ?_
  rintro w1 ⟨A1, BA, -⟩
  have c_A1 := cell_of_block A1.out
  have f_A1 := frozen_of_block A1.out
  go_wp2_with fail
  refine (sroom_any n v c a l _ (fls_keep FS BA).out ⟨by have := R.out.n0; simp only at this; omega, R.out.n1⟩ ⟨by have := R.out.c0; simp only at this; omega, R.out.c1⟩ (by have := R.out.len; simp only at this; omega) (fun f hf => by have := R.out.fl f hf; have := R.out.n1; simp only at *; omega)).mono ?_; rintro e w2 ⟨rfl, B2⟩
  replace BA := Lib.hid (chain BA.out B2.out)
  go_wp2_with fail
  go_ret
  exact ⟨rfl, BA⟩

theorem cidle_any (n : Int) (v : Value) (c a : Int) (r : Rt) (l : List Fl) (w : World) (h : Fls w v l) :
    Calls Try.prog 13 #[.agg #[.int .i64 n, v, .int .i64 c, .int .i64 a, .int .i64 r.s, .int .i64 r.v, .int .i64 r.rto, .int .i64 r.fails, .bool r.has]] w fun e w' => e = .returned (.bool (decide (l = []))) ∧ Hid (Below w.heap.size w w') := by
  obtain ⟨p, cap, rfl, hcap⟩ := fls_shape h
  clear h
  have HE := Lib.hid (show decide (l = []) = ((l.length : Int) == 0) by rw [Bool.eq_iff_iff]; simp)
  go_enter Try.func13, Try.ntmps13
  go_wp2_with fail
  go_ret
  exact ⟨ret_bool (by rw [HE.out]), Lib.hid (below_alloc _ _)⟩

theorem csame_any (n : Int) (v : Value) (c a : Int) (r : Rt) (l : List Fl) (n' : Int) (v' : Value) (c' a' : Int) (r' : Rt) (l' : List Fl) (w : World) (h : Fls w v l) (h' : Fls w v' l') :
    Calls Try.prog 14 #[.agg #[.int .i64 n, v, .int .i64 c, .int .i64 a, .int .i64 r.s, .int .i64 r.v, .int .i64 r.rto, .int .i64 r.fails, .bool r.has], .agg #[.int .i64 n', v', .int .i64 c', .int .i64 a', .int .i64 r'.s, .int .i64 r'.v, .int .i64 r'.rto, .int .i64 r'.fails, .bool r'.has]] w fun e w' => e = .returned (.bool (decide (Ch.mk ⟨n, l, c, a⟩ r = Ch.mk ⟨n', l', c', a'⟩ r'))) ∧ Hid (Below w.heap.size w w') := by
  have FS := Lib.hid h
  have FS' := Lib.hid h'
  clear h h'
  by_cases hr : r = r'
  · subst hr
    have HE := Lib.hid (show decide (Ch.mk ⟨n, l, c, a⟩ r = Ch.mk ⟨n', l', c', a'⟩ r) = decide (Sd.mk n l c a = Sd.mk n' l' c' a') by simp only [Ch.mk.injEq, and_true])
    obtain ⟨b, hb⟩ : ∃ b, b = decide (Sd.mk n l c a = Sd.mk n' l' c' a') := ⟨_, rfl⟩
    have HSm := Lib.hid (fun W (h : Fls W v l) (h' : Fls W v' l') => ssame_any n v c a l n' v' c' a' l' W h h')
    rw [← hb] at HSm HE
    clear hb
    go_enter Try.func14, Try.ntmps14
    go_upto_region 1 with fail
    refine gen_wp (fun w1 => Hid (w1.heap[w.heap.size]? = some (.cells #[.int .i64 n, v, .int .i64 c, .int .i64 a, .int .i64 r.s, .int .i64 r.v, .int .i64 r.rto, .int .i64 r.fails, .bool r.has] 28)) ∧ Hid (w1.heap[(w.heap.size + 1)]? = some (.cells #[.int .i64 n', v', .int .i64 c', .int .i64 a', .int .i64 r.s, .int .i64 r.v, .int .i64 r.rto, .int .i64 r.fails, .bool r.has] 28)) ∧ Hid (Below w.heap.size w w1) ∧ True) ⟨Lib.hid (by first | (simp [World.setCell, Array.getElem?_modify]; done) | (simp [World.setCell, Array.getElem?_modify]; omega) | ((repeat (first | (with_reducible exact heap_new _ _ _ (by first | rfl | (simp; done))) | (with_reducible refine keepa ?_ _) | (simp [World.setCell, Array.getElem?_modify]; done))); done)), Lib.hid (by first | (simp [World.setCell, Array.getElem?_modify]; done) | (simp [World.setCell, Array.getElem?_modify]; omega) | ((repeat (first | (with_reducible exact heap_new _ _ _ (by first | rfl | (simp; done))) | (with_reducible refine keepa ?_ _) | (simp [World.setCell, Array.getElem?_modify]; done))); done)), Lib.hid (by (repeat (first | (with_reducible exact Below.refl _ _) | (with_reducible refine bel_set (by first | omega | (simp; done) | (simp; omega)) ?_) | (with_reducible refine bel_alloc (by first | omega | (simp; done) | (simp; omega)) ?_) | (with_reducible refine bel_drew ?_) | (with_reducible refine bel_drewN ?_ _))); first | done | fail "left"), trivial⟩ ?_
    rintro w1 ⟨A1, A2, BA, -⟩
    have c_A1 := cell_of_block A1.out
    have f_A1 := frozen_of_block A1.out
    have c_A2 := cell_of_block A2.out
    have f_A2 := frozen_of_block A2.out
    go_wp2_with fail
    refine (HSm.out _ (fls_keep FS BA).out (fls_keep FS' BA).out).mono ?_; rintro e w2 ⟨rfl, B2⟩
    replace BA := Lib.hid (chain BA.out B2.out)
    go_wp2_with fail
    go_ret
    exact ⟨ret_bool (by rw [HE.out]), BA⟩
  · have HE := Lib.hid (show decide (Ch.mk ⟨n, l, c, a⟩ r = Ch.mk ⟨n', l', c', a'⟩ r') = false by simp [hr])
    have HN := Lib.hid (show ¬ (((((r.s = r'.s) ∧ r.v = r'.v) ∧ r.rto = r'.rto) ∧ r.fails = r'.fails) ∧ r.has = r'.has) from fun ⟨⟨⟨⟨h1, h2⟩, h3⟩, h4⟩, h5⟩ => hr (by cases r; cases r'; simp_all))
    clear hr
    go_enter Try.func14, Try.ntmps14
    go_upto_region 1 with fail
    refine gen_wp (fun w1 => Hid (w1.heap[w.heap.size]? = some (.cells #[.int .i64 n, v, .int .i64 c, .int .i64 a, .int .i64 r.s, .int .i64 r.v, .int .i64 r.rto, .int .i64 r.fails, .bool r.has] 28)) ∧ Hid (w1.heap[(w.heap.size + 1)]? = some (.cells #[.int .i64 n', v', .int .i64 c', .int .i64 a', .int .i64 r'.s, .int .i64 r'.v, .int .i64 r'.rto, .int .i64 r'.fails, .bool r'.has] 28)) ∧ Hid (Below w.heap.size w w1) ∧ True) ⟨Lib.hid (by first | (simp [World.setCell, Array.getElem?_modify]; done) | (simp [World.setCell, Array.getElem?_modify]; omega) | ((repeat (first | (with_reducible exact heap_new _ _ _ (by first | rfl | (simp; done))) | (with_reducible refine keepa ?_ _) | (simp [World.setCell, Array.getElem?_modify]; done))); done)), Lib.hid (by first | (simp [World.setCell, Array.getElem?_modify]; done) | (simp [World.setCell, Array.getElem?_modify]; omega) | ((repeat (first | (with_reducible exact heap_new _ _ _ (by first | rfl | (simp; done))) | (with_reducible refine keepa ?_ _) | (simp [World.setCell, Array.getElem?_modify]; done))); done)), Lib.hid (by (repeat (first | (with_reducible exact Below.refl _ _) | (with_reducible refine bel_set (by first | omega | (simp; done) | (simp; omega)) ?_) | (with_reducible refine bel_alloc (by first | omega | (simp; done) | (simp; omega)) ?_) | (with_reducible refine bel_drew ?_) | (with_reducible refine bel_drewN ?_ _))); first | done | fail "left"), trivial⟩ ?_
    rintro w1 ⟨A1, A2, BA, -⟩
    have c_A1 := cell_of_block A1.out
    have f_A1 := frozen_of_block A1.out
    have c_A2 := cell_of_block A2.out
    have f_A2 := frozen_of_block A2.out
    go_wp2_with fail
    all_goals first
      | (exfalso; exact HN.out ⟨⟨⟨⟨by assumption, by assumption⟩, by assumption⟩, by assumption⟩, by assumption⟩)
      | (go_ret; exact ⟨ret_bool HE.out.symm, BA⟩)
end Go.Proofs.Yteilgibfmljoeaa.K

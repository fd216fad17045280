/-
  CONTRACTS of nightjarref12: Right, Same, Room, Idle, Void, Push, Ack.
-/
import Derived.Test.YteilgibfmljoeaaChanRead
import Derived.Test.YteilgibfmljoeaaRttRef
import Derived.Test.YteilgibfmljoeaaSendRef7
set_option linter.unusedVariables false
set_option linter.unusedSimpArgs false
namespace Go.Proofs.Yteilgibfmljoeaa.K
open Go Go.RowKit Nj

theorem qRttRight_at (r : Rt) (w : World) : Calls Try.prog 39 #[.agg #[.int .i64 r.s, .int .i64 r.v, .int .i64 r.rto, .int .i64 r.fails, .bool r.has]] w fun e w' => e = .returned (.bool (rttRight r)) ∧ Hid (Below w.heap.size w w') :=
  (rrttRight_any r.s r.v r.rto r.fails r.has w).mono fun _ _ h => ⟨h.1, Lib.hid h.2⟩
theorem qRttSample_at (r : Rt) (n : Int) (w : World) (q : Rt) (hq : rttSample r n = q) : Calls Try.prog 61 #[.agg #[.int .i64 r.s, .int .i64 r.v, .int .i64 r.rto, .int .i64 r.fails, .bool r.has], .int .i64 n] w fun e w' => e = .returned (.agg #[.int .i64 q.s, .int .i64 q.v, .int .i64 q.rto, .int .i64 q.fails, .bool q.has]) ∧ Hid (Below w.heap.size w w') := by
  subst hq; exact (rrttSample_any r.s r.v r.rto r.fails r.has n w).mono fun _ _ h => ⟨h.1, Lib.hid h.2⟩
theorem qRttBackoff_at (r : Rt) (w : World) (q : Rt) (hq : rttBackoff r = q) : Calls Try.prog 65 #[.agg #[.int .i64 r.s, .int .i64 r.v, .int .i64 r.rto, .int .i64 r.fails, .bool r.has]] w fun e w' => e = .returned (.agg #[.int .i64 q.s, .int .i64 q.v, .int .i64 q.rto, .int .i64 q.fails, .bool q.has]) ∧ Hid (Below w.heap.size w w') := by
  subst hq; exact (rrttBackoff_any r.s r.v r.rto r.fails r.has w).mono fun _ _ h => ⟨h.1, Lib.hid h.2⟩

theorem qcright_any (n : Int) (v : Value) (c a : Int) (r : Rt) (l : List Fl) (w : World) (h : Fls w v l) (hn : n ≤ 9223372036854775807) :
    Calls Try.prog 18 #[.agg #[.int .i64 n, v, .int .i64 c, .int .i64 a, .int .i64 r.s, .int .i64 r.v, .int .i64 r.rto, .int .i64 r.fails, .bool r.has]] w fun e w' => e = .returned (.bool (chRight ⟨⟨n, l, c, a⟩, r⟩)) ∧ Hid (Below w.heap.size w w') := by
  have FS := Lib.hid h
  clear h
  obtain ⟨b1, hb1⟩ : ∃ b, b = sdRight ⟨n, l, c, a⟩ := ⟨_, rfl⟩
  obtain ⟨b2, hb2⟩ : ∃ b, b = rttRight r := ⟨_, rfl⟩
  have HC := Lib.hid (fun W (hW : Fls W v l) => rright_any n v c a l W hW hn)
  have HR := Lib.hid (fun W => qRttRight_at r W)
  rw [← hb1] at HC
  rw [← hb2] at HR
  have HE := Lib.hid (show chRight ⟨⟨n, l, c, a⟩, r⟩ = (b1 && b2) by rw [hb1, hb2]; rfl)
  clear hb1 hb2
  go_enter Try.func18, Try.ntmps18
  go_upto_region 1 with fail
  refine gen_wp (fun w1 => Hid (w1.heap[w.heap.size]? = some (.cells #[.int .i64 n, v, .int .i64 c, .int .i64 a, .int .i64 r.s, .int .i64 r.v, .int .i64 r.rto, .int .i64 r.fails, .bool r.has] 28)) ∧ Hid (Below w.heap.size w w1) ∧ True) ⟨Lib.hid (by first | (simp [World.setCell, Array.getElem?_modify]; done) | (simp [World.setCell, Array.getElem?_modify]; omega) | ((repeat (first | (with_reducible exact heap_new _ _ _ (by first | rfl | (simp; done))) | (with_reducible refine keepa ?_ _) | (simp [World.setCell, Array.getElem?_modify]; done))); done)), Lib.hid (by (repeat (first | (with_reducible exact Below.refl _ _) | (with_reducible refine bel_set (by first | omega | (simp; done) | (simp; omega)) ?_) | (with_reducible refine bel_alloc (by first | omega | (simp; done) | (simp; omega)) ?_) | (with_reducible refine bel_drew ?_) | (with_reducible refine bel_drewN ?_ _))); first | done | fail "left"), trivial⟩ ?_
  rintro w1 ⟨A1, BA, -⟩
  have c_A1 := cell_of_block A1.out
  have f_A1 := frozen_of_block A1.out
  go_wp2_with fail
  refine (HC.out _ (fls_keep FS BA).out).mono ?_; rintro e w2 ⟨rfl, B2⟩
  replace A1 := Lib.hid (keepb A1.out B2.out)
  replace c_A1 := cell_of_block A1.out
  replace f_A1 := frozen_of_block A1.out
  replace BA := Lib.hid (chain BA.out B2.out)
  go_wp2_with fail
  refine (HR.out _).mono ?_; rintro e w3 ⟨rfl, B3⟩
  replace BA := Lib.hid (chain BA.out B3.out)
  cases b1
  all_goals
    go_wp2_with fail
    go_ret
    exact ⟨by rw [HE.out]; rfl, BA⟩

theorem qcroom_any (n : Int) (v : Value) (c a : Int) (r : Rt) (l : List Fl) (m : Int) (w : World) (h : Fls w v l) (hR : sdRight ⟨n, l, c, a⟩ = true) (hr : sdRoom ⟨n, l, c, a⟩ = m) :
    Calls Try.prog 21 #[.agg #[.int .i64 n, v, .int .i64 c, .int .i64 a, .int .i64 r.s, .int .i64 r.v, .int .i64 r.rto, .int .i64 r.fails, .bool r.has]] w fun e w' => e = .returned (.int .i64 m) ∧ Hid (Below w.heap.size w w') := by
  have FS := Lib.hid h
  have HR := Lib.hid hR
  have HM := Lib.hid hr
  clear h hR hr
  go_enter Try.func21, Try.ntmps21
  go_upto_region 1 with fail
  refine gen_wp (fun w1 => Hid (w1.heap[w.heap.size]? = some (.cells #[.int .i64 n, v, .int .i64 c, .int .i64 a, .int .i64 r.s, .int .i64 r.v, .int .i64 r.rto, .int .i64 r.fails, .bool r.has] 28)) ∧ Hid (Below w.heap.size w w1) ∧ True) ⟨Lib.hid (by first | (simp [World.setCell, Array.getElem?_modify]; done) | (simp [World.setCell, Array.getElem?_modify]; omega) | ((repeat (first | (with_reducible exact heap_new _ _ _ (by first | rfl | (simp; done))) | (with_reducible refine keepa ?_ _) | (simp [World.setCell, Array.getElem?_modify]; done))); done)), Lib.hid (by (repeat (first | (with_reducible exact Below.refl _ _) | (with_reducible refine bel_set (by first | omega | (simp; done) | (simp; omega)) ?_) | (with_reducible refine bel_alloc (by first | omega | (simp; done) | (simp; omega)) ?_) | (with_reducible refine bel_drew ?_) | (with_reducible refine bel_drewN ?_ _))); first | done | fail "left"), trivial⟩ ?_
  rintro w1 ⟨A1, BA, -⟩
  have c_A1 := cell_of_block A1.out
  have f_A1 := frozen_of_block A1.out
  go_wp2_with fail
  refine (rroom_any n v c a l m _ (fls_keep FS BA).out HR.out HM.out).mono ?_; rintro e w2 ⟨rfl, B2⟩
  replace BA := Lib.hid (chain BA.out B2.out)
  go_wp2_with fail
  go_ret
  exact ⟨rfl, BA⟩

theorem qcidle_any (n : Int) (v : Value) (c a : Int) (r : Rt) (l : List Fl) (w : World) (h : Fls w v l) :
    Calls Try.prog 22 #[.agg #[.int .i64 n, v, .int .i64 c, .int .i64 a, .int .i64 r.s, .int .i64 r.v, .int .i64 r.rto, .int .i64 r.fails, .bool r.has]] w fun e w' => e = .returned (.bool (decide (l = []))) ∧ Hid (Below w.heap.size w w') := by
  obtain ⟨p, cap, rfl, hcap⟩ := fls_shape h
  clear h
  have HE := Lib.hid (show decide (l = []) = ((l.length : Int) == 0) by rw [Bool.eq_iff_iff]; simp)
  go_enter Try.func22, Try.ntmps22
  go_wp2_with fail
  go_ret
  exact ⟨ret_bool (by rw [HE.out]), Lib.hid (below_alloc _ _)⟩

theorem qcsame_any (n : Int) (v : Value) (c a : Int) (r : Rt) (l : List Fl) (n' : Int) (v' : Value) (c' a' : Int) (r' : Rt) (l' : List Fl) (w : World) (h : Fls w v l) (h' : Fls w v' l') :
    Calls Try.prog 19 #[.agg #[.int .i64 n, v, .int .i64 c, .int .i64 a, .int .i64 r.s, .int .i64 r.v, .int .i64 r.rto, .int .i64 r.fails, .bool r.has], .agg #[.int .i64 n', v', .int .i64 c', .int .i64 a', .int .i64 r'.s, .int .i64 r'.v, .int .i64 r'.rto, .int .i64 r'.fails, .bool r'.has]] w fun e w' => e = .returned (.bool (decide (Ch.mk ⟨n, l, c, a⟩ r = Ch.mk ⟨n', l', c', a'⟩ r'))) ∧ Hid (Below w.heap.size w w') := by
  have FS := Lib.hid h
  have FS' := Lib.hid h'
  clear h h'
  obtain ⟨b, hb⟩ : ∃ b, b = decide (Sd.mk n l c a = Sd.mk n' l' c' a') := ⟨_, rfl⟩
  have HSm := Lib.hid (fun W (h : Fls W v l) (h' : Fls W v' l') => rsame_any n v c a l n' v' c' a' l' W h h')
  rw [← hb] at HSm
  have HE := Lib.hid (show decide (Ch.mk ⟨n, l, c, a⟩ r = Ch.mk ⟨n', l', c', a'⟩ r') = (b && decide (r = r')) by rw [hb]; simp only [Ch.mk.injEq, Bool.decide_and])
  clear hb
  by_cases hr : r = r'
  · subst hr
    go_enter Try.func19, Try.ntmps19
    go_upto_region 1 with fail
    refine gen_wp (fun w1 => Hid (w1.heap[w.heap.size]? = some (.cells #[.int .i64 n, v, .int .i64 c, .int .i64 a, .int .i64 r.s, .int .i64 r.v, .int .i64 r.rto, .int .i64 r.fails, .bool r.has] 28)) ∧ Hid (w1.heap[(w.heap.size + 1)]? = some (.cells #[.int .i64 n', v', .int .i64 c', .int .i64 a', .int .i64 r.s, .int .i64 r.v, .int .i64 r.rto, .int .i64 r.fails, .bool r.has] 28)) ∧ Hid (Below w.heap.size w w1) ∧ True) ⟨Lib.hid (by first | (simp [World.setCell, Array.getElem?_modify]; done) | (simp [World.setCell, Array.getElem?_modify]; omega) | ((repeat (first | (with_reducible exact heap_new _ _ _ (by first | rfl | (simp; done))) | (with_reducible refine keepa ?_ _) | (simp [World.setCell, Array.getElem?_modify]; done))); done)), Lib.hid (by first | (simp [World.setCell, Array.getElem?_modify]; done) | (simp [World.setCell, Array.getElem?_modify]; omega) | ((repeat (first | (with_reducible exact heap_new _ _ _ (by first | rfl | (simp; done))) | (with_reducible refine keepa ?_ _) | (simp [World.setCell, Array.getElem?_modify]; done))); done)), Lib.hid (by (repeat (first | (with_reducible exact Below.refl _ _) | (with_reducible refine bel_set (by first | omega | (simp; done) | (simp; omega)) ?_) | (with_reducible refine bel_alloc (by first | omega | (simp; done) | (simp; omega)) ?_) | (with_reducible refine bel_drew ?_) | (with_reducible refine bel_drewN ?_ _))); first | done | fail "left"), trivial⟩ ?_
    rintro w1 ⟨A1, A2, BA, -⟩
    have c_A1 := cell_of_block A1.out
    have f_A1 := frozen_of_block A1.out
    have c_A2 := cell_of_block A2.out
    have f_A2 := frozen_of_block A2.out
    go_wp2_with fail
    refine (HSm.out _ (fls_keep FS BA).out (fls_keep FS' BA).out).mono ?_; rintro e w2 ⟨rfl, B2⟩
    replace A1 := Lib.hid (keepb A1.out B2.out)
    replace c_A1 := cell_of_block A1.out
    replace f_A1 := frozen_of_block A1.out
    replace A2 := Lib.hid (keepb A2.out B2.out)
    replace c_A2 := cell_of_block A2.out
    replace f_A2 := frozen_of_block A2.out
    replace BA := Lib.hid (chain BA.out B2.out)
    cases b
    all_goals
      go_wp2_with fail
      go_ret
      exact ⟨ret_bool (by rw [HE.out]; simp), BA⟩
  · have HN := Lib.hid (show ¬ (((((r.s = r'.s) ∧ r.v = r'.v) ∧ r.rto = r'.rto) ∧ r.fails = r'.fails) ∧ r.has = r'.has) from fun ⟨⟨⟨⟨h1, h2⟩, h3⟩, h4⟩, h5⟩ => hr (by cases r; cases r'; simp_all))
    have HE2 := Lib.hid (show decide (Ch.mk ⟨n, l, c, a⟩ r = Ch.mk ⟨n', l', c', a'⟩ r') = false by rw [HE.out, decide_eq_false hr, Bool.and_false])
    clear hr
    go_enter Try.func19, Try.ntmps19
    go_upto_region 1 with fail
    refine gen_wp (fun w1 => Hid (w1.heap[w.heap.size]? = some (.cells #[.int .i64 n, v, .int .i64 c, .int .i64 a, .int .i64 r.s, .int .i64 r.v, .int .i64 r.rto, .int .i64 r.fails, .bool r.has] 28)) ∧ Hid (w1.heap[(w.heap.size + 1)]? = some (.cells #[.int .i64 n', v', .int .i64 c', .int .i64 a', .int .i64 r'.s, .int .i64 r'.v, .int .i64 r'.rto, .int .i64 r'.fails, .bool r'.has] 28)) ∧ Hid (Below w.heap.size w w1) ∧ True) ⟨Lib.hid (by first | (simp [World.setCell, Array.getElem?_modify]; done) | (simp [World.setCell, Array.getElem?_modify]; omega) | ((repeat (first | (with_reducible exact heap_new _ _ _ (by first | rfl | (simp; done))) | (with_reducible refine keepa ?_ _) | (simp [World.setCell, Array.getElem?_modify]; done))); done)), Lib.hid (by first | (simp [World.setCell, Array.getElem?_modify]; done) | (simp [World.setCell, Array.getElem?_modify]; omega) | ((repeat (first | (with_reducible exact heap_new _ _ _ (by first | rfl | (simp; done))) | (with_reducible refine keepa ?_ _) | (simp [World.setCell, Array.getElem?_modify]; done))); done)), Lib.hid (by (repeat (first | (with_reducible exact Below.refl _ _) | (with_reducible refine bel_set (by first | omega | (simp; done) | (simp; omega)) ?_) | (with_reducible refine bel_alloc (by first | omega | (simp; done) | (simp; omega)) ?_) | (with_reducible refine bel_drew ?_) | (with_reducible refine bel_drewN ?_ _))); first | done | fail "left"), trivial⟩ ?_
    rintro w1 ⟨A1, A2, BA, -⟩
    have c_A1 := cell_of_block A1.out
    have f_A1 := frozen_of_block A1.out
    have c_A2 := cell_of_block A2.out
    have f_A2 := frozen_of_block A2.out
    go_wp2_with fail
    refine (HSm.out _ (fls_keep FS BA).out (fls_keep FS' BA).out).mono ?_; rintro e w2 ⟨rfl, B2⟩
    replace A1 := Lib.hid (keepb A1.out B2.out)
    replace c_A1 := cell_of_block A1.out
    replace f_A1 := frozen_of_block A1.out
    replace A2 := Lib.hid (keepb A2.out B2.out)
    replace c_A2 := cell_of_block A2.out
    replace f_A2 := frozen_of_block A2.out
    replace BA := Lib.hid (chain BA.out B2.out)
    cases b
    all_goals
      go_wp2_with fail
      all_goals first
        | (exfalso; exact HN.out ⟨⟨⟨⟨by assumption, by assumption⟩, by assumption⟩, by assumption⟩, by assumption⟩)
        | (go_ret; exact ⟨ret_bool HE2.out.symm, BA⟩)

set_option maxHeartbeats 2000000 in
theorem qcpush_any (n : Int) (v : Value) (c a : Int) (r : Rt) (l : List Fl) (nt : Nt) (now : Int) (w : World) (h : Fls w v l) (hR : sdRight ⟨n, l, c, a⟩ = true)
    (s : Sd) (f : Fl) (ok : Bool) (hr : sdPush ⟨n, l, c, a⟩ nt now = (s, f, ok)) :
    Calls Try.prog 41 #[.agg #[.int .i64 n, v, .int .i64 c, .int .i64 a, .int .i64 r.s, .int .i64 r.v, .int .i64 r.rto, .int .i64 r.fails, .bool r.has], .agg #[.int .i64 nt.user, .int .i64 nt.ver, .int .i64 nt.stat, .int .i64 nt.cnt], .int .i64 now] w (RetCh3 w s r f ok) := by
  have FS := Lib.hid h
  have HR := Lib.hid hR
  have HE := Lib.hid hr
  clear h hR hr
  go_enter Try.func41, Try.ntmps41
  go_upto_region 1 with fail
  simp only [Nat.add_assoc, Nat.reduceAdd]
  refine gen_wp (fun w1 => Hid (w1.heap[w.heap.size]? = some (.cells #[.int .i64 n, v, .int .i64 c, .int .i64 a, .int .i64 r.s, .int .i64 r.v, .int .i64 r.rto, .int .i64 r.fails, .bool r.has] 28)) ∧ Hid (w1.heap[(w.heap.size + 1)]? = some (.cells #[.int .i64 nt.user, .int .i64 nt.ver, .int .i64 nt.stat, .int .i64 nt.cnt] 38)) ∧ Hid (w1.heap[(w.heap.size + 2)]? = some (.cells #[.int .i64 0, .slice none 0 0, .int .i64 0, .int .i64 0, .int .i64 0, .int .i64 0, .int .i64 0, .int .i64 0, .bool false] 28)) ∧ Hid (w1.heap[(w.heap.size + 3)]? = some (.cells #[.int .i64 0, .int .i64 0, .int .i64 0, .int .i64 0, .int .i64 0, .int .i64 0, .int .i64 0] 40)) ∧ Hid (Below w.heap.size w w1) ∧ Hid (w1.heap.size = w.heap.size + 4) ∧ True) ⟨Lib.hid (by first | (simp [World.setCell, Array.getElem?_modify]; done) | (simp [World.setCell, Array.getElem?_modify]; omega) | ((repeat (first | (with_reducible exact heap_new _ _ _ (by first | rfl | (simp; done))) | (with_reducible refine keepa ?_ _) | (simp [World.setCell, Array.getElem?_modify]; done))); done)), Lib.hid (by first | (simp [World.setCell, Array.getElem?_modify]; done) | (simp [World.setCell, Array.getElem?_modify]; omega) | ((repeat (first | (with_reducible exact heap_new _ _ _ (by first | rfl | (simp; done))) | (with_reducible refine keepa ?_ _) | (simp [World.setCell, Array.getElem?_modify]; done))); done)), Lib.hid (by first | (simp [World.setCell, Array.getElem?_modify]; done) | (simp [World.setCell, Array.getElem?_modify]; omega) | ((repeat (first | (with_reducible exact heap_new _ _ _ (by first | rfl | (simp; done))) | (with_reducible refine keepa ?_ _) | (simp [World.setCell, Array.getElem?_modify]; done))); done)), Lib.hid (by first | (simp [World.setCell, Array.getElem?_modify]; done) | (simp [World.setCell, Array.getElem?_modify]; omega) | ((repeat (first | (with_reducible exact heap_new _ _ _ (by first | rfl | (simp; done))) | (with_reducible refine keepa ?_ _) | (simp [World.setCell, Array.getElem?_modify]; done))); done)), Lib.hid (by (repeat (first | (with_reducible exact Below.refl _ _) | (with_reducible refine bel_set (by first | omega | (simp; done) | (simp; omega)) ?_) | (with_reducible refine bel_alloc (by first | omega | (simp; done) | (simp; omega)) ?_) | (with_reducible refine bel_drew ?_) | (with_reducible refine bel_drewN ?_ _))); first | done | fail "left"), Lib.hid (by simp), trivial⟩ ?_
  rintro w1 ⟨A1, A2, A3, A4, BA, SZ, -⟩
  have c_A1 := cell_of_block A1.out
  have f_A1 := frozen_of_block A1.out
  have c_A2 := cell_of_block A2.out
  have f_A2 := frozen_of_block A2.out
  have c_A3 := cell_of_block A3.out
  have f_A3 := frozen_of_block A3.out
  have c_A4 := cell_of_block A4.out
  have f_A4 := frozen_of_block A4.out
  go_wp2_with fail
  refine (rpush_any n v c a l nt now _ (fls_keep FS BA).out HR.out s f ok HE.out).mono ?_
  rintro e w2 ⟨p1, cap1, rfl, O1, B1⟩
  replace A1 := Lib.hid (keepb A1.out B1.out)
  replace c_A1 := cell_of_block A1.out
  replace f_A1 := frozen_of_block A1.out
  replace A2 := Lib.hid (keepb A2.out B1.out)
  replace c_A2 := cell_of_block A2.out
  replace f_A2 := frozen_of_block A2.out
  replace A3 := Lib.hid (keepb A3.out B1.out)
  replace c_A3 := cell_of_block A3.out
  replace f_A3 := frozen_of_block A3.out
  replace A4 := Lib.hid (keepb A4.out B1.out)
  replace c_A4 := cell_of_block A4.out
  replace f_A4 := frozen_of_block A4.out
  replace BA := Lib.hid (chain BA.out B1.out)
  replace O1 := Lib.hid (show Own 40 7 (w.heap.size + 4) w2 (.slice p1 s.fl.length cap1) s.fl.length (flat Fl.cells s.fl) by rw [← SZ.out]; exact O1.out)
  have SZ2 := Lib.hid (show w.heap.size + 4 ≤ w2.heap.size by have := B1.out.size; have := SZ.out; omega)
  go_upto_region 2 with fail
  refine gen_wp (fun w3 => Hid (Below w2.heap.size w2 w3) ∧ Hid (w3.heap[w2.heap.size]? = some (.cells #[.int .i64 s.next, .slice p1 s.fl.length cap1, .int .i64 s.cwnd, .int .i64 s.acc] 24)) ∧ Hid (w3.heap[(w2.heap.size + 1)]? = some (.cells #[.int .i64 f.seq, .int .i64 f.note.user, .int .i64 f.note.ver, .int .i64 f.note.stat, .int .i64 f.note.cnt, .int .i64 f.at_, .int .i64 f.tries] 40)) ∧ Hid (Own 40 7 (w.heap.size + 4) w3 (.slice p1 s.fl.length cap1) s.fl.length (flat Fl.cells s.fl)) ∧ True) ⟨Lib.hid (by (repeat (first | (with_reducible exact Below.refl _ _) | (with_reducible refine bel_set (by first | omega | (simp; done) | (simp; omega)) ?_) | (with_reducible refine bel_alloc (by first | omega | (simp; done) | (simp; omega)) ?_) | (with_reducible refine bel_drew ?_) | (with_reducible refine bel_drewN ?_ _))); first | done | fail "left"), Lib.hid (by first | (simp [World.setCell, Array.getElem?_modify, A1.out, A2.out, A3.out, A4.out]; done) | (simp [World.setCell, Array.getElem?_modify, A1.out, A2.out, A3.out, A4.out]; omega) | ((repeat (first | (with_reducible exact A1.out) | (with_reducible exact A2.out) | (with_reducible exact A3.out) | (with_reducible exact A4.out) | (with_reducible exact heap_new _ _ _ (by first | rfl | (simp; done))) | (with_reducible refine keepa ?_ _) | (simp [World.setCell, Array.getElem?_modify, A1.out, A2.out, A3.out, A4.out]; done))); done)), Lib.hid (by first | (simp [World.setCell, Array.getElem?_modify, A1.out, A2.out, A3.out, A4.out]; done) | (simp [World.setCell, Array.getElem?_modify, A1.out, A2.out, A3.out, A4.out]; omega) | ((repeat (first | (with_reducible exact A1.out) | (with_reducible exact A2.out) | (with_reducible exact A3.out) | (with_reducible exact A4.out) | (with_reducible exact heap_new _ _ _ (by first | rfl | (simp; done))) | (with_reducible refine keepa ?_ _) | (simp [World.setCell, Array.getElem?_modify, A1.out, A2.out, A3.out, A4.out]; done))); done)), Lib.hid (by (repeat (first | (with_reducible exact O1.out) | (with_reducible refine Own.set ?_ _ _ (by first | omega | (simp; done) | (simp; omega))) | (with_reducible refine Own.alloc ?_ _) | (with_reducible refine Own.drew ?_) | (with_reducible refine Own.drewN ?_ _))); first | done | fail "left"), trivial⟩ ?_
  clear c_A1 f_A1 c_A2 f_A2 c_A3 f_A3 c_A4 f_A4
  rintro w3 ⟨N, A9, A10, O3, -⟩
  have c_A9 := cell_of_block A9.out
  have f_A9 := frozen_of_block A9.out
  have c_A10 := cell_of_block A10.out
  have f_A10 := frozen_of_block A10.out
  replace A1 := Lib.hid (keepb A1.out N.out)
  replace c_A1 := cell_of_block A1.out
  replace f_A1 := frozen_of_block A1.out
  replace A2 := Lib.hid (keepb A2.out N.out)
  replace c_A2 := cell_of_block A2.out
  replace f_A2 := frozen_of_block A2.out
  replace A3 := Lib.hid (keepb A3.out N.out)
  replace c_A3 := cell_of_block A3.out
  replace f_A3 := frozen_of_block A3.out
  replace A4 := Lib.hid (keepb A4.out N.out)
  replace c_A4 := cell_of_block A4.out
  replace f_A4 := frozen_of_block A4.out
  replace BA := Lib.hid (chain BA.out N.out)
  clear N O1 B1
  have z2 := SZ2.out
  have m1 : w.heap.size ≠ w2.heap.size := by omega
  have m2 : w.heap.size ≠ w2.heap.size + 1 := by omega
  have m3 : w.heap.size + 2 ≠ w2.heap.size + 1 := by omega
  have m4 : w.heap.size + 3 ≠ w2.heap.size + 1 := by omega
  have m5 : w.heap.size + 2 ≠ w2.heap.size := by omega
  have m6 : w.heap.size + 3 ≠ w2.heap.size := by omega
  go_region
  go_wp2_with fail
  refine bodyPost_ret (v := .tuple #[.agg #[.int .i64 s.next, .slice p1 s.fl.length cap1, .int .i64 s.cwnd, .int .i64 s.acc, .int .i64 r.s, .int .i64 r.v, .int .i64 r.rto, .int .i64 r.fails, .bool r.has], .agg #[.int .i64 f.seq, .int .i64 f.note.user, .int .i64 f.note.ver, .int .i64 f.note.stat, .int .i64 f.note.cnt, .int .i64 f.at_, .int .i64 f.tries], .bool ok]) (by simp [results, Try.results41, go_sem, c_A3, c_A4]) rfl ⟨p1, cap1, rfl, Lib.hid ?_, Lib.hid (by have hbsz := Below.size (BA.out); (repeat (first | (with_reducible exact BA.out) | (with_reducible refine bel_set (by first | omega | (simp; done) | (simp; omega)) ?_) | (with_reducible refine bel_alloc (by first | omega | (simp; done) | (simp; omega)) ?_) | (with_reducible refine bel_drew ?_) | (with_reducible refine bel_drewN ?_ _))); first | done | fail "left")⟩
  exact Own.mono (B := w.heap.size + 4) (by (repeat (first | (with_reducible exact O3.out) | (with_reducible refine Own.set ?_ _ _ (by first | omega | (simp; done) | (simp; omega))) | (with_reducible refine Own.alloc ?_ _) | (with_reducible refine Own.drew ?_) | (with_reducible refine Own.drewN ?_ _))); first | done | fail "left") (by omega)

set_option maxHeartbeats 2000000 in
theorem qcack_any (n : Int) (v : Value) (c a : Int) (r : Rt) (l : List Fl) (ack sack now : Int) (w : World) (h : Fls w v l) (hR : sdRight ⟨n, l, c, a⟩ = true) (hnow : 0 ≤ now ∧ now ≤ 1099511627776)
    (d : Ch) (hd : chAck ⟨⟨n, l, c, a⟩, r⟩ ack sack now = d) :
    Calls Try.prog 42 #[.agg #[.int .i64 n, v, .int .i64 c, .int .i64 a, .int .i64 r.s, .int .i64 r.v, .int .i64 r.rto, .int .i64 r.fails, .bool r.has], .int .i64 ack, .int .i64 sack, .int .i64 now] w (RetCh w d.send d.rtt) := by
  have FS := Lib.hid h
  have HR := Lib.hid hR
  have HN := Lib.hid hnow
  obtain ⟨s, m, hsm⟩ : ∃ s m, sdAcked ⟨n, l, c, a⟩ ack sack now = (s, m) := ⟨_, _, rfl⟩
  obtain ⟨q, hq⟩ : ∃ q, q = if 0 ≤ m then rttSample r m else r := ⟨_, rfl⟩
  have hd2 : d = ⟨s, q⟩ := by rw [← hd]; unfold chAck; simp only [hsm, hq]
  subst hd2
  have HS := Lib.hid hsm
  have HQ := Lib.hid hq
  clear h hR hnow hsm hd hq
  show Calls _ _ _ _ (RetCh w s q)
  go_enter Try.func42, Try.ntmps42
  go_upto_region 1 with fail
  refine gen_wp (fun w1 => Hid (w1.heap[w.heap.size]? = some (.cells #[.int .i64 n, v, .int .i64 c, .int .i64 a, .int .i64 r.s, .int .i64 r.v, .int .i64 r.rto, .int .i64 r.fails, .bool r.has] 28)) ∧ Hid (w1.heap[(w.heap.size + 1)]? = some (.cells #[.int .i64 0, .slice none 0 0, .int .i64 0, .int .i64 0, .int .i64 0, .int .i64 0, .int .i64 0, .int .i64 0, .bool false] 28)) ∧ Hid (Below w.heap.size w w1) ∧ Hid (w1.heap.size = w.heap.size + 2) ∧ True) ⟨Lib.hid (by first | (simp [World.setCell, Array.getElem?_modify]; done) | (simp [World.setCell, Array.getElem?_modify]; omega) | ((repeat (first | (with_reducible exact heap_new _ _ _ (by first | rfl | (simp; done))) | (with_reducible refine keepa ?_ _) | (simp [World.setCell, Array.getElem?_modify]; done))); done)), Lib.hid (by first | (simp [World.setCell, Array.getElem?_modify]; done) | (simp [World.setCell, Array.getElem?_modify]; omega) | ((repeat (first | (with_reducible exact heap_new _ _ _ (by first | rfl | (simp; done))) | (with_reducible refine keepa ?_ _) | (simp [World.setCell, Array.getElem?_modify]; done))); done)), Lib.hid (by (repeat (first | (with_reducible exact Below.refl _ _) | (with_reducible refine bel_set (by first | omega | (simp; done) | (simp; omega)) ?_) | (with_reducible refine bel_alloc (by first | omega | (simp; done) | (simp; omega)) ?_) | (with_reducible refine bel_drew ?_) | (with_reducible refine bel_drewN ?_ _))); first | done | fail "left"), Lib.hid (by simp), trivial⟩ ?_
  rintro w1 ⟨A1, A3, BA, SZ, -⟩
  have c_A1 := cell_of_block A1.out
  have f_A1 := frozen_of_block A1.out
  have c_A3 := cell_of_block A3.out
  have f_A3 := frozen_of_block A3.out
  go_wp2_with fail
  refine (racked_any n v c a l ack sack now _ (fls_keep FS BA).out HR.out HN.out s m HS.out).mono ?_
  rintro e w2 ⟨p1, cap1, rfl, O1, B1⟩
  replace A1 := Lib.hid (keepb A1.out B1.out)
  replace c_A1 := cell_of_block A1.out
  replace f_A1 := frozen_of_block A1.out
  replace A3 := Lib.hid (keepb A3.out B1.out)
  replace c_A3 := cell_of_block A3.out
  replace f_A3 := frozen_of_block A3.out
  replace BA := Lib.hid (chain BA.out B1.out)
  have SZ2 := Lib.hid (show w.heap.size + 2 ≤ w2.heap.size by have := B1.out.size; have := SZ.out; omega)
  replace O1 := Lib.hid (show Own 40 7 (w.heap.size + 2) w2 (.slice p1 s.fl.length cap1) s.fl.length (flat Fl.cells s.fl) by rw [← SZ.out]; exact O1.out)
  go_upto_region 2 with fail
  refine gen_wp (fun w3 => Hid (Below w2.heap.size w2 w3) ∧ Hid (w3.heap[w2.heap.size]? = some (.cells #[.int .i64 s.next, .slice p1 s.fl.length cap1, .int .i64 s.cwnd, .int .i64 s.acc] 24)) ∧ Hid (Own 40 7 (w.heap.size + 2) w3 (.slice p1 s.fl.length cap1) s.fl.length (flat Fl.cells s.fl)) ∧ Hid (w3.heap.size = w2.heap.size + 1) ∧ True) ⟨Lib.hid (by (repeat (first | (with_reducible exact Below.refl _ _) | (with_reducible refine bel_set (by first | omega | (simp; done) | (simp; omega)) ?_) | (with_reducible refine bel_alloc (by first | omega | (simp; done) | (simp; omega)) ?_) | (with_reducible refine bel_drew ?_) | (with_reducible refine bel_drewN ?_ _))); first | done | fail "left"), Lib.hid (by first | (simp [World.setCell, Array.getElem?_modify, A1.out, A3.out]; done) | (simp [World.setCell, Array.getElem?_modify, A1.out, A3.out]; omega) | ((repeat (first | (with_reducible exact A1.out) | (with_reducible exact A3.out) | (with_reducible exact heap_new _ _ _ (by first | rfl | (simp; done))) | (with_reducible refine keepa ?_ _) | (simp [World.setCell, Array.getElem?_modify, A1.out, A3.out]; done))); done)), Lib.hid (by (repeat (first | (with_reducible exact O1.out) | (with_reducible refine Own.set ?_ _ _ (by first | omega | (simp; done) | (simp; omega))) | (with_reducible refine Own.alloc ?_ _) | (with_reducible refine Own.drew ?_) | (with_reducible refine Own.drewN ?_ _))); first | done | fail "left"), Lib.hid (by simp), trivial⟩ ?_
  clear c_A1 f_A1 c_A3 f_A3
  rintro w3 ⟨N, A9, O3, SZ3, -⟩
  have c_A9 := cell_of_block A9.out
  have f_A9 := frozen_of_block A9.out
  replace A1 := Lib.hid (keepb A1.out N.out)
  replace c_A1 := cell_of_block A1.out
  replace f_A1 := frozen_of_block A1.out
  replace A3 := Lib.hid (keepb A3.out N.out)
  replace c_A3 := cell_of_block A3.out
  replace f_A3 := frozen_of_block A3.out
  replace BA := Lib.hid (chain BA.out N.out)
  clear N O1 B1
  have OL := Lib.hid (fun b hb => Own.lt O3.out b hb)
  have OG := Lib.hid (fun b hb => Own.block O3.out b hb)
  go_upto_region 3 with fail
  refine gen_wp (fun w4 => Hid (Below w3.heap.size w3 w4) ∧ Hid (w4.heap[w3.heap.size]? = some (.cells #[.int .i64 s.next, .slice p1 s.fl.length cap1, .int .i64 s.cwnd, .int .i64 s.acc, .int .i64 r.s, .int .i64 r.v, .int .i64 r.rto, .int .i64 r.fails, .bool r.has] 28)) ∧ True) ⟨Lib.hid (by (repeat (first | (with_reducible exact Below.refl _ _) | (with_reducible refine bel_set (by first | omega | (simp; done) | (simp; omega)) ?_) | (with_reducible refine bel_alloc (by first | omega | (simp; done) | (simp; omega)) ?_) | (with_reducible refine bel_drew ?_) | (with_reducible refine bel_drewN ?_ _))); first | done | fail "left"), Lib.hid (by first | (simp [World.setCell, Array.getElem?_modify, A1.out, A3.out, A9.out]; done) | (simp [World.setCell, Array.getElem?_modify, A1.out, A3.out, A9.out]; omega) | ((repeat (first | (with_reducible exact A1.out) | (with_reducible exact A3.out) | (with_reducible exact A9.out) | (with_reducible exact heap_new _ _ _ (by first | rfl | (simp; done))) | (with_reducible refine keepa ?_ _) | (simp [World.setCell, Array.getElem?_modify, A1.out, A3.out, A9.out]; done))); done)), trivial⟩ ?_
  clear c_A1 f_A1 c_A3 f_A3 c_A9 f_A9
  rintro w4 ⟨N, A11, -⟩
  have c_A11 := cell_of_block A11.out
  have f_A11 := frozen_of_block A11.out
  replace A1 := Lib.hid (keepb A1.out N.out)
  replace c_A1 := cell_of_block A1.out
  replace f_A1 := frozen_of_block A1.out
  replace A3 := Lib.hid (keepb A3.out N.out)
  replace c_A3 := cell_of_block A3.out
  replace f_A3 := frozen_of_block A3.out
  replace BA := Lib.hid (chain BA.out N.out)
  replace O3 := Lib.hid (O3.out.keep N.out)
  clear N
  have z2 := SZ2.out
  have z3 : w2.heap.size + 1 ≤ w3.heap.size := by have := SZ3.out; omega
  have m1 : w.heap.size ≠ w3.heap.size := by omega
  have m2 : w.heap.size + 1 ≠ w3.heap.size := by omega
  by_cases hm : 0 ≤ m
  · have HQ2 := Lib.hid (show rttSample r m = q by rw [HQ.out, if_pos hm])
    go_wp2_with fail
    refine (qRttSample_at r m _ q HQ2.out).mono ?_; rintro e w5 ⟨rfl, B5⟩
    replace A1 := Lib.hid (keepb A1.out B5.out)
    replace c_A1 := cell_of_block A1.out
    replace f_A1 := frozen_of_block A1.out
    replace A3 := Lib.hid (keepb A3.out B5.out)
    replace c_A3 := cell_of_block A3.out
    replace f_A3 := frozen_of_block A3.out
    replace A11 := Lib.hid (keepb A11.out B5.out)
    replace c_A11 := cell_of_block A11.out
    replace f_A11 := frozen_of_block A11.out
    replace BA := Lib.hid (chain BA.out B5.out)
    replace O3 := Lib.hid (O3.out.keep B5.out)
    go_wp2_with fail
    refine bodyPost_ret (v := .agg #[.int .i64 s.next, .slice p1 s.fl.length cap1, .int .i64 s.cwnd, .int .i64 s.acc, .int .i64 q.s, .int .i64 q.v, .int .i64 q.rto, .int .i64 q.fails, .bool q.has]) (by simp [results, Try.results42, go_sem, c_A3, m1, m2, m1.symm, m2.symm]) rfl ⟨p1, cap1, rfl, Lib.hid ?_, Lib.hid (by have hbsz := Below.size (BA.out); (repeat (first | (with_reducible exact BA.out) | (with_reducible refine bel_set (by first | omega | (simp; done) | (simp; omega)) ?_) | (with_reducible refine bel_alloc (by first | omega | (simp; done) | (simp; omega)) ?_) | (with_reducible refine bel_drew ?_) | (with_reducible refine bel_drewN ?_ _))); first | done | fail "left")⟩
    have hsz3 := SZ3.out
    refine Own.mono (B := w.heap.size + 2) (Own.mod O3.out (S := fun b => b = w3.heap.size ∨ b = w.heap.size ∨ b = w.heap.size + 1) (by (repeat (first | (with_reducible exact Mod.refl _ _) | (with_reducible refine Mod.set ?_ _ _ (by first | exact Or.inl rfl | exact Or.inl (Or.inl rfl) | exact Or.inl (Or.inr rfl) | exact Or.inl (Or.inr (Or.inl rfl)) | exact Or.inl (Or.inr (Or.inr rfl)) | (refine Or.inr ?_; first | omega | (simp; done) | (simp; omega)))) | (with_reducible refine Mod.alloc ?_ _) | (with_reducible refine Mod.drew ?_) | (with_reducible refine Mod.drewN ?_ _))); first | done | fail "left") (fun b hb e => ?_)) (by omega)
    have hb2 := OL.out b hb
    have hb4 := OG.out b hb
    rcases e with e | e | e <;> omega
  · have hq2 : q = r := by rw [HQ.out, if_neg hm]
    subst hq2
    go_wp2_with fail
    refine bodyPost_ret (v := .agg #[.int .i64 s.next, .slice p1 s.fl.length cap1, .int .i64 s.cwnd, .int .i64 s.acc, .int .i64 q.s, .int .i64 q.v, .int .i64 q.rto, .int .i64 q.fails, .bool q.has]) (by simp [results, Try.results42, go_sem, c_A3]) rfl ⟨p1, cap1, rfl, Lib.hid ?_, Lib.hid (by have hbsz := Below.size (BA.out); (repeat (first | (with_reducible exact BA.out) | (with_reducible refine bel_set (by first | omega | (simp; done) | (simp; omega)) ?_) | (with_reducible refine bel_alloc (by first | omega | (simp; done) | (simp; omega)) ?_) | (with_reducible refine bel_drew ?_) | (with_reducible refine bel_drewN ?_ _))); first | done | fail "left")⟩
    exact Own.mono (B := w.heap.size + 2) (by (repeat (first | (with_reducible exact O3.out) | (with_reducible refine Own.set ?_ _ _ (by first | omega | (simp; done) | (simp; omega))) | (with_reducible refine Own.alloc ?_ _) | (with_reducible refine Own.drew ?_) | (with_reducible refine Own.drewN ?_ _))); first | done | fail "left") (by omega)

set_option maxHeartbeats 2000000 in
theorem qcvoid_any (n : Int) (v : Value) (c a : Int) (r : Rt) (l : List Fl) (user : Int) (w : World) (h : Fls w v l) (hl : l.length ≤ 1000) :
    Calls Try.prog 45 #[.agg #[.int .i64 n, v, .int .i64 c, .int .i64 a, .int .i64 r.s, .int .i64 r.v, .int .i64 r.rto, .int .i64 r.fails, .bool r.has], .int .i64 user] w (RetCh w (sdVoid ⟨n, l, c, a⟩ user) r) := by
  have FS := Lib.hid h
  obtain ⟨s, hs⟩ : ∃ s, s = sdVoid ⟨n, l, c, a⟩ user := ⟨_, rfl⟩
  have HC := Lib.hid (fun W (h : Fls W v l) => rvoid_any n v c a l user W h hl)
  rw [← hs] at HC ⊢
  clear h hs
  go_enter Try.func45, Try.ntmps45
  go_upto_region 1 with fail
  refine gen_wp (fun w1 => Hid (w1.heap[w.heap.size]? = some (.cells #[.int .i64 n, v, .int .i64 c, .int .i64 a, .int .i64 r.s, .int .i64 r.v, .int .i64 r.rto, .int .i64 r.fails, .bool r.has] 28)) ∧ Hid (w1.heap[(w.heap.size + 1)]? = some (.cells #[.int .i64 0, .slice none 0 0, .int .i64 0, .int .i64 0, .int .i64 0, .int .i64 0, .int .i64 0, .int .i64 0, .bool false] 28)) ∧ Hid (Below w.heap.size w w1) ∧ Hid (w1.heap.size = w.heap.size + 2) ∧ True) ⟨Lib.hid (by first | (simp [World.setCell, Array.getElem?_modify]; done) | (simp [World.setCell, Array.getElem?_modify]; omega) | ((repeat (first | (with_reducible exact heap_new _ _ _ (by first | rfl | (simp; done))) | (with_reducible refine keepa ?_ _) | (simp [World.setCell, Array.getElem?_modify]; done))); done)), Lib.hid (by first | (simp [World.setCell, Array.getElem?_modify]; done) | (simp [World.setCell, Array.getElem?_modify]; omega) | ((repeat (first | (with_reducible exact heap_new _ _ _ (by first | rfl | (simp; done))) | (with_reducible refine keepa ?_ _) | (simp [World.setCell, Array.getElem?_modify]; done))); done)), Lib.hid (by (repeat (first | (with_reducible exact Below.refl _ _) | (with_reducible refine bel_set (by first | omega | (simp; done) | (simp; omega)) ?_) | (with_reducible refine bel_alloc (by first | omega | (simp; done) | (simp; omega)) ?_) | (with_reducible refine bel_drew ?_) | (with_reducible refine bel_drewN ?_ _))); first | done | fail "left"), Lib.hid (by simp), trivial⟩ ?_
  rintro w1 ⟨A1, A3, BA, SZ, -⟩
  have c_A1 := cell_of_block A1.out
  have f_A1 := frozen_of_block A1.out
  have c_A3 := cell_of_block A3.out
  have f_A3 := frozen_of_block A3.out
  replace FS := fls_keep FS BA
  have hz := SZ.out
  have HZ : Hid (w1.heap.size = w.heap.size + 2) := SZ
  have FSd := Lib.hid (show Fls w1.drew v l from FS.out)
  clear hz
  go_region_held3 (fun w' => w'.cell? ⟨w.heap.size, 0, none⟩ = some (.int .i64 n) ∧ w'.cell? ⟨w.heap.size, 1, none⟩ = some v ∧ w'.cell? ⟨w.heap.size, 2, none⟩ = some (.int .i64 c) ∧ w'.cell? ⟨w.heap.size, 3, none⟩ = some (.int .i64 a) ∧ w'.cell? ⟨w.heap.size, 4, none⟩ = some (.int .i64 r.s) ∧ w'.cell? ⟨w.heap.size, 5, none⟩ = some (.int .i64 r.v) ∧ w'.cell? ⟨w.heap.size, 6, none⟩ = some (.int .i64 r.rto) ∧ w'.cell? ⟨w.heap.size, 7, none⟩ = some (.int .i64 r.fails) ∧ w'.cell? ⟨w.heap.size, 8, none⟩ = some (.bool r.has)) (go_keep)
    ((first
      | (go_at_call 66; refine (HC.out _ FSd.out).mono ?_; rintro e w2 ⟨p1, cap1, rfl, O1, B1⟩; have A1e := Lib.hid (keepb (w := w1.drew) A1.out B1.out); have A3e := Lib.hid (keepb (w := w1.drew) A3.out B1.out); have BAe := Lib.hid (chain (w := w1.drew) BA.out.drew B1.out); have c_A1e := cell_of_block A1e.out; have c_A3e := cell_of_block A3e.out; have f_A3e := frozen_of_block A3e.out)
      | fail))
  go_wp2_with fail
  refine bodyPost_ret (v := .agg #[.int .i64 s.next, .slice p1 s.fl.length cap1, .int .i64 s.cwnd, .int .i64 s.acc, .int .i64 r.s, .int .i64 r.v, .int .i64 r.rto, .int .i64 r.fails, .bool r.has]) (by simp [results, Try.results45, go_sem, c_A3e]) rfl ⟨p1, cap1, rfl, Lib.hid ?_, Lib.hid (by have hbsz := Below.size (BAe.out); (repeat (first | (with_reducible exact BAe.out) | (with_reducible refine bel_set (by first | omega | (simp; done) | (simp; omega)) ?_) | (with_reducible refine bel_alloc (by first | omega | (simp; done) | (simp; omega)) ?_) | (with_reducible refine bel_drew ?_) | (with_reducible refine bel_drewN ?_ _))); first | done | fail "left")⟩
  have hO : Own 40 7 (w.heap.size + 2) w2 (.slice p1 s.fl.length cap1) s.fl.length (flat Fl.cells s.fl) := by have := O1.out; rw [show w1.drew.heap.size = w.heap.size + 2 from HZ.out] at this; exact this
  exact Own.mono (B := w.heap.size + 2) (by (repeat (first | (with_reducible exact hO) | (with_reducible refine Own.set ?_ _ _ (by first | omega | (simp; done) | (simp; omega))) | (with_reducible refine Own.alloc ?_ _) | (with_reducible refine Own.drew ?_) | (with_reducible refine Own.drewN ?_ _))); first | done | fail "left") (by omega)
end Go.Proofs.Yteilgibfmljoeaa.K

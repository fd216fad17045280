/-
  CONTRACTS of those functions of rtt, channel and the answers 09, 12 that package session reaches (each as in its own chapter).
-/
import Derived.Test.YtlmkkfigmoefdaaSesBaseR
set_option linter.unusedVariables false
set_option linter.unusedSimpArgs false
namespace Nj
open Go Go.RowKit

/-- an Rtt as the program holds it -/
def Rt.val (e : Rt) : Value := .agg #[.int .i64 e.s, .int .i64 e.v, .int .i64 e.rto, .int .i64 e.fails, .bool e.has]


end Nj
namespace Go.Proofs.Ytlmkkfigmoefdaa.K
open Go Go.RowKit Nj

theorem within_any (n lo hi : Int) (w : World) :
    Calls Try.prog 72 #[.int .i64 n, .int .i64 lo, .int .i64 hi] w fun e w' => e = .returned (.bool (within n lo hi)) ∧ w = w' := by
  go_enter Try.func72, Try.ntmps72
  go_wp2
  all_goals go_ret
  · exact ⟨ret_bool (by unfold within; simp [*]), rfl⟩
  · exact ⟨ret_bool (by unfold within; simp; omega), rfl⟩

theorem rttRight_any (s v rto fails : Int) (has : Bool) (w : World) :
    Calls Try.prog 60 #[.agg #[.int .i64 s, .int .i64 v, .int .i64 rto, .int .i64 fails, .bool has]] w fun e w' => e = .returned (.bool (rttRight ⟨s, v, rto, fails, has⟩)) ∧ Below w.heap.size w w' := by
  go_enter Try.func60, Try.ntmps60
  go_wp2_with (go_at_call 72; refine (within_any _ _ _ _).mono ?_; rintro e w' ⟨rfl, rfl⟩)
  all_goals go_ret
  all_goals exact ⟨ret_bool (by simp_all [rttRight, rttKnown]), (Below.refl _ _).alloc (Nat.le_refl _) _⟩


theorem rrttRight_any (s v rto fails : Int) (has : Bool) (w : World) :
    Calls Try.prog 62 #[.agg #[.int .i64 s, .int .i64 v, .int .i64 rto, .int .i64 fails, .bool has]] w fun e w' => e = .returned (.bool (rttRight ⟨s, v, rto, fails, has⟩)) ∧ Below w.heap.size w w' := by
  go_enter Try.func62, Try.ntmps62
  go_wp2
  all_goals go_ret
  all_goals refine ⟨ret_bool ?_, (Below.refl _ _).alloc (Nat.le_refl _) _⟩
  all_goals (rw [Bool.eq_iff_iff]; simp_all [rttRight, rttKnown, within])
  all_goals omega

theorem rrttStart_any (w : World) :
    Calls Try.prog 70 #[] w fun e w' => e = .returned rttStart.val ∧ Below w.heap.size w w' := by
  go_enter Try.func70, Try.ntmps70
  go_wp2
  exact bodyPost_ret (v := rttStart.val) (by simp [results, Try.results70, go_sem, Rt.val, rttStart]) rfl ⟨rfl, (Below.refl _ _).alloc (Nat.le_refl _) _⟩


theorem rttRight_at (r : Rt) (w : World) : Calls Try.prog 60 #[.agg #[.int .i64 r.s, .int .i64 r.v, .int .i64 r.rto, .int .i64 r.fails, .bool r.has]] w fun e w' => e = .returned (.bool (rttRight r)) ∧ Hid (Below w.heap.size w w') :=
  (rttRight_any r.s r.v r.rto r.fails r.has w).mono fun _ _ h => ⟨h.1, Lib.hid h.2⟩

theorem cright_any (n : Int) (v : Value) (c a : Int) (r : Rt) (l : List Fl) (w : World) (h : Fls w v l) (hn : n ≤ 9223372036854775807) :
    Calls Try.prog 37 #[.agg #[.int .i64 n, v, .int .i64 c, .int .i64 a, .int .i64 r.s, .int .i64 r.v, .int .i64 r.rto, .int .i64 r.fails, .bool r.has]] w fun e w' => e = .returned (.bool (chRight ⟨⟨n, l, c, a⟩, r⟩)) ∧ Hid (Below w.heap.size w w') := by
  have FS := Lib.hid h
  clear h
  obtain ⟨b1, hb1⟩ : ∃ b, b = sdRight ⟨n, l, c, a⟩ := ⟨_, rfl⟩
  obtain ⟨b2, hb2⟩ : ∃ b, b = rttRight r := ⟨_, rfl⟩
  have HC := Lib.hid (fun W (hW : Fls W v l) => sright_any n v c a l W hW hn)
  have HR := Lib.hid (fun W => rttRight_at r W)
  rw [← hb1] at HC
  rw [← hb2] at HR
  have HE := Lib.hid (show chRight ⟨⟨n, l, c, a⟩, r⟩ = (b1 && b2) by rw [hb1, hb2]; rfl)
  clear hb1 hb2
  go_enter Try.func37, Try.ntmps37
  go_upto_region 1 with fail
  refine gen_wp (fun w1 => Hid (w1.heap[w.heap.size]? = some (.cells #[.int .i64 n, v, .int .i64 c, .int .i64 a, .int .i64 r.s, .int .i64 r.v, .int .i64 r.rto, .int .i64 r.fails, .bool r.has] 36)) ∧ Hid (Below w.heap.size w w1) ∧ True) ⟨Lib.hid (by first | (simp [World.setCell, Array.getElem?_modify]; done) | (simp [World.setCell, Array.getElem?_modify]; omega) | ((repeat (first | (with_reducible exact heap_new _ _ _ (by first | rfl | (simp; done))) | (with_reducible refine keepa ?_ _) | (simp [World.setCell, Array.getElem?_modify]; done))); done)), Lib.hid (by (repeat (first | (with_reducible exact Below.refl _ _) | (with_reducible refine bel_set (by first | omega | (simp; done) | (simp; omega)) ?_) | (with_reducible refine bel_alloc (by first | omega | (simp; done) | (simp; omega)) ?_) | (with_reducible refine bel_drew ?_) | (with_reducible refine bel_drewN ?_ _))); first | done | fail "left"), trivial⟩ ?_
  rintro w1 ⟨A1, BA, -⟩
  have c_A1 := cell_of_block A1.out
  have f_A1 := frozen_of_block A1.out
  go_wp2_with fail
  refine (HC.out _ (fls_keep FS BA).out).mono ?_; rintro e w2 ⟨rfl, B2⟩
  replace A1 := Lib.hid (keepb A1.out B2.out)
  replace c_A1 := cell_of_block A1.out
  replace f_A1 := frozen_of_block A1.out
  replace BA := Lib.hid (chain BA.out B2.out)
  cases b1 with
  | false =>
    go_wp2_with fail
    go_ret
    exact ⟨by rw [HE.out]; rfl, BA⟩
  | true =>
    go_wp2_with fail
    refine (HR.out _).mono ?_; rintro e w3 ⟨rfl, B3⟩
    replace BA := Lib.hid (chain BA.out B3.out)
    go_wp2_with fail
    go_ret
    exact ⟨by rw [HE.out]; rfl, BA⟩

theorem csame_any (n : Int) (v : Value) (c a : Int) (r : Rt) (l : List Fl) (n' : Int) (v' : Value) (c' a' : Int) (r' : Rt) (l' : List Fl) (w : World) (h : Fls w v l) (h' : Fls w v' l') :
    Calls Try.prog 53 #[.agg #[.int .i64 n, v, .int .i64 c, .int .i64 a, .int .i64 r.s, .int .i64 r.v, .int .i64 r.rto, .int .i64 r.fails, .bool r.has], .agg #[.int .i64 n', v', .int .i64 c', .int .i64 a', .int .i64 r'.s, .int .i64 r'.v, .int .i64 r'.rto, .int .i64 r'.fails, .bool r'.has]] w fun e w' => e = .returned (.bool (decide (Ch.mk ⟨n, l, c, a⟩ r = Ch.mk ⟨n', l', c', a'⟩ r'))) ∧ Hid (Below w.heap.size w w') := by
  have FS := Lib.hid h
  have FS' := Lib.hid h'
  clear h h'
  by_cases hr : r = r'
  · subst hr
    have HE := Lib.hid (show decide (Ch.mk ⟨n, l, c, a⟩ r = Ch.mk ⟨n', l', c', a'⟩ r) = decide (Sd.mk n l c a = Sd.mk n' l' c' a') by simp only [Ch.mk.injEq, and_true])
    obtain ⟨b, hb⟩ : ∃ b, b = decide (Sd.mk n l c a = Sd.mk n' l' c' a') := ⟨_, rfl⟩
    have HSm := Lib.hid (fun W (h : Fls W v l) (h' : Fls W v' l') => ssame_any n v c a l n' v' c' a' l' W h h')
    rw [← hb] at HSm HE
    clear hb
    go_enter Try.func53, Try.ntmps53
    go_upto_region 1 with fail
    refine gen_wp (fun w1 => Hid (w1.heap[w.heap.size]? = some (.cells #[.int .i64 n, v, .int .i64 c, .int .i64 a, .int .i64 r.s, .int .i64 r.v, .int .i64 r.rto, .int .i64 r.fails, .bool r.has] 36)) ∧ Hid (w1.heap[(w.heap.size + 1)]? = some (.cells #[.int .i64 n', v', .int .i64 c', .int .i64 a', .int .i64 r.s, .int .i64 r.v, .int .i64 r.rto, .int .i64 r.fails, .bool r.has] 36)) ∧ Hid (Below w.heap.size w w1) ∧ True) ⟨Lib.hid (by first | (simp [World.setCell, Array.getElem?_modify]; done) | (simp [World.setCell, Array.getElem?_modify]; omega) | ((repeat (first | (with_reducible exact heap_new _ _ _ (by first | rfl | (simp; done))) | (with_reducible refine keepa ?_ _) | (simp [World.setCell, Array.getElem?_modify]; done))); done)), Lib.hid (by first | (simp [World.setCell, Array.getElem?_modify]; done) | (simp [World.setCell, Array.getElem?_modify]; omega) | ((repeat (first | (with_reducible exact heap_new _ _ _ (by first | rfl | (simp; done))) | (with_reducible refine keepa ?_ _) | (simp [World.setCell, Array.getElem?_modify]; done))); done)), Lib.hid (by (repeat (first | (with_reducible exact Below.refl _ _) | (with_reducible refine bel_set (by first | omega | (simp; done) | (simp; omega)) ?_) | (with_reducible refine bel_alloc (by first | omega | (simp; done) | (simp; omega)) ?_) | (with_reducible refine bel_drew ?_) | (with_reducible refine bel_drewN ?_ _))); first | done | fail "left"), trivial⟩ ?_
    rintro w1 ⟨A1, A2, BA, -⟩
    have c_A1 := cell_of_block A1.out
    have f_A1 := frozen_of_block A1.out
    have c_A2 := cell_of_block A2.out
    have f_A2 := frozen_of_block A2.out
    go_wp2_with fail
    refine (HSm.out _ (fls_keep FS BA).out (fls_keep FS' BA).out).mono ?_; rintro e w2 ⟨rfl, B2⟩
    replace BA := Lib.hid (chain BA.out B2.out)
    go_wp2_with fail
    go_ret
    exact ⟨ret_bool (by rw [HE.out]), BA⟩
  · have HE := Lib.hid (show decide (Ch.mk ⟨n, l, c, a⟩ r = Ch.mk ⟨n', l', c', a'⟩ r') = false by simp [hr])
    have HN := Lib.hid (show ¬ (((((r.s = r'.s) ∧ r.v = r'.v) ∧ r.rto = r'.rto) ∧ r.fails = r'.fails) ∧ r.has = r'.has) from fun ⟨⟨⟨⟨h1, h2⟩, h3⟩, h4⟩, h5⟩ => hr (by cases r; cases r'; simp_all))
    clear hr
    go_enter Try.func53, Try.ntmps53
    go_upto_region 1 with fail
    refine gen_wp (fun w1 => Hid (w1.heap[w.heap.size]? = some (.cells #[.int .i64 n, v, .int .i64 c, .int .i64 a, .int .i64 r.s, .int .i64 r.v, .int .i64 r.rto, .int .i64 r.fails, .bool r.has] 36)) ∧ Hid (w1.heap[(w.heap.size + 1)]? = some (.cells #[.int .i64 n', v', .int .i64 c', .int .i64 a', .int .i64 r'.s, .int .i64 r'.v, .int .i64 r'.rto, .int .i64 r'.fails, .bool r'.has] 36)) ∧ Hid (Below w.heap.size w w1) ∧ True) ⟨Lib.hid (by first | (simp [World.setCell, Array.getElem?_modify]; done) | (simp [World.setCell, Array.getElem?_modify]; omega) | ((repeat (first | (with_reducible exact heap_new _ _ _ (by first | rfl | (simp; done))) | (with_reducible refine keepa ?_ _) | (simp [World.setCell, Array.getElem?_modify]; done))); done)), Lib.hid (by first | (simp [World.setCell, Array.getElem?_modify]; done) | (simp [World.setCell, Array.getElem?_modify]; omega) | ((repeat (first | (with_reducible exact heap_new _ _ _ (by first | rfl | (simp; done))) | (with_reducible refine keepa ?_ _) | (simp [World.setCell, Array.getElem?_modify]; done))); done)), Lib.hid (by (repeat (first | (with_reducible exact Below.refl _ _) | (with_reducible refine bel_set (by first | omega | (simp; done) | (simp; omega)) ?_) | (with_reducible refine bel_alloc (by first | omega | (simp; done) | (simp; omega)) ?_) | (with_reducible refine bel_drew ?_) | (with_reducible refine bel_drewN ?_ _))); first | done | fail "left"), trivial⟩ ?_
    rintro w1 ⟨A1, A2, BA, -⟩
    have c_A1 := cell_of_block A1.out
    have f_A1 := frozen_of_block A1.out
    have c_A2 := cell_of_block A2.out
    have f_A2 := frozen_of_block A2.out
    go_wp2_with fail
    all_goals first
      | (exfalso; exact HN.out ⟨⟨⟨⟨by assumption, by assumption⟩, by assumption⟩, by assumption⟩, by assumption⟩)
      | (go_ret; exact ⟨ret_bool HE.out.symm, BA⟩)


theorem qRttRight_at (r : Rt) (w : World) : Calls Try.prog 62 #[.agg #[.int .i64 r.s, .int .i64 r.v, .int .i64 r.rto, .int .i64 r.fails, .bool r.has]] w fun e w' => e = .returned (.bool (rttRight r)) ∧ Hid (Below w.heap.size w w') :=
  (rrttRight_any r.s r.v r.rto r.fails r.has w).mono fun _ _ h => ⟨h.1, Lib.hid h.2⟩

theorem qcright_any (n : Int) (v : Value) (c a : Int) (r : Rt) (l : List Fl) (w : World) (h : Fls w v l) (hn : n ≤ 9223372036854775807) :
    Calls Try.prog 39 #[.agg #[.int .i64 n, v, .int .i64 c, .int .i64 a, .int .i64 r.s, .int .i64 r.v, .int .i64 r.rto, .int .i64 r.fails, .bool r.has]] w fun e w' => e = .returned (.bool (chRight ⟨⟨n, l, c, a⟩, r⟩)) ∧ Hid (Below w.heap.size w w') := by
  have FS := Lib.hid h
  clear h
  obtain ⟨b1, hb1⟩ : ∃ b, b = sdRight ⟨n, l, c, a⟩ := ⟨_, rfl⟩
  obtain ⟨b2, hb2⟩ : ∃ b, b = rttRight r := ⟨_, rfl⟩
  have HC := Lib.hid (fun W (hW : Fls W v l) => rright_any n v c a l W hW hn)
  have HR := Lib.hid (fun W => qRttRight_at r W)
  rw [← hb1] at HC
  rw [← hb2] at HR
  have HE := Lib.hid (show chRight ⟨⟨n, l, c, a⟩, r⟩ = (b1 && b2) by rw [hb1, hb2]; rfl)
  clear hb1 hb2
  go_enter Try.func39, Try.ntmps39
  go_upto_region 1 with fail
  refine gen_wp (fun w1 => Hid (w1.heap[w.heap.size]? = some (.cells #[.int .i64 n, v, .int .i64 c, .int .i64 a, .int .i64 r.s, .int .i64 r.v, .int .i64 r.rto, .int .i64 r.fails, .bool r.has] 36)) ∧ Hid (Below w.heap.size w w1) ∧ True) ⟨Lib.hid (by first | (simp [World.setCell, Array.getElem?_modify]; done) | (simp [World.setCell, Array.getElem?_modify]; omega) | ((repeat (first | (with_reducible exact heap_new _ _ _ (by first | rfl | (simp; done))) | (with_reducible refine keepa ?_ _) | (simp [World.setCell, Array.getElem?_modify]; done))); done)), Lib.hid (by (repeat (first | (with_reducible exact Below.refl _ _) | (with_reducible refine bel_set (by first | omega | (simp; done) | (simp; omega)) ?_) | (with_reducible refine bel_alloc (by first | omega | (simp; done) | (simp; omega)) ?_) | (with_reducible refine bel_drew ?_) | (with_reducible refine bel_drewN ?_ _))); first | done | fail "left"), trivial⟩ ?_
  rintro w1 ⟨A1, BA, -⟩
  have c_A1 := cell_of_block A1.out
  have f_A1 := frozen_of_block A1.out
  go_wp2_with fail
  refine (HC.out _ (fls_keep FS BA).out).mono ?_; rintro e w2 ⟨rfl, B2⟩
  replace A1 := Lib.hid (keepb A1.out B2.out)
  replace c_A1 := cell_of_block A1.out
  replace f_A1 := frozen_of_block A1.out
  replace BA := Lib.hid (chain BA.out B2.out)
  go_wp2_with fail
  refine (HR.out _).mono ?_; rintro e w3 ⟨rfl, B3⟩
  replace BA := Lib.hid (chain BA.out B3.out)
  cases b1
  all_goals
    go_wp2_with fail
    go_ret
    exact ⟨by rw [HE.out]; rfl, BA⟩

theorem qcsame_any (n : Int) (v : Value) (c a : Int) (r : Rt) (l : List Fl) (n' : Int) (v' : Value) (c' a' : Int) (r' : Rt) (l' : List Fl) (w : World) (h : Fls w v l) (h' : Fls w v' l') :
    Calls Try.prog 44 #[.agg #[.int .i64 n, v, .int .i64 c, .int .i64 a, .int .i64 r.s, .int .i64 r.v, .int .i64 r.rto, .int .i64 r.fails, .bool r.has], .agg #[.int .i64 n', v', .int .i64 c', .int .i64 a', .int .i64 r'.s, .int .i64 r'.v, .int .i64 r'.rto, .int .i64 r'.fails, .bool r'.has]] w fun e w' => e = .returned (.bool (decide (Ch.mk ⟨n, l, c, a⟩ r = Ch.mk ⟨n', l', c', a'⟩ r'))) ∧ Hid (Below w.heap.size w w') := by
  have FS := Lib.hid h
  have FS' := Lib.hid h'
  clear h h'
  obtain ⟨b, hb⟩ : ∃ b, b = decide (Sd.mk n l c a = Sd.mk n' l' c' a') := ⟨_, rfl⟩
  have HSm := Lib.hid (fun W (h : Fls W v l) (h' : Fls W v' l') => rsame_any n v c a l n' v' c' a' l' W h h')
  rw [← hb] at HSm
  have HE := Lib.hid (show decide (Ch.mk ⟨n, l, c, a⟩ r = Ch.mk ⟨n', l', c', a'⟩ r') = (b && decide (r = r')) by rw [hb]; simp only [Ch.mk.injEq, Bool.decide_and])
  clear hb
  by_cases hr : r = r'
  · subst hr
    go_enter Try.func44, Try.ntmps44
    go_upto_region 1 with fail
    refine gen_wp (fun w1 => Hid (w1.heap[w.heap.size]? = some (.cells #[.int .i64 n, v, .int .i64 c, .int .i64 a, .int .i64 r.s, .int .i64 r.v, .int .i64 r.rto, .int .i64 r.fails, .bool r.has] 36)) ∧ Hid (w1.heap[(w.heap.size + 1)]? = some (.cells #[.int .i64 n', v', .int .i64 c', .int .i64 a', .int .i64 r.s, .int .i64 r.v, .int .i64 r.rto, .int .i64 r.fails, .bool r.has] 36)) ∧ Hid (Below w.heap.size w w1) ∧ True) ⟨Lib.hid (by first | (simp [World.setCell, Array.getElem?_modify]; done) | (simp [World.setCell, Array.getElem?_modify]; omega) | ((repeat (first | (with_reducible exact heap_new _ _ _ (by first | rfl | (simp; done))) | (with_reducible refine keepa ?_ _) | (simp [World.setCell, Array.getElem?_modify]; done))); done)), Lib.hid (by first | (simp [World.setCell, Array.getElem?_modify]; done) | (simp [World.setCell, Array.getElem?_modify]; omega) | ((repeat (first | (with_reducible exact heap_new _ _ _ (by first | rfl | (simp; done))) | (with_reducible refine keepa ?_ _) | (simp [World.setCell, Array.getElem?_modify]; done))); done)), Lib.hid (by (repeat (first | (with_reducible exact Below.refl _ _) | (with_reducible refine bel_set (by first | omega | (simp; done) | (simp; omega)) ?_) | (with_reducible refine bel_alloc (by first | omega | (simp; done) | (simp; omega)) ?_) | (with_reducible refine bel_drew ?_) | (with_reducible refine bel_drewN ?_ _))); first | done | fail "left"), trivial⟩ ?_
    rintro w1 ⟨A1, A2, BA, -⟩
    have c_A1 := cell_of_block A1.out
    have f_A1 := frozen_of_block A1.out
    have c_A2 := cell_of_block A2.out
    have f_A2 := frozen_of_block A2.out
    go_wp2_with fail
    refine (HSm.out _ (fls_keep FS BA).out (fls_keep FS' BA).out).mono ?_; rintro e w2 ⟨rfl, B2⟩
    replace A1 := Lib.hid (keepb A1.out B2.out)
    replace c_A1 := cell_of_block A1.out
    replace f_A1 := frozen_of_block A1.out
    replace A2 := Lib.hid (keepb A2.out B2.out)
    replace c_A2 := cell_of_block A2.out
    replace f_A2 := frozen_of_block A2.out
    replace BA := Lib.hid (chain BA.out B2.out)
    cases b
    all_goals
      go_wp2_with fail
      go_ret
      exact ⟨ret_bool (by rw [HE.out]; simp), BA⟩
  · have HN := Lib.hid (show ¬ (((((r.s = r'.s) ∧ r.v = r'.v) ∧ r.rto = r'.rto) ∧ r.fails = r'.fails) ∧ r.has = r'.has) from fun ⟨⟨⟨⟨h1, h2⟩, h3⟩, h4⟩, h5⟩ => hr (by cases r; cases r'; simp_all))
    have HE2 := Lib.hid (show decide (Ch.mk ⟨n, l, c, a⟩ r = Ch.mk ⟨n', l', c', a'⟩ r') = false by rw [HE.out, decide_eq_false hr, Bool.and_false])
    clear hr
    go_enter Try.func44, Try.ntmps44
    go_upto_region 1 with fail
    refine gen_wp (fun w1 => Hid (w1.heap[w.heap.size]? = some (.cells #[.int .i64 n, v, .int .i64 c, .int .i64 a, .int .i64 r.s, .int .i64 r.v, .int .i64 r.rto, .int .i64 r.fails, .bool r.has] 36)) ∧ Hid (w1.heap[(w.heap.size + 1)]? = some (.cells #[.int .i64 n', v', .int .i64 c', .int .i64 a', .int .i64 r'.s, .int .i64 r'.v, .int .i64 r'.rto, .int .i64 r'.fails, .bool r'.has] 36)) ∧ Hid (Below w.heap.size w w1) ∧ True) ⟨Lib.hid (by first | (simp [World.setCell, Array.getElem?_modify]; done) | (simp [World.setCell, Array.getElem?_modify]; omega) | ((repeat (first | (with_reducible exact heap_new _ _ _ (by first | rfl | (simp; done))) | (with_reducible refine keepa ?_ _) | (simp [World.setCell, Array.getElem?_modify]; done))); done)), Lib.hid (by first | (simp [World.setCell, Array.getElem?_modify]; done) | (simp [World.setCell, Array.getElem?_modify]; omega) | ((repeat (first | (with_reducible exact heap_new _ _ _ (by first | rfl | (simp; done))) | (with_reducible refine keepa ?_ _) | (simp [World.setCell, Array.getElem?_modify]; done))); done)), Lib.hid (by (repeat (first | (with_reducible exact Below.refl _ _) | (with_reducible refine bel_set (by first | omega | (simp; done) | (simp; omega)) ?_) | (with_reducible refine bel_alloc (by first | omega | (simp; done) | (simp; omega)) ?_) | (with_reducible refine bel_drew ?_) | (with_reducible refine bel_drewN ?_ _))); first | done | fail "left"), trivial⟩ ?_
    rintro w1 ⟨A1, A2, BA, -⟩
    have c_A1 := cell_of_block A1.out
    have f_A1 := frozen_of_block A1.out
    have c_A2 := cell_of_block A2.out
    have f_A2 := frozen_of_block A2.out
    go_wp2_with fail
    refine (HSm.out _ (fls_keep FS BA).out (fls_keep FS' BA).out).mono ?_; rintro e w2 ⟨rfl, B2⟩
    replace A1 := Lib.hid (keepb A1.out B2.out)
    replace c_A1 := cell_of_block A1.out
    replace f_A1 := frozen_of_block A1.out
    replace A2 := Lib.hid (keepb A2.out B2.out)
    replace c_A2 := cell_of_block A2.out
    replace f_A2 := frozen_of_block A2.out
    replace BA := Lib.hid (chain BA.out B2.out)
    cases b
    all_goals
      go_wp2_with fail
      all_goals first
        | (exfalso; exact HN.out ⟨⟨⟨⟨by assumption, by assumption⟩, by assumption⟩, by assumption⟩, by assumption⟩)
        | (go_ret; exact ⟨ret_bool HE2.out.symm, BA⟩)


end Go.Proofs.Ytlmkkfigmoefdaa.K

/-
  CONTRACTS of nightjarref11: Same, Right.
-/
import Derived.Test.YteilgibfmljoeaaSendRef2
set_option linter.unusedVariables false
set_option linter.unusedSimpArgs false
namespace Go.Proofs.Yteilgibfmljoeaa.K
open Go Go.RowKit Nj

set_option maxHeartbeats 2000000 in
theorem rsame_any (n : Int) (v : Value) (c a : Int) (l : List Fl) (n' : Int) (v' : Value) (c' a' : Int) (m : List Fl) (w : World) (h : Fls w v l) (h' : Fls w v' m) :
    Calls Try.prog 40 #[.agg #[.int .i64 n, v, .int .i64 c, .int .i64 a], .agg #[.int .i64 n', v', .int .i64 c', .int .i64 a']] w fun e w' => e = .returned (.bool (decide (Sd.mk n l c a = Sd.mk n' m c' a'))) ∧ Hid (Below w.heap.size w w') := by
  have HS := Lib.hid h
  have HS' := Lib.hid h'
  have hm : l.length ≤ 9223372036854775807 := h.1
  have hm' : m.length ≤ 9223372036854775807 := h'.1
  obtain ⟨p, cap, rfl, hcap⟩ := fls_shape h
  obtain ⟨p', cap', rfl, hcap'⟩ := fls_shape h'
  clear h h'
  by_cases hh : n = n' ∧ c = c' ∧ a = a' ∧ l.length = m.length
  · obtain ⟨rfl, rfl, rfl, hlen⟩ := hh
    obtain ⟨nl, hn⟩ : ∃ n, n = l.length := ⟨_, rfl⟩
    have hn' : nl = m.length := by omega
    rw [← hn] at hm hcap
    rw [← hn'] at hm' hcap'
    have HN := Lib.hid hn
    have HN' := Lib.hid hn'
    rw [← hn, ← hn']
    rw [← hn] at HS
    rw [← hn'] at HS'
    have HE := Lib.hid (show decide (Sd.mk n l c a = Sd.mk n m c a) = decide (l = m) by simp)
    clear hlen hn hn' hm'
    go_enter Try.func40, Try.ntmps40
    go_upto_region 1 with fail
    refine gen_wp (fun w1 => Hid (w1.heap[w.heap.size]? = some (.cells #[.int .i64 n, .slice p nl cap, .int .i64 c, .int .i64 a] 24)) ∧ Hid (w1.heap[(w.heap.size + 1)]? = some (.cells #[.int .i64 n, .slice p' nl cap', .int .i64 c, .int .i64 a] 24)) ∧ Hid (Below w.heap.size w w1) ∧ True) ⟨Lib.hid (by first | (simp [World.setCell, Array.getElem?_modify]; done) | (simp [World.setCell, Array.getElem?_modify]; omega) | ((repeat (first | (with_reducible exact heap_new _ _ _ (by first | rfl | (simp; done))) | (with_reducible refine keepa ?_ _) | (simp [World.setCell, Array.getElem?_modify]; done))); done)), Lib.hid (by first | (simp [World.setCell, Array.getElem?_modify]; done) | (simp [World.setCell, Array.getElem?_modify]; omega) | ((repeat (first | (with_reducible exact heap_new _ _ _ (by first | rfl | (simp; done))) | (with_reducible refine keepa ?_ _) | (simp [World.setCell, Array.getElem?_modify]; done))); done)), Lib.hid (by (repeat (first | (with_reducible exact Below.refl _ _) | (with_reducible refine bel_set (by first | omega | (simp; done) | (simp; omega)) ?_) | (with_reducible refine bel_alloc (by first | omega | (simp; done) | (simp; omega)) ?_) | (with_reducible refine bel_drew ?_) | (with_reducible refine bel_drewN ?_ _))); first | done | fail "left"), trivial⟩ ?_
    rintro w1 ⟨A1, A2, BA, -⟩
    have c_A1 := cell_of_block A1.out
    have f_A1 := frozen_of_block A1.out
    have c_A2 := cell_of_block A2.out
    have f_A2 := frozen_of_block A2.out
    replace HS := fls_keep HS BA
    replace HS' := fls_keep HS' BA
    go_wp2_with fail
    go_loopw [5] (fun i wr => ∃ k : Nat, k ≤ nl ∧ i = .int .i64 k ∧ l.take k = m.take k ∧ Below w1.heap.size w1 wr) (fun i _ => nl - (intOf i).toNat)
    case atStart => exact ⟨0, by omega, rfl, by simp, Below.refl _ _⟩
    case round =>
      obtain ⟨k, hk, rfl, hall, hwb⟩ := hrel
      have HA := Lib.hid hall
      have HW := Lib.hid hwb
      clear hall hwb c_A1 f_A1 c_A2 f_A2
      have A1r := Lib.hid (keepb A1.out HW.out)
      have A2r := Lib.hid (keepb A2.out HW.out)
      have c_A1r := cell_of_block A1r.out
      have f_A1r := frozen_of_block A1r.out
      have c_A2r := cell_of_block A2r.out
      have f_A2r := frozen_of_block A2r.out
      by_cases hlt : k < nl
      · have hltl : k < l.length := by rw [← HN.out]; exact hlt
        have hltm : k < m.length := by rw [← HN'.out]; exact hlt
        obtain ⟨b, o, rfl, _⟩ := HS.out.open (by omega)
        obtain ⟨b', o', rfl, _⟩ := HS'.out.open (by omega)
        obtain ⟨x, hx⟩ : ∃ x, x = l[k] := ⟨_, rfl⟩
        obtain ⟨y, hy⟩ : ∃ y, y = m[k] := ⟨_, rfl⟩
        obtain ⟨c0, c1, c2, c3, c4, c5, c6⟩ := fls_row HS HW.out k hltl x hx
        obtain ⟨d0, d1, d2, d3, d4, d5, d6⟩ := fls_row HS' HW.out k hltm y hy
        have HX := Lib.hid hx
        have HY := Lib.hid hy
        have t1 : (k : Int) < (nl : Int) := by omega
        have t2 : (0 : Int) ≤ (k : Int) := by omega
        clear hx hy
        by_cases hxy : x = y
        · have hne := fun w => neq_fl x y w
          simp only [hxy, decide_true, Bool.not_true] at hne
          have HT := Lib.hid (show l.take (k + 1) = m.take (k + 1) by
            rw [List.take_add_one, List.take_add_one, HA.out, List.getElem?_eq_getElem hltl, List.getElem?_eq_getElem hltm, ← HX.out, ← HY.out, hxy])
          subst hxy
          go_wp2_with fail
          go_quiet (fail)
          go_wp2_with fail
          go_roundw
          case rel => exact ⟨k + 1, by omega, by go_num, HT.out, bel_drewN HW.out _⟩
          case measure => simp [intOf]; omega
        · have hne := fun w => neq_fl x y w
          simp only [hxy, decide_false, Bool.not_false] at hne
          have HF := Lib.hid (show decide (l = m) = false by
            simp only [decide_eq_false_iff_not]
            rintro rfl
            exact hxy (by rw [HX.out, HY.out]))
          clear hxy
          go_wp2_with fail
          go_quiet (fail)
          go_wp2_with fail
          go_ret
          exact ⟨ret_bool (by rw [HE.out, HF.out]), Lib.hid (bel_drewN (chain BA.out HW.out) _)⟩
      · have hke : k = nl := by omega
        subst hke
        have HF := Lib.hid (show decide (l = m) = true by
          have := HA.out
          rw [List.take_of_length_le (by rw [← HN.out]; exact Nat.le_refl _), List.take_of_length_le (by rw [← HN'.out]; exact Nat.le_refl _)] at this
          simpa using this)
        have t1 : decide ((k : Int) < (k : Int)) = false := by simp
        go_wp2_with fail
        go_ret
        exact ⟨ret_bool (by rw [HE.out, HF.out]), Lib.hid (chain BA.out HW.out)⟩
  · have HF := Lib.hid (show decide (Sd.mk n l c a = Sd.mk n' m c' a') = false by
      simp only [decide_eq_false_iff_not, Sd.mk.injEq]
      rintro ⟨h1, h2, h3, h4⟩
      exact hh ⟨h1, h3, h4, by rw [h2]⟩)
    have HH := Lib.hid hh
    clear hh
    go_enter Try.func40, Try.ntmps40
    go_upto_region 1 with fail
    refine gen_wp (fun w1 => Hid (w1.heap[w.heap.size]? = some (.cells #[.int .i64 n, .slice p l.length cap, .int .i64 c, .int .i64 a] 24)) ∧ Hid (w1.heap[(w.heap.size + 1)]? = some (.cells #[.int .i64 n', .slice p' m.length cap', .int .i64 c', .int .i64 a'] 24)) ∧ Hid (Below w.heap.size w w1) ∧ True) ⟨Lib.hid (by first | (simp [World.setCell, Array.getElem?_modify]; done) | (simp [World.setCell, Array.getElem?_modify]; omega) | ((repeat (first | (with_reducible exact heap_new _ _ _ (by first | rfl | (simp; done))) | (with_reducible refine keepa ?_ _) | (simp [World.setCell, Array.getElem?_modify]; done))); done)), Lib.hid (by first | (simp [World.setCell, Array.getElem?_modify]; done) | (simp [World.setCell, Array.getElem?_modify]; omega) | ((repeat (first | (with_reducible exact heap_new _ _ _ (by first | rfl | (simp; done))) | (with_reducible refine keepa ?_ _) | (simp [World.setCell, Array.getElem?_modify]; done))); done)), Lib.hid (by (repeat (first | (with_reducible exact Below.refl _ _) | (with_reducible refine bel_set (by first | omega | (simp; done) | (simp; omega)) ?_) | (with_reducible refine bel_alloc (by first | omega | (simp; done) | (simp; omega)) ?_) | (with_reducible refine bel_drew ?_) | (with_reducible refine bel_drewN ?_ _))); first | done | fail "left"), trivial⟩ ?_
    rintro w1 ⟨A1, A2, BA, -⟩
    have c_A1 := cell_of_block A1.out
    have f_A1 := frozen_of_block A1.out
    have c_A2 := cell_of_block A2.out
    have f_A2 := frozen_of_block A2.out
    go_wp2_with fail
    all_goals first
      | (go_ret; exact ⟨ret_bool HF.out.symm, BA⟩)
      | (exfalso; exact HH.out ⟨by assumption, by assumption, by assumption, (by have h : ((l.length : Int) != (m.length : Int)) = false := (by assumption); have h2 : (l.length : Int) = (m.length : Int) := (by simpa using h); omega)⟩)

/-- each flight fits behind the one ahead of it -/
def prevSeq (l : List Fl) (k : Nat) : Int := if k = 0 then 0 else (l.getD (k - 1) fl0).seq
theorem chain_bad_at {n : Int} : ∀ {l : List Fl} {last : Int} {k : Nat} (hk : k < l.length), flFits l[k] (if k = 0 then last else (l.getD (k - 1) fl0).seq) n = false → flChain n last l = false
  | f :: l, last, 0, hk, h => by
    simp only [List.getElem_cons_zero, if_true] at h
    rw [flChain, h]; rfl
  | f :: l, last, k + 1, hk, h => by
    rw [flChain]
    have ih := chain_bad_at (n := n) (l := l) (last := f.seq) (k := k) (by simpa using hk) (by
      rw [← h]
      simp only [List.getElem_cons_succ]
      by_cases h0 : k = 0
      · subst h0; simp
      · rw [if_neg h0, if_neg (by omega), show k + 1 - 1 = (k - 1) + 1 by omega]; simp)
    rw [ih]; simp
theorem chain_good_all {n : Int} : ∀ {l : List Fl} {last : Int}, (∀ k (hk : k < l.length), flFits l[k] (if k = 0 then last else (l.getD (k - 1) fl0).seq) n = true) → flChain n last l = true
  | [], _, _ => rfl
  | f :: l, last, h => by
    rw [flChain]
    have h0 := h 0 (by simp)
    simp only [List.getElem_cons_zero, if_true] at h0
    rw [h0, chain_good_all (l := l) (last := f.seq) fun k hk => by
      have := h (k + 1) (by simpa using hk)
      simp only [List.getElem_cons_succ] at this
      by_cases h1 : k = 0
      · subst h1; simpa using this
      · rw [if_neg h1]
        rw [if_neg (by omega), show k + 1 - 1 = (k - 1) + 1 by omega] at this
        simpa using this]
    rfl
end Go.Proofs.Yteilgibfmljoeaa.K

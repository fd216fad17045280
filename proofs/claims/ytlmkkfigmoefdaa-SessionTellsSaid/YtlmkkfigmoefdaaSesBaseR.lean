/-
  CONTRACTS of those functions of nightjarref11 that package session reaches (each as in its own chapter).
-/
import Derived.Test.YtlmkkfigmoefdaaSesBase
set_option linter.unusedVariables false
set_option linter.unusedSimpArgs false
namespace Nj
open Go Go.RowKit

end Nj
namespace Go.Proofs.Ytlmkkfigmoefdaa.K
open Go Go.RowKit Nj

theorem append_nil_fl (g c : Nat) (ty : TypeId) (W : World) : (Builtin.append_ #[30, 30] ty #[.slice (some ⟨g, 0, none⟩) 0 0, .slice none 0 c]).run Try.prog W = .ok (.slice (some ⟨g, 0, none⟩) 0 0) W := by
  simp [Builtin.append_, run_underlying Try.underlying30, sizeOf, typeInfo, Builtin.lenOf, Builtin.firstCells, storeCells]
  kernel_rfl


set_option maxHeartbeats 2000000 in
theorem rsame_any (n : Int) (v : Value) (c a : Int) (l : List Fl) (n' : Int) (v' : Value) (c' a' : Int) (m : List Fl) (w : World) (h : Fls w v l) (h' : Fls w v' m) :
    Calls Try.prog 67 #[.agg #[.int .i64 n, v, .int .i64 c, .int .i64 a], .agg #[.int .i64 n', v', .int .i64 c', .int .i64 a']] w fun e w' => e = .returned (.bool (decide (Sd.mk n l c a = Sd.mk n' m c' a'))) ∧ Hid (Below w.heap.size w w') := by
  have HS := Lib.hid h
  have HS' := Lib.hid h'
  have hm : l.length ≤ 9223372036854775807 := h.1
  have hm' : m.length ≤ 9223372036854775807 := h'.1
  obtain ⟨p, cap, rfl, hcap⟩ := fls_shape h
  obtain ⟨p', cap', rfl, hcap'⟩ := fls_shape h'
  clear h h'
  by_cases hh : n = n' ∧ c = c' ∧ a = a' ∧ l.length = m.length
  · obtain ⟨rfl, rfl, rfl, hlen⟩ := hh
    obtain ⟨nl, hn⟩ : ∃ n, n = l.length := ⟨_, rfl⟩
    have hn' : nl = m.length := by omega
    rw [← hn] at hm hcap
    rw [← hn'] at hm' hcap'
    have HN := Lib.hid hn
    have HN' := Lib.hid hn'
    rw [← hn, ← hn']
    rw [← hn] at HS
    rw [← hn'] at HS'
    have HE := Lib.hid (show decide (Sd.mk n l c a = Sd.mk n m c a) = decide (l = m) by simp)
    clear hlen hn hn' hm'
    go_enter Try.func67, Try.ntmps67
    go_upto_region 1 with fail
    refine gen_wp (fun w1 => Hid (w1.heap[w.heap.size]? = some (.cells #[.int .i64 n, .slice p nl cap, .int .i64 c, .int .i64 a] 32)) ∧ Hid (w1.heap[(w.heap.size + 1)]? = some (.cells #[.int .i64 n, .slice p' nl cap', .int .i64 c, .int .i64 a] 32)) ∧ Hid (Below w.heap.size w w1) ∧ True) ⟨Lib.hid (by first | (simp [World.setCell, Array.getElem?_modify]; done) | (simp [World.setCell, Array.getElem?_modify]; omega) | ((repeat (first | (with_reducible exact heap_new _ _ _ (by first | rfl | (simp; done))) | (with_reducible refine keepa ?_ _) | (simp [World.setCell, Array.getElem?_modify]; done))); done)), Lib.hid (by first | (simp [World.setCell, Array.getElem?_modify]; done) | (simp [World.setCell, Array.getElem?_modify]; omega) | ((repeat (first | (with_reducible exact heap_new _ _ _ (by first | rfl | (simp; done))) | (with_reducible refine keepa ?_ _) | (simp [World.setCell, Array.getElem?_modify]; done))); done)), Lib.hid (by (repeat (first | (with_reducible exact Below.refl _ _) | (with_reducible refine bel_set (by first | omega | (simp; done) | (simp; omega)) ?_) | (with_reducible refine bel_alloc (by first | omega | (simp; done) | (simp; omega)) ?_) | (with_reducible refine bel_drew ?_) | (with_reducible refine bel_drewN ?_ _))); first | done | fail "left"), trivial⟩ ?_
    rintro w1 ⟨A1, A2, BA, -⟩
    have c_A1 := cell_of_block A1.out
    have f_A1 := frozen_of_block A1.out
    have c_A2 := cell_of_block A2.out
    have f_A2 := frozen_of_block A2.out
    replace HS := fls_keep HS BA
    replace HS' := fls_keep HS' BA
    go_wp2_with fail
    go_loopw [5] (fun i wr => ∃ k : Nat, k ≤ nl ∧ i = .int .i64 k ∧ l.take k = m.take k ∧ Below w1.heap.size w1 wr) (fun i _ => nl - (intOf i).toNat)
    case atStart => exact ⟨0, by omega, rfl, by simp, Below.refl _ _⟩
    case round =>
      obtain ⟨k, hk, rfl, hall, hwb⟩ := hrel
      have HA := Lib.hid hall
      have HW := Lib.hid hwb
      clear hall hwb c_A1 f_A1 c_A2 f_A2
      have A1r := Lib.hid (keepb A1.out HW.out)
      have A2r := Lib.hid (keepb A2.out HW.out)
      have c_A1r := cell_of_block A1r.out
      have f_A1r := frozen_of_block A1r.out
      have c_A2r := cell_of_block A2r.out
      have f_A2r := frozen_of_block A2r.out
      by_cases hlt : k < nl
      · have hltl : k < l.length := by rw [← HN.out]; exact hlt
        have hltm : k < m.length := by rw [← HN'.out]; exact hlt
        obtain ⟨b, o, rfl, _⟩ := HS.out.open (by omega)
        obtain ⟨b', o', rfl, _⟩ := HS'.out.open (by omega)
        obtain ⟨x, hx⟩ : ∃ x, x = l[k] := ⟨_, rfl⟩
        obtain ⟨y, hy⟩ : ∃ y, y = m[k] := ⟨_, rfl⟩
        obtain ⟨c0, c1, c2, c3, c4, c5, c6⟩ := fls_row HS HW.out k hltl x hx
        obtain ⟨d0, d1, d2, d3, d4, d5, d6⟩ := fls_row HS' HW.out k hltm y hy
        have HX := Lib.hid hx
        have HY := Lib.hid hy
        have t1 : (k : Int) < (nl : Int) := by omega
        have t2 : (0 : Int) ≤ (k : Int) := by omega
        clear hx hy
        by_cases hxy : x = y
        · have hne := fun w => neq_fl x y w
          simp only [hxy, decide_true, Bool.not_true] at hne
          have HT := Lib.hid (show l.take (k + 1) = m.take (k + 1) by
            rw [List.take_add_one, List.take_add_one, HA.out, List.getElem?_eq_getElem hltl, List.getElem?_eq_getElem hltm, ← HX.out, ← HY.out, hxy])
          subst hxy
          go_wp2_with fail
          go_quiet (fail)
          go_wp2_with fail
          go_roundw
          case rel => exact ⟨k + 1, by omega, by go_num, HT.out, bel_drewN HW.out _⟩
          case measure => simp [intOf]; omega
        · have hne := fun w => neq_fl x y w
          simp only [hxy, decide_false, Bool.not_false] at hne
          have HF := Lib.hid (show decide (l = m) = false by
            simp only [decide_eq_false_iff_not]
            rintro rfl
            exact hxy (by rw [HX.out, HY.out]))
          clear hxy
          go_wp2_with fail
          go_quiet (fail)
          go_wp2_with fail
          go_ret
          exact ⟨ret_bool (by rw [HE.out, HF.out]), Lib.hid (bel_drewN (chain BA.out HW.out) _)⟩
      · have hke : k = nl := by omega
        subst hke
        have HF := Lib.hid (show decide (l = m) = true by
          have := HA.out
          rw [List.take_of_length_le (by rw [← HN.out]; exact Nat.le_refl _), List.take_of_length_le (by rw [← HN'.out]; exact Nat.le_refl _)] at this
          simpa using this)
        have t1 : decide ((k : Int) < (k : Int)) = false := by simp
        go_wp2_with fail
        go_ret
        exact ⟨ret_bool (by rw [HE.out, HF.out]), Lib.hid (chain BA.out HW.out)⟩
  · have HF := Lib.hid (show decide (Sd.mk n l c a = Sd.mk n' m c' a') = false by
      simp only [decide_eq_false_iff_not, Sd.mk.injEq]
      rintro ⟨h1, h2, h3, h4⟩
      exact hh ⟨h1, h3, h4, by rw [h2]⟩)
    have HH := Lib.hid hh
    clear hh
    go_enter Try.func67, Try.ntmps67
    go_upto_region 1 with fail
    refine gen_wp (fun w1 => Hid (w1.heap[w.heap.size]? = some (.cells #[.int .i64 n, .slice p l.length cap, .int .i64 c, .int .i64 a] 32)) ∧ Hid (w1.heap[(w.heap.size + 1)]? = some (.cells #[.int .i64 n', .slice p' m.length cap', .int .i64 c', .int .i64 a'] 32)) ∧ Hid (Below w.heap.size w w1) ∧ True) ⟨Lib.hid (by first | (simp [World.setCell, Array.getElem?_modify]; done) | (simp [World.setCell, Array.getElem?_modify]; omega) | ((repeat (first | (with_reducible exact heap_new _ _ _ (by first | rfl | (simp; done))) | (with_reducible refine keepa ?_ _) | (simp [World.setCell, Array.getElem?_modify]; done))); done)), Lib.hid (by first | (simp [World.setCell, Array.getElem?_modify]; done) | (simp [World.setCell, Array.getElem?_modify]; omega) | ((repeat (first | (with_reducible exact heap_new _ _ _ (by first | rfl | (simp; done))) | (with_reducible refine keepa ?_ _) | (simp [World.setCell, Array.getElem?_modify]; done))); done)), Lib.hid (by (repeat (first | (with_reducible exact Below.refl _ _) | (with_reducible refine bel_set (by first | omega | (simp; done) | (simp; omega)) ?_) | (with_reducible refine bel_alloc (by first | omega | (simp; done) | (simp; omega)) ?_) | (with_reducible refine bel_drew ?_) | (with_reducible refine bel_drewN ?_ _))); first | done | fail "left"), trivial⟩ ?_
    rintro w1 ⟨A1, A2, BA, -⟩
    have c_A1 := cell_of_block A1.out
    have f_A1 := frozen_of_block A1.out
    have c_A2 := cell_of_block A2.out
    have f_A2 := frozen_of_block A2.out
    go_wp2_with fail
    all_goals first
      | (go_ret; exact ⟨ret_bool HF.out.symm, BA⟩)
      | (exfalso; exact HH.out ⟨by assumption, by assumption, by assumption, (by have h : ((l.length : Int) != (m.length : Int)) = false := (by assumption); have h2 : (l.length : Int) = (m.length : Int) := (by simpa using h); omega)⟩)

/-- each flight fits behind the one ahead of it -/
def prevSeq (l : List Fl) (k : Nat) : Int := if k = 0 then 0 else (l.getD (k - 1) fl0).seq

theorem chain_bad_at {n : Int} : ∀ {l : List Fl} {last : Int} {k : Nat} (hk : k < l.length), flFits l[k] (if k = 0 then last else (l.getD (k - 1) fl0).seq) n = false → flChain n last l = false
  | f :: l, last, 0, hk, h => by
    simp only [List.getElem_cons_zero, if_true] at h
    rw [flChain, h]; rfl
  | f :: l, last, k + 1, hk, h => by
    rw [flChain]
    have ih := chain_bad_at (n := n) (l := l) (last := f.seq) (k := k) (by simpa using hk) (by
      rw [← h]
      simp only [List.getElem_cons_succ]
      by_cases h0 : k = 0
      · subst h0; simp
      · rw [if_neg h0, if_neg (by omega), show k + 1 - 1 = (k - 1) + 1 by omega]; simp)
    rw [ih]; simp

theorem chain_good_all {n : Int} : ∀ {l : List Fl} {last : Int}, (∀ k (hk : k < l.length), flFits l[k] (if k = 0 then last else (l.getD (k - 1) fl0).seq) n = true) → flChain n last l = true
  | [], _, _ => rfl
  | f :: l, last, h => by
    rw [flChain]
    have h0 := h 0 (by simp)
    simp only [List.getElem_cons_zero, if_true] at h0
    rw [h0, chain_good_all (l := l) (last := f.seq) fun k hk => by
      have := h (k + 1) (by simpa using hk)
      simp only [List.getElem_cons_succ] at this
      by_cases h1 : k = 0
      · subst h1; simpa using this
      · rw [if_neg h1]
        rw [if_neg (by omega), show k + 1 - 1 = (k - 1) + 1 by omega] at this
        simpa using this]
    rfl




set_option maxRecDepth 100000 in
set_option maxHeartbeats 4000000 in
theorem rright_any (n : Int) (v : Value) (c a : Int) (l : List Fl) (w : World) (h : Fls w v l) (hn : n ≤ 9223372036854775807) :
    Calls Try.prog 61 #[.agg #[.int .i64 n, v, .int .i64 c, .int .i64 a]] w fun e w' => e = .returned (.bool (sdRight ⟨n, l, c, a⟩)) ∧ Hid (Below w.heap.size w w') := by
  have HS := Lib.hid h
  have hm : l.length ≤ 9223372036854775807 := h.1
  obtain ⟨p, cap, rfl, hcap⟩ := fls_shape h
  clear h
  cases he : sdEnds ⟨n, l, c, a⟩ with
  | false =>
    have HF := Lib.hid (show sdRight ⟨n, l, c, a⟩ = false by unfold sdRight; rw [he]; simp)
    have HN := Lib.hid (show ¬ (1 ≤ n ∧ n ≤ 1073741824 ∧ 1 ≤ c ∧ c ≤ 8 ∧ 0 ≤ a ∧ a < 8 ∧ l.length ≤ 8) from fun hh => by
      simp [sdEnds] at he; omega)
    clear he
    go_enter Try.func61, Try.ntmps61
    go_upto_region 1 with fail
    refine gen_wp (fun w1 => Hid (w1.heap[w.heap.size]? = some (.cells #[.int .i64 n, .slice p l.length cap, .int .i64 c, .int .i64 a] 32)) ∧ Hid (Below w.heap.size w w1) ∧ True) ⟨Lib.hid (by first | (simp [World.setCell, Array.getElem?_modify]; done) | (simp [World.setCell, Array.getElem?_modify]; omega) | ((repeat (first | (with_reducible exact heap_new _ _ _ (by first | rfl | (simp; done))) | (with_reducible refine keepa ?_ _) | (simp [World.setCell, Array.getElem?_modify]; done))); done)), Lib.hid (by (repeat (first | (with_reducible exact Below.refl _ _) | (with_reducible refine bel_set (by first | omega | (simp; done) | (simp; omega)) ?_) | (with_reducible refine bel_alloc (by first | omega | (simp; done) | (simp; omega)) ?_) | (with_reducible refine bel_drew ?_) | (with_reducible refine bel_drewN ?_ _))); first | done | fail "left"), trivial⟩ ?_
    rintro w1 ⟨A1, BA, -⟩
    have c_A1 := cell_of_block A1.out
    have f_A1 := frozen_of_block A1.out
    go_wp2_with fail
    all_goals first
      | (go_ret; exact ⟨ret_bool HF.out.symm, BA⟩)
      | (exfalso; exact HN.out (by omega))
  | true =>
    have hh : 1 ≤ n ∧ n ≤ 1073741824 ∧ 1 ≤ c ∧ c ≤ 8 ∧ 0 ≤ a ∧ a < 8 ∧ l.length ≤ 8 := by simpa [sdEnds] using he
    obtain ⟨h1, h2, h3, h4, h5, h6, h7⟩ := hh
    have HE := Lib.hid he
    clear he
    go_enter Try.func61, Try.ntmps61
    go_upto_region 1 with fail
    refine gen_wp (fun w1 => Hid (w1.heap[w.heap.size]? = some (.cells #[.int .i64 n, .slice p l.length cap, .int .i64 c, .int .i64 a] 32)) ∧ Hid (Below w.heap.size w w1) ∧ True) ⟨Lib.hid (by first | (simp [World.setCell, Array.getElem?_modify]; done) | (simp [World.setCell, Array.getElem?_modify]; omega) | ((repeat (first | (with_reducible exact heap_new _ _ _ (by first | rfl | (simp; done))) | (with_reducible refine keepa ?_ _) | (simp [World.setCell, Array.getElem?_modify]; done))); done)), Lib.hid (by (repeat (first | (with_reducible exact Below.refl _ _) | (with_reducible refine bel_set (by first | omega | (simp; done) | (simp; omega)) ?_) | (with_reducible refine bel_alloc (by first | omega | (simp; done) | (simp; omega)) ?_) | (with_reducible refine bel_drew ?_) | (with_reducible refine bel_drewN ?_ _))); first | done | fail "left"), trivial⟩ ?_
    rintro w1 ⟨A1, BA, -⟩
    have c_A1 := cell_of_block A1.out
    have f_A1 := frozen_of_block A1.out
    replace HS := fls_keep HS BA
    go_wp2_with fail
    go_loopw [3] (fun i wr => ∃ k : Nat, k ≤ l.length ∧ i = .int .i64 k ∧ (∀ j (hj : j < l.length), j < k → flFits l[j] (if j = 0 then 0 else (l.getD (j - 1) fl0).seq) n = true ∧ 1 ≤ l[j].seq) ∧ Below w1.heap.size w1 wr) (fun i _ => l.length - (intOf i).toNat)
    case atStart => exact ⟨0, by omega, rfl, fun j _ hj => by omega, Below.refl _ _⟩
    case round =>
      obtain ⟨k, hk, rfl, hall, hwb⟩ := hrel
      have HA := Lib.hid hall
      have HW := Lib.hid hwb
      clear hall hwb c_A1 f_A1
      have A1r := Lib.hid (keepb A1.out HW.out)
      have c_A1r := cell_of_block A1r.out
      have f_A1r := frozen_of_block A1r.out
      by_cases hlt : k < l.length
      · obtain ⟨b, o, rfl, _⟩ := HS.out.open (by omega)
        obtain ⟨f, hf⟩ : ∃ f, f = l[k] := ⟨_, rfl⟩
        obtain ⟨c0, c1, c2, c3, c4, c5, c6⟩ := fls_row HS HW.out k hlt f hf
        have HX := Lib.hid hf
        have t1 : (k : Int) < (l.length : Int) := by omega
        have t2 : (0 : Int) ≤ (k : Int) := by omega
        clear hf
        go_upto_region 7 with fail
        refine gen_wp (fun w6 => Hid (Below wr.heap.size wr w6) ∧ Hid (w6.heap[wr.heap.size]? = some (.cells #[.int .i64 f.seq, .int .i64 f.note.user, .int .i64 f.note.ver, .int .i64 f.note.stat, .int .i64 f.note.cnt, .int .i64 f.at_, .int .i64 f.tries] 85)) ∧ True) ⟨Lib.hid (by (repeat (first | (with_reducible exact Below.refl _ _) | (with_reducible refine bel_set (by first | omega | (simp; done) | (simp; omega)) ?_) | (with_reducible refine bel_alloc (by first | omega | (simp; done) | (simp; omega)) ?_) | (with_reducible refine bel_drew ?_) | (with_reducible refine bel_drewN ?_ _))); first | done | fail "left"), Lib.hid (by first | (simp [World.setCell, Array.getElem?_modify, A1r.out]; done) | (simp [World.setCell, Array.getElem?_modify, A1r.out]; omega) | ((repeat (first | (with_reducible exact A1r.out) | (with_reducible exact heap_new _ _ _ (by first | rfl | (simp; done))) | (with_reducible refine keepa ?_ _) | (simp [World.setCell, Array.getElem?_modify, A1r.out]; done))); done)), trivial⟩ ?_
        clear c_A1r f_A1r
        rintro w6 ⟨N, AF, -⟩
        have c_AF := cell_of_block AF.out
        have f_AF := frozen_of_block AF.out
        clear c0 c1 c2 c3 c4 c5 c6
        replace A1r := Lib.hid (keepb A1r.out N.out)
        replace c_A1r := cell_of_block A1r.out
        replace f_A1r := frozen_of_block A1r.out
        have HW6 := Lib.hid (chain BA.out (chain HW.out N.out))
        have HW7 := Lib.hid (chain HW.out N.out)
        clear N
        obtain ⟨pv, hpv⟩ : ∃ pv, pv = (if k = 0 then 0 else (l.getD (k - 1) fl0).seq) := ⟨_, rfl⟩
        have HPV := Lib.hid hpv
        have hp0 : 0 ≤ pv := by
          rw [hpv]; split
          · omega
          · have := (HA.out (k - 1) (by omega) (by omega)).2
            rw [List.getD_eq_getElem?_getD, List.getElem?_eq_getElem (by omega)]
            simp only [Option.getD_some]; omega
        by_cases g1 : f.seq < 1
        · have u1 := dec_t g1
          clear hpv
          have HF := Lib.hid (show sdRight ⟨n, l, c, a⟩ = false by
            unfold sdRight
            rw [chain_bad_at (last := 0) hlt (by rw [← HX.out, ← HPV.out]; unfold flFits; simp; omega)]; rfl)
          go_wp2_with fail
          go_quiet (fail)
          go_wp2_with fail
          go_ret
          exact ⟨ret_bool HF.out.symm, Lib.hid (bel_drewN HW6.out _)⟩
        have u1 := dec_f g1
        by_cases g2 : n ≤ f.seq
        · have u2 := dec_t g2
          clear hpv
          have HF := Lib.hid (show sdRight ⟨n, l, c, a⟩ = false by
            unfold sdRight
            rw [chain_bad_at (last := 0) hlt (by rw [← HX.out, ← HPV.out]; unfold flFits; simp; omega)]; rfl)
          go_wp2_with fail
          go_quiet (fail)
          go_wp2_with fail
          go_ret
          exact ⟨ret_bool HF.out.symm, Lib.hid (bel_drewN HW6.out _)⟩
        have u2 := dec_f g2
        by_cases g3 : 8 < n - f.seq
        · have u3 := dec_t g3
          clear hpv
          have HF := Lib.hid (show sdRight ⟨n, l, c, a⟩ = false by
            unfold sdRight
            rw [chain_bad_at (last := 0) hlt (by rw [← HX.out, ← HPV.out]; unfold flFits; simp; omega)]; rfl)
          go_wp2_with fail
          go_quiet (fail)
          go_wp2_with fail
          go_ret
          exact ⟨ret_bool HF.out.symm, Lib.hid (bel_drewN HW6.out _)⟩
        have u3 := dec_f g3
        by_cases hk0 : k = 0
        · have hpv0 : pv ≤ 0 := by rw [hpv, if_pos hk0]; exact Int.le_refl _
          have t3 := dec_f (show ¬ 0 < k by omega)
          clear hpv hk0
          by_cases g4 : f.tries < 1
          · have u4 := dec_t g4
            have HF := Lib.hid (show sdRight ⟨n, l, c, a⟩ = false by
              unfold sdRight
              rw [chain_bad_at (last := 0) hlt (by rw [← HX.out, ← HPV.out]; unfold flFits; simp; omega)]; rfl)
            go_wp2_with fail
            go_quiet (fail)
            go_wp2_with fail
            go_ret
            exact ⟨ret_bool HF.out.symm, Lib.hid (bel_drewN HW6.out _)⟩
          have u4 := dec_f g4
          by_cases g5 : 1073741824 < f.tries
          · have u5 := dec_t g5
            have HF := Lib.hid (show sdRight ⟨n, l, c, a⟩ = false by
              unfold sdRight
              rw [chain_bad_at (last := 0) hlt (by rw [← HX.out, ← HPV.out]; unfold flFits; simp; omega)]; rfl)
            go_wp2_with fail
            go_quiet (fail)
            go_wp2_with fail
            go_ret
            exact ⟨ret_bool HF.out.symm, Lib.hid (bel_drewN HW6.out _)⟩
          have u5 := dec_f g5
          by_cases g6 : f.at_ < 0
          · have u6 := dec_t g6
            have HF := Lib.hid (show sdRight ⟨n, l, c, a⟩ = false by
              unfold sdRight
              rw [chain_bad_at (last := 0) hlt (by rw [← HX.out, ← HPV.out]; unfold flFits; simp; omega)]; rfl)
            go_wp2_with fail
            go_quiet (fail)
            go_wp2_with fail
            go_ret
            exact ⟨ret_bool HF.out.symm, Lib.hid (bel_drewN HW6.out _)⟩
          have u6 := dec_f g6
          by_cases g7 : 1099511627776 < f.at_
          · have u7 := dec_t g7
            have HF := Lib.hid (show sdRight ⟨n, l, c, a⟩ = false by
              unfold sdRight
              rw [chain_bad_at (last := 0) hlt (by rw [← HX.out, ← HPV.out]; unfold flFits; simp; omega)]; rfl)
            go_wp2_with fail
            go_quiet (fail)
            go_wp2_with fail
            go_ret
            exact ⟨ret_bool HF.out.symm, Lib.hid (bel_drewN HW6.out _)⟩
          have u7 := dec_f g7
          have HG := Lib.hid (show flFits l[k] (if k = 0 then 0 else (l.getD (k - 1) fl0).seq) n = true by rw [← HX.out, ← HPV.out]; unfold flFits; simp; omega)
          have HG1 := Lib.hid (show 1 ≤ f.seq by omega)
          clear g4 g5 g6 g7
          go_wp2_with fail
          go_quiet (fail)
          go_wp2_with fail
          go_roundw
          case rel =>
            refine ⟨k + 1, by omega, by go_num, fun j hj hjk => ?_, bel_drewN HW7.out _⟩
            by_cases e : j = k
            · subst e; exact ⟨HG.out, by rw [← HX.out]; exact HG1.out⟩
            · exact HA.out j hj (by omega)
          case measure => simp [intOf]; omega
        · have HE0 := Lib.hid (fls_row HS HW7.out (k - 1) (by omega) l[k - 1] rfl)
          have hpp : l[k - 1].seq = pv := by
            rw [hpv, if_neg hk0, List.getD_eq_getElem?_getD, List.getElem?_eq_getElem (by omega)]; rfl
          have e0 := HE0.out.1
          rw [hpp] at e0
          have t3 : ((k : Int) - 1).toNat = k - 1 := by omega
          have t4 : (0 : Int) ≤ (k : Int) - 1 := by omega
          have t5 : (k : Int) - 1 < (l.length : Int) := by omega
          have t6 := dec_t (show 0 < k by omega)
          have t7 : IntKind.i64.wrap ((k : Int) - 1) = (k : Int) - 1 := IntWalk.i64_in _ (by omega)
          clear hpv hpp
          by_cases g8 : f.seq ≤ pv
          · have u8 := dec_t g8
            have HF := Lib.hid (show sdRight ⟨n, l, c, a⟩ = false by
              unfold sdRight
              rw [chain_bad_at (last := 0) hlt (by rw [← HX.out, ← HPV.out]; unfold flFits; simp; omega)]; rfl)
            go_wp2_with fail
            go_quiet (fail)
            go_wp2_with fail
            go_ret
            exact ⟨ret_bool HF.out.symm, Lib.hid (bel_drewN HW6.out _)⟩
          have u8 := dec_f g8
          by_cases g4 : f.tries < 1
          · have u4 := dec_t g4
            have HF := Lib.hid (show sdRight ⟨n, l, c, a⟩ = false by
              unfold sdRight
              rw [chain_bad_at (last := 0) hlt (by rw [← HX.out, ← HPV.out]; unfold flFits; simp; omega)]; rfl)
            go_wp2_with fail
            go_quiet (fail)
            go_wp2_with fail
            go_ret
            exact ⟨ret_bool HF.out.symm, Lib.hid (bel_drewN HW6.out _)⟩
          have u4 := dec_f g4
          by_cases g5 : 1073741824 < f.tries
          · have u5 := dec_t g5
            have HF := Lib.hid (show sdRight ⟨n, l, c, a⟩ = false by
              unfold sdRight
              rw [chain_bad_at (last := 0) hlt (by rw [← HX.out, ← HPV.out]; unfold flFits; simp; omega)]; rfl)
            go_wp2_with fail
            go_quiet (fail)
            go_wp2_with fail
            go_ret
            exact ⟨ret_bool HF.out.symm, Lib.hid (bel_drewN HW6.out _)⟩
          have u5 := dec_f g5
          by_cases g6 : f.at_ < 0
          · have u6 := dec_t g6
            have HF := Lib.hid (show sdRight ⟨n, l, c, a⟩ = false by
              unfold sdRight
              rw [chain_bad_at (last := 0) hlt (by rw [← HX.out, ← HPV.out]; unfold flFits; simp; omega)]; rfl)
            go_wp2_with fail
            go_quiet (fail)
            go_wp2_with fail
            go_ret
            exact ⟨ret_bool HF.out.symm, Lib.hid (bel_drewN HW6.out _)⟩
          have u6 := dec_f g6
          by_cases g7 : 1099511627776 < f.at_
          · have u7 := dec_t g7
            have HF := Lib.hid (show sdRight ⟨n, l, c, a⟩ = false by
              unfold sdRight
              rw [chain_bad_at (last := 0) hlt (by rw [← HX.out, ← HPV.out]; unfold flFits; simp; omega)]; rfl)
            go_wp2_with fail
            go_quiet (fail)
            go_wp2_with fail
            go_ret
            exact ⟨ret_bool HF.out.symm, Lib.hid (bel_drewN HW6.out _)⟩
          have u7 := dec_f g7
          have HG := Lib.hid (show flFits l[k] (if k = 0 then 0 else (l.getD (k - 1) fl0).seq) n = true by rw [← HX.out, ← HPV.out]; unfold flFits; simp; omega)
          have HG1 := Lib.hid (show 1 ≤ f.seq by omega)
          clear g4 g5 g6 g7
          go_wp2_with fail
          go_quiet (fail)
          go_wp2_with fail
          go_roundw
          case rel =>
            refine ⟨k + 1, by omega, by go_num, fun j hj hjk => ?_, bel_drewN HW7.out _⟩
            by_cases e : j = k
            · subst e; exact ⟨HG.out, by rw [← HX.out]; exact HG1.out⟩
            · exact HA.out j hj (by omega)
          case measure => simp [intOf]; omega
      · have hke : k = l.length := by omega
        subst hke
        have HT := Lib.hid (show sdRight ⟨n, l, c, a⟩ = true by
          unfold sdRight
          rw [chain_good_all (last := 0) fun k hk => (HA.out k hk hk).1, HE.out]; rfl)
        have t1 : decide ((l.length : Int) < (l.length : Int)) = false := by simp
        go_wp2_with fail
        go_ret
        exact ⟨ret_bool HT.out.symm, Lib.hid (chain BA.out HW.out)⟩


set_option maxHeartbeats 1000000 in
theorem isame_any (v v' : Value) (l m : List Int) (w : World) (h : Ints w v l) (h' : Ints w v' m) :
    Calls Try.prog 25 #[v, v'] w fun e w' => e = .returned (.bool (decide (l = m))) ∧ Hid (Below w.heap.size w w') := by
  have HS := Lib.hid h
  have HS' := Lib.hid h'
  obtain ⟨hm, p, cap, rfl, hcap, _⟩ := h
  obtain ⟨hm', p', cap', rfl, hcap', _⟩ := h'
  by_cases hlen : l.length = m.length
  · obtain ⟨n, hn⟩ : ∃ n, n = l.length := ⟨_, rfl⟩
    have hn' : n = m.length := by omega
    rw [← hn] at hm hcap
    rw [← hn'] at hm' hcap'
    have HN := Lib.hid hn
    have HN' := Lib.hid hn'
    rw [← hn, ← hn']
    rw [← hn] at HS
    rw [← hn'] at HS'
    clear hlen hn hn' hm'
    go_enter Try.func25, Try.ntmps25
    go_wp2_with fail
    go_loopw [5] (fun i wr => ∃ k : Nat, k ≤ n ∧ i = .int .i64 k ∧ l.take k = m.take k ∧ Below w.heap.size w wr) (fun i _ => n - (intOf i).toNat)
    case atStart => exact ⟨0, by omega, rfl, by simp, Below.refl _ _⟩
    case round =>
      obtain ⟨k, hk, rfl, hall, hwb⟩ := hrel
      have HA := Lib.hid hall
      have HW := Lib.hid hwb
      clear hall hwb
      by_cases hlt : k < n
      · have hltl : k < l.length := by rw [← HN.out]; exact hlt
        have hltm : k < m.length := by rw [← HN'.out]; exact hlt
        obtain ⟨b, o, rfl, -⟩ := (HS.out.keep HW.out).atp k hltl
        obtain ⟨b', o', rfl, -⟩ := (HS'.out.keep HW.out).atp k hltm
        obtain ⟨x, hx⟩ : ∃ x, x = l[k] := ⟨_, rfl⟩
        obtain ⟨y, hy⟩ : ∃ y, y = m[k] := ⟨_, rfl⟩
        have c0 : wr.cell? ⟨b, o + k, none⟩ = some (.int .i64 x) := by
          obtain ⟨_, _, e, hd⟩ := (HS.out.keep HW.out).atp k hltl
          cases e; rw [hx]; exact hd
        have c1 : wr.cell? ⟨b', o' + k, none⟩ = some (.int .i64 y) := by
          obtain ⟨_, _, e, hd⟩ := (HS'.out.keep HW.out).atp k hltm
          cases e; rw [hy]; exact hd
        have HX := Lib.hid hx
        have HY := Lib.hid hy
        have t1 : (k : Int) < (n : Int) := by omega
        have t2 : (0 : Int) ≤ (k : Int) := by omega
        clear hx hy
        by_cases hxy : x = y
        · have t3 : (x != y) = false := by simp [hxy]
          have HT := Lib.hid (show l.take (k + 1) = m.take (k + 1) by
            rw [List.take_add_one, List.take_add_one, HA.out, List.getElem?_eq_getElem hltl, List.getElem?_eq_getElem hltm, ← HX.out, ← HY.out, hxy])
          subst hxy
          go_wp2_with fail
          go_quiet (fail)
          go_wp2_with fail
          go_roundw
          case rel => exact ⟨k + 1, by omega, by go_num, HT.out, bel_drewN HW.out _⟩
          case measure => simp [intOf]; omega
        · have t3 : (x != y) = true := by simp [hxy]
          have HF := Lib.hid (show decide (l = m) = false by
            simp only [decide_eq_false_iff_not]
            rintro rfl
            exact hxy (by rw [HX.out, HY.out]))
          clear hxy
          go_wp2_with fail
          go_quiet (fail)
          go_wp2_with fail
          go_ret
          exact ⟨ret_bool HF.out.symm, Lib.hid (bel_drewN HW.out _)⟩
      · have hke : k = n := by omega
        subst hke
        have HF := Lib.hid (show decide (l = m) = true by
          have := HA.out
          rw [List.take_of_length_le (by rw [← HN.out]; exact Nat.le_refl _), List.take_of_length_le (by rw [← HN'.out]; exact Nat.le_refl _)] at this
          simpa using this)
        have t1 : decide ((k : Int) < (k : Int)) = false := by simp
        go_wp2_with fail
        go_ret
        exact ⟨ret_bool HF.out.symm, HW⟩
  · have HF := Lib.hid (show decide (l = m) = false by
      simp only [decide_eq_false_iff_not]
      rintro rfl
      exact hlen rfl)
    have t1 : ((l.length : Int) != (m.length : Int)) = true := by simp; omega
    go_enter Try.func25, Try.ntmps25
    go_wp2_with fail
    go_ret
    exact ⟨ret_bool HF.out.symm, Lib.hid (Below.refl _ _)⟩


end Go.Proofs.Ytlmkkfigmoefdaa.K

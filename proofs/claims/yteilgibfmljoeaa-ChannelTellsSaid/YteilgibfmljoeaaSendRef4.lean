/-
  CONTRACT of nightjarref11.Right.
-/
import Derived.Test.YteilgibfmljoeaaSendRef3
set_option linter.unusedVariables false
set_option linter.unusedSimpArgs false
namespace Go.Proofs.Yteilgibfmljoeaa.K
open Go Go.RowKit Nj

set_option maxRecDepth 100000 in
set_option maxHeartbeats 4000000 in
theorem rright_any (n : Int) (v : Value) (c a : Int) (l : List Fl) (w : World) (h : Fls w v l) (hn : n ≤ 9223372036854775807) :
    Calls Try.prog 38 #[.agg #[.int .i64 n, v, .int .i64 c, .int .i64 a]] w fun e w' => e = .returned (.bool (sdRight ⟨n, l, c, a⟩)) ∧ Hid (Below w.heap.size w w') := by
  have HS := Lib.hid h
  have hm : l.length ≤ 9223372036854775807 := h.1
  obtain ⟨p, cap, rfl, hcap⟩ := fls_shape h
  clear h
  cases he : sdEnds ⟨n, l, c, a⟩ with
  | false =>
    have HF := Lib.hid (show sdRight ⟨n, l, c, a⟩ = false by unfold sdRight; rw [he]; simp)
    have HN := Lib.hid (show ¬ (1 ≤ n ∧ n ≤ 1073741824 ∧ 1 ≤ c ∧ c ≤ 8 ∧ 0 ≤ a ∧ a < 8 ∧ l.length ≤ 8) from fun hh => by
      simp [sdEnds] at he; omega)
    clear he
    go_enter Try.func38, Try.ntmps38
    go_upto_region 1 with fail
    refine gen_wp (fun w1 => Hid (w1.heap[w.heap.size]? = some (.cells #[.int .i64 n, .slice p l.length cap, .int .i64 c, .int .i64 a] 24)) ∧ Hid (Below w.heap.size w w1) ∧ True) ⟨Lib.hid (by first | (simp [World.setCell, Array.getElem?_modify]; done) | (simp [World.setCell, Array.getElem?_modify]; omega) | ((repeat (first | (with_reducible exact heap_new _ _ _ (by first | rfl | (simp; done))) | (with_reducible refine keepa ?_ _) | (simp [World.setCell, Array.getElem?_modify]; done))); done)), Lib.hid (by (repeat (first | (with_reducible exact Below.refl _ _) | (with_reducible refine bel_set (by first | omega | (simp; done) | (simp; omega)) ?_) | (with_reducible refine bel_alloc (by first | omega | (simp; done) | (simp; omega)) ?_) | (with_reducible refine bel_drew ?_) | (with_reducible refine bel_drewN ?_ _))); first | done | fail "left"), trivial⟩ ?_
    rintro w1 ⟨A1, BA, -⟩
    have c_A1 := cell_of_block A1.out
    have f_A1 := frozen_of_block A1.out
    go_wp2_with fail
    all_goals first
      | (go_ret; exact ⟨ret_bool HF.out.symm, BA⟩)
      | (exfalso; exact HN.out (by omega))
  | true =>
    have hh : 1 ≤ n ∧ n ≤ 1073741824 ∧ 1 ≤ c ∧ c ≤ 8 ∧ 0 ≤ a ∧ a < 8 ∧ l.length ≤ 8 := by simpa [sdEnds] using he
    obtain ⟨h1, h2, h3, h4, h5, h6, h7⟩ := hh
    have HE := Lib.hid he
    clear he
    go_enter Try.func38, Try.ntmps38
    go_upto_region 1 with fail
    refine gen_wp (fun w1 => Hid (w1.heap[w.heap.size]? = some (.cells #[.int .i64 n, .slice p l.length cap, .int .i64 c, .int .i64 a] 24)) ∧ Hid (Below w.heap.size w w1) ∧ True) ⟨Lib.hid (by first | (simp [World.setCell, Array.getElem?_modify]; done) | (simp [World.setCell, Array.getElem?_modify]; omega) | ((repeat (first | (with_reducible exact heap_new _ _ _ (by first | rfl | (simp; done))) | (with_reducible refine keepa ?_ _) | (simp [World.setCell, Array.getElem?_modify]; done))); done)), Lib.hid (by (repeat (first | (with_reducible exact Below.refl _ _) | (with_reducible refine bel_set (by first | omega | (simp; done) | (simp; omega)) ?_) | (with_reducible refine bel_alloc (by first | omega | (simp; done) | (simp; omega)) ?_) | (with_reducible refine bel_drew ?_) | (with_reducible refine bel_drewN ?_ _))); first | done | fail "left"), trivial⟩ ?_
    rintro w1 ⟨A1, BA, -⟩
    have c_A1 := cell_of_block A1.out
    have f_A1 := frozen_of_block A1.out
    replace HS := fls_keep HS BA
    go_wp2_with fail
    go_loopw [3] (fun i wr => ∃ k : Nat, k ≤ l.length ∧ i = .int .i64 k ∧ (∀ j (hj : j < l.length), j < k → flFits l[j] (if j = 0 then 0 else (l.getD (j - 1) fl0).seq) n = true ∧ 1 ≤ l[j].seq) ∧ Below w1.heap.size w1 wr) (fun i _ => l.length - (intOf i).toNat)
    case atStart => exact ⟨0, by omega, rfl, fun j _ hj => by omega, Below.refl _ _⟩
    case round =>
      obtain ⟨k, hk, rfl, hall, hwb⟩ := hrel
      have HA := Lib.hid hall
      have HW := Lib.hid hwb
      clear hall hwb c_A1 f_A1
      have A1r := Lib.hid (keepb A1.out HW.out)
      have c_A1r := cell_of_block A1r.out
      have f_A1r := frozen_of_block A1r.out
      by_cases hlt : k < l.length
      · obtain ⟨b, o, rfl, _⟩ := HS.out.open (by omega)
        obtain ⟨f, hf⟩ : ∃ f, f = l[k] := ⟨_, rfl⟩
        obtain ⟨c0, c1, c2, c3, c4, c5, c6⟩ := fls_row HS HW.out k hlt f hf
        have HX := Lib.hid hf
        have t1 : (k : Int) < (l.length : Int) := by omega
        have t2 : (0 : Int) ≤ (k : Int) := by omega
        clear hf
        go_upto_region 7 with fail
        refine gen_wp (fun w6 => Hid (Below wr.heap.size wr w6) ∧ Hid (w6.heap[wr.heap.size]? = some (.cells #[.int .i64 f.seq, .int .i64 f.note.user, .int .i64 f.note.ver, .int .i64 f.note.stat, .int .i64 f.note.cnt, .int .i64 f.at_, .int .i64 f.tries] 40)) ∧ True) ⟨Lib.hid (by (repeat (first | (with_reducible exact Below.refl _ _) | (with_reducible refine bel_set (by first | omega | (simp; done) | (simp; omega)) ?_) | (with_reducible refine bel_alloc (by first | omega | (simp; done) | (simp; omega)) ?_) | (with_reducible refine bel_drew ?_) | (with_reducible refine bel_drewN ?_ _))); first | done | fail "left"), Lib.hid (by first | (simp [World.setCell, Array.getElem?_modify, A1r.out]; done) | (simp [World.setCell, Array.getElem?_modify, A1r.out]; omega) | ((repeat (first | (with_reducible exact A1r.out) | (with_reducible exact heap_new _ _ _ (by first | rfl | (simp; done))) | (with_reducible refine keepa ?_ _) | (simp [World.setCell, Array.getElem?_modify, A1r.out]; done))); done)), trivial⟩ ?_
        clear c_A1r f_A1r
        rintro w6 ⟨N, AF, -⟩
        have c_AF := cell_of_block AF.out
        have f_AF := frozen_of_block AF.out
        clear c0 c1 c2 c3 c4 c5 c6
        replace A1r := Lib.hid (keepb A1r.out N.out)
        replace c_A1r := cell_of_block A1r.out
        replace f_A1r := frozen_of_block A1r.out
        have HW6 := Lib.hid (chain BA.out (chain HW.out N.out))
        have HW7 := Lib.hid (chain HW.out N.out)
        clear N
        obtain ⟨pv, hpv⟩ : ∃ pv, pv = (if k = 0 then 0 else (l.getD (k - 1) fl0).seq) := ⟨_, rfl⟩
        have HPV := Lib.hid hpv
        have hp0 : 0 ≤ pv := by
          rw [hpv]; split
          · omega
          · have := (HA.out (k - 1) (by omega) (by omega)).2
            rw [List.getD_eq_getElem?_getD, List.getElem?_eq_getElem (by omega)]
            simp only [Option.getD_some]; omega
        by_cases g1 : f.seq < 1
        · have u1 := dec_t g1
          clear hpv
          have HF := Lib.hid (show sdRight ⟨n, l, c, a⟩ = false by
            unfold sdRight
            rw [chain_bad_at (last := 0) hlt (by rw [← HX.out, ← HPV.out]; unfold flFits; simp; omega)]; rfl)
          go_wp2_with fail
          go_quiet (fail)
          go_wp2_with fail
          go_ret
          exact ⟨ret_bool HF.out.symm, Lib.hid (bel_drewN HW6.out _)⟩
        have u1 := dec_f g1
        by_cases g2 : n ≤ f.seq
        · have u2 := dec_t g2
          clear hpv
          have HF := Lib.hid (show sdRight ⟨n, l, c, a⟩ = false by
            unfold sdRight
            rw [chain_bad_at (last := 0) hlt (by rw [← HX.out, ← HPV.out]; unfold flFits; simp; omega)]; rfl)
          go_wp2_with fail
          go_quiet (fail)
          go_wp2_with fail
          go_ret
          exact ⟨ret_bool HF.out.symm, Lib.hid (bel_drewN HW6.out _)⟩
        have u2 := dec_f g2
        by_cases g3 : 8 < n - f.seq
        · have u3 := dec_t g3
          clear hpv
          have HF := Lib.hid (show sdRight ⟨n, l, c, a⟩ = false by
            unfold sdRight
            rw [chain_bad_at (last := 0) hlt (by rw [← HX.out, ← HPV.out]; unfold flFits; simp; omega)]; rfl)
          go_wp2_with fail
          go_quiet (fail)
          go_wp2_with fail
          go_ret
          exact ⟨ret_bool HF.out.symm, Lib.hid (bel_drewN HW6.out _)⟩
        have u3 := dec_f g3
        by_cases hk0 : k = 0
        · have hpv0 : pv ≤ 0 := by rw [hpv, if_pos hk0]; exact Int.le_refl _
          have t3 := dec_f (show ¬ 0 < k by omega)
          clear hpv hk0
          by_cases g4 : f.tries < 1
          · have u4 := dec_t g4
            have HF := Lib.hid (show sdRight ⟨n, l, c, a⟩ = false by
              unfold sdRight
              rw [chain_bad_at (last := 0) hlt (by rw [← HX.out, ← HPV.out]; unfold flFits; simp; omega)]; rfl)
            go_wp2_with fail
            go_quiet (fail)
            go_wp2_with fail
            go_ret
            exact ⟨ret_bool HF.out.symm, Lib.hid (bel_drewN HW6.out _)⟩
          have u4 := dec_f g4
          by_cases g5 : 1073741824 < f.tries
          · have u5 := dec_t g5
            have HF := Lib.hid (show sdRight ⟨n, l, c, a⟩ = false by
              unfold sdRight
              rw [chain_bad_at (last := 0) hlt (by rw [← HX.out, ← HPV.out]; unfold flFits; simp; omega)]; rfl)
            go_wp2_with fail
            go_quiet (fail)
            go_wp2_with fail
            go_ret
            exact ⟨ret_bool HF.out.symm, Lib.hid (bel_drewN HW6.out _)⟩
          have u5 := dec_f g5
          by_cases g6 : f.at_ < 0
          · have u6 := dec_t g6
            have HF := Lib.hid (show sdRight ⟨n, l, c, a⟩ = false by
              unfold sdRight
              rw [chain_bad_at (last := 0) hlt (by rw [← HX.out, ← HPV.out]; unfold flFits; simp; omega)]; rfl)
            go_wp2_with fail
            go_quiet (fail)
            go_wp2_with fail
            go_ret
            exact ⟨ret_bool HF.out.symm, Lib.hid (bel_drewN HW6.out _)⟩
          have u6 := dec_f g6
          by_cases g7 : 1099511627776 < f.at_
          · have u7 := dec_t g7
            have HF := Lib.hid (show sdRight ⟨n, l, c, a⟩ = false by
              unfold sdRight
              rw [chain_bad_at (last := 0) hlt (by rw [← HX.out, ← HPV.out]; unfold flFits; simp; omega)]; rfl)
            go_wp2_with fail
            go_quiet (fail)
            go_wp2_with fail
            go_ret
            exact ⟨ret_bool HF.out.symm, Lib.hid (bel_drewN HW6.out _)⟩
          have u7 := dec_f g7
          have HG := Lib.hid (show flFits l[k] (if k = 0 then 0 else (l.getD (k - 1) fl0).seq) n = true by rw [← HX.out, ← HPV.out]; unfold flFits; simp; omega)
          have HG1 := Lib.hid (show 1 ≤ f.seq by omega)
          clear g4 g5 g6 g7
          go_wp2_with fail
          go_quiet (fail)
          go_wp2_with fail
          go_roundw
          case rel =>
            refine ⟨k + 1, by omega, by go_num, fun j hj hjk => ?_, bel_drewN HW7.out _⟩
            by_cases e : j = k
            · subst e; exact ⟨HG.out, by rw [← HX.out]; exact HG1.out⟩
            · exact HA.out j hj (by omega)
          case measure => simp [intOf]; omega
        · have HE0 := Lib.hid (fls_row HS HW7.out (k - 1) (by omega) l[k - 1] rfl)
          have hpp : l[k - 1].seq = pv := by
            rw [hpv, if_neg hk0, List.getD_eq_getElem?_getD, List.getElem?_eq_getElem (by omega)]; rfl
          have e0 := HE0.out.1
          rw [hpp] at e0
          have t3 : ((k : Int) - 1).toNat = k - 1 := by omega
          have t4 : (0 : Int) ≤ (k : Int) - 1 := by omega
          have t5 : (k : Int) - 1 < (l.length : Int) := by omega
          have t6 := dec_t (show 0 < k by omega)
          have t7 : IntKind.i64.wrap ((k : Int) - 1) = (k : Int) - 1 := IntWalk.i64_in _ (by omega)
          clear hpv hpp
          by_cases g8 : f.seq ≤ pv
          · have u8 := dec_t g8
            have HF := Lib.hid (show sdRight ⟨n, l, c, a⟩ = false by
              unfold sdRight
              rw [chain_bad_at (last := 0) hlt (by rw [← HX.out, ← HPV.out]; unfold flFits; simp; omega)]; rfl)
            go_wp2_with fail
            go_quiet (fail)
            go_wp2_with fail
            go_ret
            exact ⟨ret_bool HF.out.symm, Lib.hid (bel_drewN HW6.out _)⟩
          have u8 := dec_f g8
          by_cases g4 : f.tries < 1
          · have u4 := dec_t g4
            have HF := Lib.hid (show sdRight ⟨n, l, c, a⟩ = false by
              unfold sdRight
              rw [chain_bad_at (last := 0) hlt (by rw [← HX.out, ← HPV.out]; unfold flFits; simp; omega)]; rfl)
            go_wp2_with fail
            go_quiet (fail)
            go_wp2_with fail
            go_ret
            exact ⟨ret_bool HF.out.symm, Lib.hid (bel_drewN HW6.out _)⟩
          have u4 := dec_f g4
          by_cases g5 : 1073741824 < f.tries
          · have u5 := dec_t g5
            have HF := Lib.hid (show sdRight ⟨n, l, c, a⟩ = false by
              unfold sdRight
              rw [chain_bad_at (last := 0) hlt (by rw [← HX.out, ← HPV.out]; unfold flFits; simp; omega)]; rfl)
            go_wp2_with fail
            go_quiet (fail)
            go_wp2_with fail
            go_ret
            exact ⟨ret_bool HF.out.symm, Lib.hid (bel_drewN HW6.out _)⟩
          have u5 := dec_f g5
          by_cases g6 : f.at_ < 0
          · have u6 := dec_t g6
            have HF := Lib.hid (show sdRight ⟨n, l, c, a⟩ = false by
              unfold sdRight
              rw [chain_bad_at (last := 0) hlt (by rw [← HX.out, ← HPV.out]; unfold flFits; simp; omega)]; rfl)
            go_wp2_with fail
            go_quiet (fail)
            go_wp2_with fail
            go_ret
            exact ⟨ret_bool HF.out.symm, Lib.hid (bel_drewN HW6.out _)⟩
          have u6 := dec_f g6
          by_cases g7 : 1099511627776 < f.at_
          · have u7 := dec_t g7
            have HF := Lib.hid (show sdRight ⟨n, l, c, a⟩ = false by
              unfold sdRight
              rw [chain_bad_at (last := 0) hlt (by rw [← HX.out, ← HPV.out]; unfold flFits; simp; omega)]; rfl)
            go_wp2_with fail
            go_quiet (fail)
            go_wp2_with fail
            go_ret
            exact ⟨ret_bool HF.out.symm, Lib.hid (bel_drewN HW6.out _)⟩
          have u7 := dec_f g7
          have HG := Lib.hid (show flFits l[k] (if k = 0 then 0 else (l.getD (k - 1) fl0).seq) n = true by rw [← HX.out, ← HPV.out]; unfold flFits; simp; omega)
          have HG1 := Lib.hid (show 1 ≤ f.seq by omega)
          clear g4 g5 g6 g7
          go_wp2_with fail
          go_quiet (fail)
          go_wp2_with fail
          go_roundw
          case rel =>
            refine ⟨k + 1, by omega, by go_num, fun j hj hjk => ?_, bel_drewN HW7.out _⟩
            by_cases e : j = k
            · subst e; exact ⟨HG.out, by rw [← HX.out]; exact HG1.out⟩
            · exact HA.out j hj (by omega)
          case measure => simp [intOf]; omega
      · have hke : k = l.length := by omega
        subst hke
        have HT := Lib.hid (show sdRight ⟨n, l, c, a⟩ = true by
          unfold sdRight
          rw [chain_good_all (last := 0) fun k hk => (HA.out k hk hk).1, HE.out]; rfl)
        have t1 : decide ((l.length : Int) < (l.length : Int)) = false := by simp
        go_wp2_with fail
        go_ret
        exact ⟨ret_bool HT.out.symm, Lib.hid (chain BA.out HW.out)⟩
end Go.Proofs.Yteilgibfmljoeaa.K

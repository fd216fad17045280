/-
  CONTRACTS of nightjarref11: copied, Room, Lost, Void, Due.
-/
import Derived.Test.YteilgibfmljoeaaSend10
import Derived.Test.YteilgibfmljoeaaReg
set_option linter.unusedVariables false
set_option linter.unusedSimpArgs false
namespace Go.Proofs.Yteilgibfmljoeaa.K
open Go Go.RowKit Nj

theorem append_nil_fl (g c : Nat) (ty : TypeId) (W : World) : (Builtin.append_ #[22, 22] ty #[.slice (some ⟨g, 0, none⟩) 0 0, .slice none 0 c]).run Try.prog W = .ok (.slice (some ⟨g, 0, none⟩) 0 0) W := by
  simp [Builtin.append_, run_underlying Try.underlying22, sizeOf, typeInfo, Builtin.lenOf, Builtin.firstCells, storeCells]
  kernel_rfl

set_option maxHeartbeats 1000000 in
theorem rcopied_any (n : Int) (v : Value) (c a : Int) (l : List Fl) (w : World) (h : Fls w v l) (hle : l.length ≤ 1048576) :
    Calls Try.prog 67 #[.agg #[.int .i64 n, v, .int .i64 c, .int .i64 a]] w fun e w' => ∃ p cap, e = .returned (.agg #[.int .i64 n, .slice p l.length cap, .int .i64 c, .int .i64 a]) ∧ Hid (Own 40 7 w.heap.size w' (.slice p l.length cap) l.length (flat Fl.cells l)) ∧ Hid (Below w.heap.size w w') := by
  have HS := Lib.hid h
  obtain ⟨p, cap, rfl, hcap⟩ := fls_shape h
  clear h
  cases p with
  | none =>
    have h0 : l = [] := by
      cases l with
      | nil => rfl
      | cons a l => obtain ⟨b, o, h, _⟩ := HS.out.open (by simp); cases h
    subst h0
    have hap := append_nil_fl
    simp only [List.length_nil]
    go_enter Try.func67, Try.ntmps67
    go_upto_region 1 with fail
    refine gen_wp (fun w1 => Hid (w1.heap[w.heap.size]? = some (.cells #[.int .i64 n, .slice none 0 cap, .int .i64 c, .int .i64 a] 24)) ∧ Hid (w1.heap[(w.heap.size + 1)]? = some (.cells #[.int .i64 0, .slice none 0 0, .int .i64 0, .int .i64 0] 24)) ∧ Hid (Below w.heap.size w w1) ∧ True) ⟨Lib.hid (by first | (simp [World.setCell, Array.getElem?_modify]; done) | (simp [World.setCell, Array.getElem?_modify]; omega) | ((repeat (first | (with_reducible exact heap_new _ _ _ (by first | rfl | (simp; done))) | (with_reducible refine keepa ?_ _) | (simp [World.setCell, Array.getElem?_modify]; done))); done)), Lib.hid (by first | (simp [World.setCell, Array.getElem?_modify]; done) | (simp [World.setCell, Array.getElem?_modify]; omega) | ((repeat (first | (with_reducible exact heap_new _ _ _ (by first | rfl | (simp; done))) | (with_reducible refine keepa ?_ _) | (simp [World.setCell, Array.getElem?_modify]; done))); done)), Lib.hid (by (repeat (first | (with_reducible exact Below.refl _ _) | (with_reducible refine bel_set (by first | omega | (simp; done) | (simp; omega)) ?_) | (with_reducible refine bel_alloc (by first | omega | (simp; done) | (simp; omega)) ?_) | (with_reducible refine bel_drew ?_) | (with_reducible refine bel_drewN ?_ _))); first | done | fail "left"), trivial⟩ ?_
    rintro w1 ⟨A1, A2, BA, -⟩
    have c_A1 := cell_of_block A1.out
    have f_A1 := frozen_of_block A1.out
    have c_A2 := cell_of_block A2.out
    have f_A2 := frozen_of_block A2.out
    have hsz := block_lt A2.out
    have hsz1 := block_lt A1.out
    go_upto_region 2 with fail
    refine gen_wp (fun w2 => Hid (w2.heap[w.heap.size]? = some (.cells #[.int .i64 n, .slice (some ⟨w1.heap.size, 0, none⟩) 0 0, .int .i64 c, .int .i64 a] 24)) ∧ Hid (w2.heap[(w.heap.size + 1)]? = some (.cells #[.int .i64 0, .slice none 0 0, .int .i64 0, .int .i64 0] 24)) ∧ Hid (Below w.heap.size w w2) ∧ Hid (Own 40 7 w1.heap.size w2 (.slice (some ⟨w1.heap.size, 0, none⟩) 0 0) 0 (flat Fl.cells [])) ∧ True) ⟨Lib.hid (by first | (simp [World.setCell, Array.getElem?_modify, A1.out, A2.out]; done) | (simp [World.setCell, Array.getElem?_modify, A1.out, A2.out]; omega) | ((repeat (first | (with_reducible exact A1.out) | (with_reducible exact A2.out) | (with_reducible exact heap_new _ _ _ (by first | rfl | (simp; done))) | (with_reducible refine keepa ?_ _) | (simp [World.setCell, Array.getElem?_modify, A1.out, A2.out]; done))); done)), Lib.hid (by first | (simp [World.setCell, Array.getElem?_modify, A1.out, A2.out]; done) | (simp [World.setCell, Array.getElem?_modify, A1.out, A2.out]; omega) | ((repeat (first | (with_reducible exact A1.out) | (with_reducible exact A2.out) | (with_reducible exact heap_new _ _ _ (by first | rfl | (simp; done))) | (with_reducible refine keepa ?_ _) | (simp [World.setCell, Array.getElem?_modify, A1.out, A2.out]; done))); done)), Lib.hid (by have hbsz := Below.size (BA.out); (repeat (first | (with_reducible exact BA.out) | (with_reducible refine bel_set (by first | omega | (simp; done) | (simp; omega)) ?_) | (with_reducible refine bel_alloc (by first | omega | (simp; done) | (simp; omega)) ?_) | (with_reducible refine bel_drew ?_) | (with_reducible refine bel_drewN ?_ _))); first | done | fail "left"), Lib.hid (own_empty _ _ _ _ _ (by simp [World.setCell]) (by simp [World.setCell])), trivial⟩ ?_
    clear c_A1 f_A1 c_A2 f_A2
    rintro w2 ⟨A1, A2, BA, O2, -⟩
    have c_A1 := cell_of_block A1.out
    have f_A1 := frozen_of_block A1.out
    have c_A2 := cell_of_block A2.out
    have f_A2 := frozen_of_block A2.out
    go_wp2_with fail
    refine bodyPost_ret (v := .agg #[.int .i64 n, .slice (some ⟨w1.heap.size, 0, none⟩) 0 0, .int .i64 c, .int .i64 a]) (by simp [results, Try.results67, go_sem, World.setCell, Array.getElem?_modify, World.cell?, A2.out]) rfl ⟨some ⟨w1.heap.size, 0, none⟩, 0, rfl, Lib.hid ?_, Lib.hid (by have hbsz := Below.size (BA.out); (repeat (first | (with_reducible exact BA.out) | (with_reducible refine bel_set (by first | omega | (simp; done) | (simp; omega)) ?_) | (with_reducible refine bel_alloc (by first | omega | (simp; done) | (simp; omega)) ?_) | (with_reducible refine bel_drew ?_) | (with_reducible refine bel_drewN ?_ _))); first | done | fail "left")⟩
    exact Own.mono (B := w1.heap.size) (by (repeat (first | (with_reducible exact O2.out) | (with_reducible refine Own.set ?_ _ _ (by first | omega | (simp; done) | (simp; omega))) | (with_reducible refine Own.alloc ?_ _) | (with_reducible refine Own.drew ?_) | (with_reducible refine Own.drewN ?_ _))); first | done | fail "left") (by omega)
  | some ad =>
    go_enter Try.func67, Try.ntmps67
    go_upto_region 1 with fail
    refine gen_wp (fun w1 => Hid (w1.heap[w.heap.size]? = some (.cells #[.int .i64 n, .slice (some ad) l.length cap, .int .i64 c, .int .i64 a] 24)) ∧ Hid (w1.heap[(w.heap.size + 1)]? = some (.cells #[.int .i64 0, .slice none 0 0, .int .i64 0, .int .i64 0] 24)) ∧ Hid (Below w.heap.size w w1) ∧ True) ⟨Lib.hid (by first | (simp [World.setCell, Array.getElem?_modify]; done) | (simp [World.setCell, Array.getElem?_modify]; omega) | ((repeat (first | (with_reducible exact heap_new _ _ _ (by first | rfl | (simp; done))) | (with_reducible refine keepa ?_ _) | (simp [World.setCell, Array.getElem?_modify]; done))); done)), Lib.hid (by first | (simp [World.setCell, Array.getElem?_modify]; done) | (simp [World.setCell, Array.getElem?_modify]; omega) | ((repeat (first | (with_reducible exact heap_new _ _ _ (by first | rfl | (simp; done))) | (with_reducible refine keepa ?_ _) | (simp [World.setCell, Array.getElem?_modify]; done))); done)), Lib.hid (by (repeat (first | (with_reducible exact Below.refl _ _) | (with_reducible refine bel_set (by first | omega | (simp; done) | (simp; omega)) ?_) | (with_reducible refine bel_alloc (by first | omega | (simp; done) | (simp; omega)) ?_) | (with_reducible refine bel_drew ?_) | (with_reducible refine bel_drewN ?_ _))); first | done | fail "left"), trivial⟩ ?_
    rintro w1 ⟨A1, A2, BA, -⟩
    have c_A1 := cell_of_block A1.out
    have f_A1 := frozen_of_block A1.out
    have c_A2 := cell_of_block A2.out
    have f_A2 := frozen_of_block A2.out
    have HC := Lib.hid (Sl.news (by decide) (HS.out.keep (w' := w1.alloc (.cells #[] 40)) (by decide) (BA.out.alloc BA.out.size _)))
    have HSZ := Lib.hid (block_lt A2.out)
    have HNE := Lib.hid (show ∀ k, (Value.slice (some ⟨w1.heap.size, 0, none⟩) 0 0).ownBlock = some k → k = w1.heap.size from fun k hk => by simpa [Value.ownBlock] using hk.symm)
    have hsz := HSZ.out
    have hsz1 := block_lt A1.out
    go_upto_region 2 with (at_builtin; refine wpList_app rfl (.tmp 3) (.tmp 5) 22 rfl w1.heap.size 40 (.agg #[.int .i64 0, .int .i64 0, .int .i64 0, .int .i64 0, .int .i64 0, .int .i64 0, .int .i64 0]) 7 56 Try.underlying22 (by kernel_rfl) rfl (by decide) w.heap.size w (Lib.hid (BA.out.alloc BA.out.size _)) (by omega) (Lib.hid (own_empty _ _ _ _ _ rfl (Nat.le_refl _))) rfl ad l.length cap rfl (flat Fl.cells l) (flat_length fl_seven l) HC (fl_cells_one l) (by omega) (by omega) (by simp) ?_; intro p2 cap2 w2 hc2 HO2 HB2 HK2; simp only [Nat.zero_add, List.nil_append] at HO2 hc2; replace A1 := Lib.hid (HK2.out _ _ (keepa A1.out _) (fun k hk => by have := HNE.out k hk; omega)); replace c_A1 := cell_of_block A1.out; replace f_A1 := frozen_of_block A1.out; replace A2 := Lib.hid (HK2.out _ _ (keepa A2.out _) (fun k hk => by have := HNE.out k hk; omega)); replace c_A2 := cell_of_block A2.out; replace f_A2 := frozen_of_block A2.out)
    refine gen_wp (fun w3 => Hid (w3.heap[w.heap.size]? = some (.cells #[.int .i64 n, .slice p2 l.length cap2, .int .i64 c, .int .i64 a] 24)) ∧ Hid (w3.heap[(w.heap.size + 1)]? = some (.cells #[.int .i64 0, .slice none 0 0, .int .i64 0, .int .i64 0] 24)) ∧ Hid (Below w.heap.size w w3) ∧ Hid (Own 40 7 w1.heap.size w3 (.slice p2 l.length cap2) l.length (flat Fl.cells l)) ∧ True) ⟨Lib.hid (by first | (simp [World.setCell, Array.getElem?_modify, A1.out, A2.out]; done) | (simp [World.setCell, Array.getElem?_modify, A1.out, A2.out]; omega) | ((repeat (first | (with_reducible exact A1.out) | (with_reducible exact A2.out) | (with_reducible exact heap_new _ _ _ (by first | rfl | (simp; done))) | (with_reducible refine keepa ?_ _) | (simp [World.setCell, Array.getElem?_modify, A1.out, A2.out]; done))); done)), Lib.hid (by first | (simp [World.setCell, Array.getElem?_modify, A1.out, A2.out]; done) | (simp [World.setCell, Array.getElem?_modify, A1.out, A2.out]; omega) | ((repeat (first | (with_reducible exact A1.out) | (with_reducible exact A2.out) | (with_reducible exact heap_new _ _ _ (by first | rfl | (simp; done))) | (with_reducible refine keepa ?_ _) | (simp [World.setCell, Array.getElem?_modify, A1.out, A2.out]; done))); done)), Lib.hid (by have hbsz := Below.size (HB2.out); (repeat (first | (with_reducible exact HB2.out) | (with_reducible refine bel_set (by first | omega | (simp; done) | (simp; omega)) ?_) | (with_reducible refine bel_alloc (by first | omega | (simp; done) | (simp; omega)) ?_) | (with_reducible refine bel_drew ?_) | (with_reducible refine bel_drewN ?_ _))); first | done | fail "left"), Lib.hid (by (repeat (first | (with_reducible exact HO2.out) | (with_reducible refine Own.set ?_ _ _ (by first | omega | (simp; done) | (simp; omega))) | (with_reducible refine Own.alloc ?_ _) | (with_reducible refine Own.drew ?_) | (with_reducible refine Own.drewN ?_ _))); first | done | fail "left"), trivial⟩ ?_
    clear c_A1 f_A1 c_A2 f_A2
    rintro w3 ⟨A1, A2, BA, O3, -⟩
    have c_A1 := cell_of_block A1.out
    have f_A1 := frozen_of_block A1.out
    have c_A2 := cell_of_block A2.out
    have f_A2 := frozen_of_block A2.out
    go_wp2_with fail
    refine bodyPost_ret (v := .agg #[.int .i64 n, .slice p2 l.length cap2, .int .i64 c, .int .i64 a]) (by simp [results, Try.results67, go_sem, World.setCell, Array.getElem?_modify, World.cell?, A2.out]) rfl ⟨p2, cap2, rfl, Lib.hid ?_, Lib.hid (by have hbsz := Below.size (BA.out); (repeat (first | (with_reducible exact BA.out) | (with_reducible refine bel_set (by first | omega | (simp; done) | (simp; omega)) ?_) | (with_reducible refine bel_alloc (by first | omega | (simp; done) | (simp; omega)) ?_) | (with_reducible refine bel_drew ?_) | (with_reducible refine bel_drewN ?_ _))); first | done | fail "left")⟩
    exact Own.mono (B := w1.heap.size) (by (repeat (first | (with_reducible exact O3.out) | (with_reducible refine Own.set ?_ _ _ (by first | omega | (simp; done) | (simp; omega))) | (with_reducible refine Own.alloc ?_ _) | (with_reducible refine Own.drew ?_) | (with_reducible refine Own.drewN ?_ _))); first | done | fail "left") (by omega)

set_option maxHeartbeats 1000000 in
theorem rroom_any (n : Int) (v : Value) (c a : Int) (l : List Fl) (m : Int) (w : World) (h : Fls w v l) (hR : sdRight ⟨n, l, c, a⟩ = true) (hm : sdRoom ⟨n, l, c, a⟩ = m) :
    Calls Try.prog 46 #[.agg #[.int .i64 n, v, .int .i64 c, .int .i64 a]] w fun e w' => e = .returned (.int .i64 m) ∧ Hid (Below w.heap.size w w') := by
  have HS := Lib.hid h
  obtain ⟨p, cap, rfl, hcap⟩ := fls_shape h
  have R := rightSd hR
  have hn0 : 1 ≤ n := R.n0
  have hn1 : n ≤ 1073741824 := R.n1
  have hc0 : 1 ≤ c := R.c0
  have hc1 : c ≤ 8 := R.c1
  have hl8 : l.length ≤ 8 := R.len
  have HF := Lib.hid R.fl
  have HM := Lib.hid hm
  clear h R hR hm
  by_cases h0 : l.length = 0
  · have hl0 : l = [] := List.length_eq_zero_iff.1 h0
    subst hl0
    have gr := int_rule (show (if 0 < (if (if 1073741824 - n < 8 then 1073741824 - n else 8) < c then (if 1073741824 - n < 8 then 1073741824 - n else 8) else c) then (if (if 1073741824 - n < 8 then 1073741824 - n else 8) < c then (if 1073741824 - n < 8 then 1073741824 - n else 8) else c) else 0) = m by
      have := HM.out; simp only [sdRoom, sdSpan, List.length_nil] at this; omega)
    simp only [List.length_nil]
    go_enter Try.func46, Try.ntmps46
    go_wp2_with fail
    all_goals go_ret
    all_goals refine ⟨ret_int ?_, Lib.hid (below_alloc _ _)⟩
    all_goals (have := HM.out; simp only [sdRoom, sdSpan, List.length_nil] at this; omega)
  · have hpos : 0 < l.length := by omega
    obtain ⟨b, o, rfl, _⟩ := HS.out.open hpos
    have t1 : (0 : Int) < (l.length : Int) := by omega
    obtain ⟨f0, hf0⟩ : ∃ f, f = l[0] := ⟨_, rfl⟩
    have HF0 := Lib.hid hf0
    obtain ⟨g0, g1, g2, -⟩ := HF.out f0 (by rw [hf0]; simp)
    simp only at g1 g2
    have HRm := Lib.hid (show max (min (min (c - l.length) (8 - (n - f0.seq))) (1073741824 - n)) 0 = m by
      rw [← HM.out]
      cases l with
      | nil => simp at hpos
      | cons x l => simp only [List.getElem_cons_zero] at hf0; subst hf0; rfl)
    have HC := Lib.hid (fun (w' : World) (hb : Below w.heap.size w w') => (show w'.cell? ⟨b, o, none⟩ = some (.int .i64 f0.seq) from by
      have := fls_at HS hb 0 hpos 0 (.int .i64 f0.seq) (by rw [← hf0]; rfl)
      simpa using this))
    clear hf0 h0
    go_enter Try.func46, Try.ntmps46
    go_upto_region 1 with fail
    refine gen_wp (fun w1 => Hid (w1.heap[w.heap.size]? = some (.cells #[.int .i64 n, .slice (some ⟨b, o, none⟩) l.length cap, .int .i64 c, .int .i64 a] 24)) ∧ Hid (Below w.heap.size w w1) ∧ True) ⟨Lib.hid (by first | (simp [World.setCell, Array.getElem?_modify]; done) | (simp [World.setCell, Array.getElem?_modify]; omega) | ((repeat (first | (with_reducible exact heap_new _ _ _ (by first | rfl | (simp; done))) | (with_reducible refine keepa ?_ _) | (simp [World.setCell, Array.getElem?_modify]; done))); done)), Lib.hid (by (repeat (first | (with_reducible exact Below.refl _ _) | (with_reducible refine bel_set (by first | omega | (simp; done) | (simp; omega)) ?_) | (with_reducible refine bel_alloc (by first | omega | (simp; done) | (simp; omega)) ?_) | (with_reducible refine bel_drew ?_) | (with_reducible refine bel_drewN ?_ _))); first | done | fail "left"), trivial⟩ ?_
    rintro w1 ⟨A1, BA, -⟩
    have c_A1 := cell_of_block A1.out
    have f_A1 := frozen_of_block A1.out
    have c0 := HC.out _ BA.out
    go_wp2_with fail
    all_goals go_ret
    all_goals refine ⟨ret_int ?_, BA⟩
    all_goals (have := HRm.out; omega)
end Go.Proofs.Yteilgibfmljoeaa.K

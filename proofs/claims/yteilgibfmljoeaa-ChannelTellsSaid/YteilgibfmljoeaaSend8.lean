/-
  CONTRACTS of send.Acked's closure, slices.DeleteFunc over it.
-/
import Derived.Test.YteilgibfmljoeaaSend7
set_option linter.unusedVariables false
set_option linter.unusedSimpArgs false
namespace Nj
theorem max3 (a b : Int) : (if (if a < b then b else a) < 0 then 0 else if a < b then b else a) = max (max a b) 0 := by omega
end Nj
namespace Go.Proofs.Yteilgibfmljoeaa.K
open Go Go.RowKit Nj

theorem cf_acked1 (args : Array Value) (W : World) : (callFunc 52 args).run Try.prog W = .ok (.enter 52 args) W := by
  go_simp

set_option maxHeartbeats 1000000 in
theorem acked1_any (f : Fl) (ab kb sb nb : Nat) (ack sack sm now : Int) (w : World) (ha : w.heap[ab]? = some (.cells #[.int .i64 ack] 3)) (hk : w.heap[kb]? = some (.cells #[.int .i64 sack] 3)) (hs : w.heap[sb]? = some (.cells #[.int .i64 sm] 3)) (hn : w.heap[nb]? = some (.cells #[.int .i64 now] 3))
    (h0 : 0 ≤ f.seq ∧ f.seq ≤ 1073741824) (h1 : 0 ≤ ack ∧ ack ≤ 1073741824) (h2 : 0 ≤ now ∧ now ≤ 1099511627776) (h3 : 0 ≤ f.at_ ∧ f.at_ ≤ 1099511627776) :
    Calls Try.prog 52 #[.agg #[.int .i64 f.seq, .int .i64 f.note.user, .int .i64 f.note.ver, .int .i64 f.note.stat, .int .i64 f.note.cnt, .int .i64 f.at_, .int .i64 f.tries], .pointer (some ⟨ab, 0, none⟩), .pointer (some ⟨kb, 0, none⟩), .pointer (some ⟨sb, 0, none⟩), .pointer (some ⟨nb, 0, none⟩)] w fun e w' =>
      e = .returned (.bool (told f.seq ack sack)) ∧ Hid (Mod (· = sb) w w') ∧ Hid (w'.heap[sb]? = some (.cells #[.int .i64 (sampleOf ack sack now sm f)] 3)) := by
  have l1 := block_lt ha
  have l2 := block_lt hk
  have l3 := block_lt hs
  have l4 := block_lt hn
  have A1 := Lib.hid ha
  have A2 := Lib.hid hk
  have A3 := Lib.hid hs
  have A4 := Lib.hid hn
  obtain ⟨g0, g1⟩ := h0
  obtain ⟨g2, g3⟩ := h1
  obtain ⟨g4, g5⟩ := h2
  obtain ⟨g6, g7⟩ := h3
  have HT := Lib.hid (fun W => told_any f.seq ack sack W g0 g1 g2 g3)
  obtain ⟨gone, hgone⟩ : ∃ g, g = told f.seq ack sack := ⟨_, rfl⟩
  have HG := Lib.hid hgone
  rw [← hgone] at HT
  clear ha hk hs hn hgone
  have c_A1 := cell_of_block A1.out
  have f_A1 := frozen_of_block A1.out
  have c_A2 := cell_of_block A2.out
  have f_A2 := frozen_of_block A2.out
  have c_A3 := cell_of_block A3.out
  have f_A3 := frozen_of_block A3.out
  have c_A4 := cell_of_block A4.out
  have f_A4 := frozen_of_block A4.out
  go_enter Try.func52, Try.ntmps52
  go_upto_region 1 with fail
  refine gen_wp (fun wa => Hid (wa.heap[w.heap.size]? = some (.cells #[.int .i64 f.seq, .int .i64 f.note.user, .int .i64 f.note.ver, .int .i64 f.note.stat, .int .i64 f.note.cnt, .int .i64 f.at_, .int .i64 f.tries] 40)) ∧ Hid (wa.heap[ab]? = some (.cells #[.int .i64 ack] 3)) ∧ Hid (wa.heap[kb]? = some (.cells #[.int .i64 sack] 3)) ∧ Hid (wa.heap[sb]? = some (.cells #[.int .i64 sm] 3)) ∧ Hid (wa.heap[nb]? = some (.cells #[.int .i64 now] 3)) ∧ Hid (Mod (· = sb) w wa) ∧ True) ⟨Lib.hid (by first | (simp [World.setCell, Array.getElem?_modify, A1.out, A2.out, A3.out, A4.out]; done) | (simp [World.setCell, Array.getElem?_modify, A1.out, A2.out, A3.out, A4.out]; omega) | ((repeat (first | (with_reducible exact A1.out) | (with_reducible exact A2.out) | (with_reducible exact A3.out) | (with_reducible exact A4.out) | (with_reducible exact heap_new _ _ _ (by first | rfl | (simp; done))) | (with_reducible refine keepa ?_ _) | (simp [World.setCell, Array.getElem?_modify, A1.out, A2.out, A3.out, A4.out]; done))); done)), Lib.hid (by first | (simp [World.setCell, Array.getElem?_modify, A1.out, A2.out, A3.out, A4.out]; done) | (simp [World.setCell, Array.getElem?_modify, A1.out, A2.out, A3.out, A4.out]; omega) | ((repeat (first | (with_reducible exact A1.out) | (with_reducible exact A2.out) | (with_reducible exact A3.out) | (with_reducible exact A4.out) | (with_reducible exact heap_new _ _ _ (by first | rfl | (simp; done))) | (with_reducible refine keepa ?_ _) | (simp [World.setCell, Array.getElem?_modify, A1.out, A2.out, A3.out, A4.out]; done))); done)), Lib.hid (by first | (simp [World.setCell, Array.getElem?_modify, A1.out, A2.out, A3.out, A4.out]; done) | (simp [World.setCell, Array.getElem?_modify, A1.out, A2.out, A3.out, A4.out]; omega) | ((repeat (first | (with_reducible exact A1.out) | (with_reducible exact A2.out) | (with_reducible exact A3.out) | (with_reducible exact A4.out) | (with_reducible exact heap_new _ _ _ (by first | rfl | (simp; done))) | (with_reducible refine keepa ?_ _) | (simp [World.setCell, Array.getElem?_modify, A1.out, A2.out, A3.out, A4.out]; done))); done)), Lib.hid (by first | (simp [World.setCell, Array.getElem?_modify, A1.out, A2.out, A3.out, A4.out]; done) | (simp [World.setCell, Array.getElem?_modify, A1.out, A2.out, A3.out, A4.out]; omega) | ((repeat (first | (with_reducible exact A1.out) | (with_reducible exact A2.out) | (with_reducible exact A3.out) | (with_reducible exact A4.out) | (with_reducible exact heap_new _ _ _ (by first | rfl | (simp; done))) | (with_reducible refine keepa ?_ _) | (simp [World.setCell, Array.getElem?_modify, A1.out, A2.out, A3.out, A4.out]; done))); done)), Lib.hid (by first | (simp [World.setCell, Array.getElem?_modify, A1.out, A2.out, A3.out, A4.out]; done) | (simp [World.setCell, Array.getElem?_modify, A1.out, A2.out, A3.out, A4.out]; omega) | ((repeat (first | (with_reducible exact A1.out) | (with_reducible exact A2.out) | (with_reducible exact A3.out) | (with_reducible exact A4.out) | (with_reducible exact heap_new _ _ _ (by first | rfl | (simp; done))) | (with_reducible refine keepa ?_ _) | (simp [World.setCell, Array.getElem?_modify, A1.out, A2.out, A3.out, A4.out]; done))); done)), Lib.hid ((Mod.refl (· = sb) w).alloc _), trivial⟩ ?_
  clear c_A1 f_A1 c_A2 f_A2 c_A3 f_A3 c_A4 f_A4
  rintro wa ⟨B0, A1, A2, A3, A4, MM, -⟩
  have c_B0 := cell_of_block B0.out
  have f_B0 := frozen_of_block B0.out
  have c_A1 := cell_of_block A1.out
  have f_A1 := frozen_of_block A1.out
  have c_A2 := cell_of_block A2.out
  have f_A2 := frozen_of_block A2.out
  have c_A3 := cell_of_block A3.out
  have f_A3 := frozen_of_block A3.out
  have c_A4 := cell_of_block A4.out
  have f_A4 := frozen_of_block A4.out
  go_wp2_with fail
  refine (HT.out _).mono ?_
  rintro e w' ⟨rfl, rfl⟩
  have HSm := Lib.hid (show sampleOf ack sack now sm f = if gone && decide (f.tries = 1) then max (max sm (now - f.at_)) 0 else sm by unfold sampleOf; rw [← HG.out])
  cases gone with
  | false =>
    have HE := Lib.hid (show sampleOf ack sack now sm f = sm by rw [HSm.out]; rfl)
    go_wp2_with fail
    go_ret
    exact ⟨by rw [← HG.out]; rfl, MM, by rw [HE.out]; exact A3⟩
  | true =>
    by_cases ht : f.tries = 1
    · have t1 : (f.tries == 1) = true := by simpa using ht
      have HE := Lib.hid (show sampleOf ack sack now sm f = max (max sm (now - f.at_)) 0 by rw [HSm.out]; simp [ht])
      have hne : sb ≠ w.heap.size := by omega
      go_upto_region 4 with fail
      rw [max3]
      obtain ⟨m, hm⟩ : ∃ m, m = max (max sm (now - f.at_)) 0 := ⟨_, rfl⟩
      rw [← hm] at HE ⊢
      clear hm
      refine gen_wp (fun w2 => Hid (w2.heap[sb]? = some (.cells #[.int .i64 m] 3)) ∧ Hid (Mod (· = sb) w w2) ∧ True) ⟨Lib.hid (by first | (simp [World.setCell, Array.getElem?_modify, B0.out, A1.out, A2.out, A3.out, A4.out, hne, hne.symm]; done) | (simp [World.setCell, Array.getElem?_modify, B0.out, A1.out, A2.out, A3.out, A4.out, hne, hne.symm]; omega) | ((repeat (first | (with_reducible exact B0.out) | (with_reducible exact A1.out) | (with_reducible exact A2.out) | (with_reducible exact A3.out) | (with_reducible exact A4.out) | (with_reducible exact heap_new _ _ _ (by first | rfl | (simp; done))) | (with_reducible refine keepa ?_ _) | (simp [World.setCell, Array.getElem?_modify, B0.out, A1.out, A2.out, A3.out, A4.out, hne, hne.symm]; done))); done)), Lib.hid (MM.out.set _ _ (.inl rfl)), trivial⟩ ?_
      clear c_B0 f_B0 c_A1 f_A1 c_A2 f_A2 c_A3 f_A3 c_A4 f_A4
      rintro w2 ⟨A3, MM, -⟩
      have c_A3 := cell_of_block A3.out
      have f_A3 := frozen_of_block A3.out
      go_wp2_with fail
      go_ret
      exact ⟨by rw [← HG.out]; rfl, MM, by rw [HE.out]; exact A3⟩
    · have t1 : (f.tries == 1) = false := by simpa using ht
      have HE := Lib.hid (show sampleOf ack sack now sm f = sm by rw [HSm.out]; simp [ht])
      go_wp2_with fail
      go_ret
      exact ⟨by rw [← HG.out]; rfl, MM, by rw [HE.out]; exact A3⟩

/-- what has gone over a row: the row itself, block g, and the sample -/
def Two (g sb : Nat) (k : Nat) : Prop := k = g ∨ k = sb
end Go.Proofs.Yteilgibfmljoeaa.K
namespace Nj
open Go
/-- seven stores of a flight -/
theorem copy_cells {l : List Fl} {k : Nat} (hk : k < l.length) (x : Fl) :
    (((((((flat Fl.cells l).set (k * 7) (.int .i64 x.seq)).set (k * 7 + 1) (.int .i64 x.note.user)).set (k * 7 + 2) (.int .i64 x.note.ver)).set (k * 7 + 3) (.int .i64 x.note.stat)).set (k * 7 + 4) (.int .i64 x.note.cnt)).set (k * 7 + 5) (.int .i64 x.at_)).set (k * 7 + 6) (.int .i64 x.tries) = flat Fl.cells (l.set k x) := by
  have hlen := flat_length fl_seven l
  have hb : (k + 1) * 7 ≤ l.length * 7 := Nat.mul_le_mul_right _ hk
  refine flat_set fl_seven (by decide) l k hk _ _ (by simp) ?_ ?_
  · intro i hi
    rw [List.getElem?_set_ne (by omega), List.getElem?_set_ne (by omega), List.getElem?_set_ne (by omega), List.getElem?_set_ne (by omega), List.getElem?_set_ne (by omega), List.getElem?_set_ne (by omega), List.getElem?_set_ne (by omega)]
  · intro j hj
    match j, hj with
    | 0, _ => rw [List.getElem?_set_ne (by omega), List.getElem?_set_ne (by omega), List.getElem?_set_ne (by omega), List.getElem?_set_ne (by omega), List.getElem?_set_ne (by omega), List.getElem?_set_ne (by omega), Nat.add_zero, List.getElem?_set_self (by omega)]; rfl
    | 1, _ => rw [List.getElem?_set_ne (by omega), List.getElem?_set_ne (by omega), List.getElem?_set_ne (by omega), List.getElem?_set_ne (by omega), List.getElem?_set_ne (by omega), List.getElem?_set_self (by simp; omega)]; rfl
    | 2, _ => rw [List.getElem?_set_ne (by omega), List.getElem?_set_ne (by omega), List.getElem?_set_ne (by omega), List.getElem?_set_ne (by omega), List.getElem?_set_self (by simp; omega)]; rfl
    | 3, _ => rw [List.getElem?_set_ne (by omega), List.getElem?_set_ne (by omega), List.getElem?_set_ne (by omega), List.getElem?_set_self (by simp; omega)]; rfl
    | 4, _ => rw [List.getElem?_set_ne (by omega), List.getElem?_set_ne (by omega), List.getElem?_set_self (by simp; omega)]; rfl
    | 5, _ => rw [List.getElem?_set_ne (by omega), List.getElem?_set_self (by simp; omega)]; rfl
    | 6, _ => rw [List.getElem?_set_self (by simp; omega)]; rfl
end Nj

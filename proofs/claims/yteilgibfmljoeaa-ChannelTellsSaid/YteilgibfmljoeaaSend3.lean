/-
  CONTRACTS of package send: Right, Push, Void, Due, Same.
-/
import Derived.Test.YteilgibfmljoeaaSend2
set_option linter.unusedVariables false
set_option linter.unusedSimpArgs false
namespace Nj
theorem chain_bad {n last : Int} {l : List Fl} {k : Nat} (hk : k < l.length) (h : flFits l[k] last n = false) : flChain n last (l.drop k) = false := by
  rw [List.drop_eq_getElem_cons hk, flChain, h]; rfl
theorem chain_good {n last : Int} {l : List Fl} {k : Nat} (hk : k < l.length) (h : flFits l[k] last n = true) : flChain n last (l.drop k) = flChain n l[k].seq (l.drop (k + 1)) := by
  rw [List.drop_eq_getElem_cons hk, flChain, h]; simp
theorem fits_pos {f : Fl} {last next : Int} (h : flFits f last next = true) : last < f.seq := by
  unfold flFits at h
  simp only [Bool.and_eq_true, decide_eq_true_eq] at h
  exact h.1
end Nj
namespace Go.Proofs.Yteilgibfmljoeaa.K
open Go Go.RowKit Nj

set_option maxHeartbeats 2000000 in
theorem sright_any (n : Int) (v : Value) (c a : Int) (l : List Fl) (w : World) (h : Fls w v l) (hn : n ≤ 9223372036854775807) :
    Calls Try.prog 24 #[.agg #[.int .i64 n, v, .int .i64 c, .int .i64 a]] w fun e w' => e = .returned (.bool (sdRight ⟨n, l, c, a⟩)) ∧ Hid (Below w.heap.size w w') := by
  have HS := Lib.hid h
  have hm : l.length ≤ 9223372036854775807 := h.1
  obtain ⟨p, cap, rfl, hcap⟩ := fls_shape h
  clear h
  go_enter Try.func24, Try.ntmps24
  go_wp2_with fail
  go_loopw [3, 9] (fun lv i wr => ∃ (k : Nat) (last : Int), k ≤ l.length ∧ i = .int .i64 k ∧ lv = .int .i64 last ∧ 0 ≤ last ∧ flChain n 0 l = flChain n last (l.drop k) ∧ wr.heap[w.heap.size]? = some (.cells #[.int .i64 n, .slice p l.length cap, .int .i64 c, .int .i64 a] 24) ∧ Below w.heap.size w wr) (fun _ i _ => l.length - (intOf i).toNat)
  case atStart => exact ⟨0, 0, by omega, rfl, rfl, by omega, rfl, heap_new _ _ _ rfl, (Below.refl _ _).alloc (Nat.le_refl _) _⟩
  case round =>
    obtain ⟨k, last, hk, rfl, rfl, hl0, hch, hq, hwb⟩ := hrel
    have HC := Lib.hid hch
    have HQ := Lib.hid hq
    have HW := Lib.hid hwb
    clear hch hq hwb
    by_cases hlt : k < l.length
    · obtain ⟨b, o, rfl, _⟩ := HS.out.open (by omega)
      obtain ⟨f, hf⟩ : ∃ f, f = l[k] := ⟨_, rfl⟩
      obtain ⟨c0, c1, c2, c3, c4, c5, c6⟩ := fls_row HS HW.out k hlt f hf
      have HF := Lib.hid hf
      have t1 : (k : Int) < (l.length : Int) := by omega
      have t2 : (0 : Int) ≤ (k : Int) := by omega
      have q0 := cell_of_block HQ.out
      have q1 := frozen_of_block HQ.out
      clear hf
      have hsz : w.heap.size < wr.heap.size := block_lt HQ.out
      go_wp2_with fail
      refine (fits_any f last n _ hl0 hn).mono ?_
      rintro e w1 ⟨rfl, B1⟩
      have HQ1 := Lib.hid (keepb (keepa HQ.out (.cells #[.int .i64 f.seq, .int .i64 f.note.user, .int .i64 f.note.ver, .int .i64 f.note.stat, .int .i64 f.note.cnt, .int .i64 f.at_, .int .i64 f.tries] 40)) B1.out)
      have HX1 := Lib.hid (keepb (heap_new wr (.cells #[.int .i64 f.seq, .int .i64 f.note.user, .int .i64 f.note.ver, .int .i64 f.note.stat, .int .i64 f.note.cnt, .int .i64 f.at_, .int .i64 f.tries] 40) _ rfl) B1.out)
      have HB1 := Lib.hid (chain (HW.out.alloc HW.out.size _) B1.out)
      have d0 := cell_of_block HQ1.out
      have d1 := cell_of_block HX1.out
      clear c0 c1 c2 c3 c4 c5 c6 q0 q1
      cases hfit : flFits f last n
      · have HFalse := Lib.hid (show sdRight ⟨n, l, c, a⟩ = false by
          unfold sdRight
          rw [show flChain n 0 l = false by rw [HC.out]; exact chain_bad hlt (by rw [← HF.out]; exact hfit)]; rfl)
        go_wp2_with fail
        go_ret
        exact ⟨ret_bool HFalse.out.symm, HB1⟩
      · have HC2 := Lib.hid (show flChain n 0 l = flChain n f.seq (l.drop (k + 1)) by
          rw [HC.out, chain_good hlt (by rw [← HF.out]; exact hfit), HF.out])
        have hp := fits_pos hfit
        go_wp2_with fail
        go_roundw
        case rel => exact ⟨k + 1, f.seq, by omega, by go_num, rfl, by omega, HC2.out, HQ1.out, HB1.out⟩
        case measure => simp [intOf]; omega
    · have hke : k = l.length := by omega
      have t1 := dec_f (show ¬ (k : Int) < (l.length : Int) by omega)
      have HT := Lib.hid (show flChain n 0 l = true by
        rw [HC.out, List.drop_of_length_le (by omega)]; rfl)
      have q0 := cell_of_block HQ.out
      have HE := Lib.hid (show sdRight ⟨n, l, c, a⟩ = sdEnds ⟨n, l, c, a⟩ by unfold sdRight; rw [HT.out]; rfl)
      clear hke
      go_wp2_with fail
      all_goals go_ret
      all_goals refine ⟨ret_bool ?_, HW⟩
      all_goals rw [HE.out]
      all_goals (simp_all [sdEnds]; try omega)
end Go.Proofs.Yteilgibfmljoeaa.K

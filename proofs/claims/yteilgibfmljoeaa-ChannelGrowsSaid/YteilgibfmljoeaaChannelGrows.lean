/-
  THE STATEMENT 'Rows.ChannelGrowsSaid': nightjarlaw12.ChannelGrows returns true for every input, and its arguments read afterwards as they read before. No condition.
-/
import Derived.Test.YteilgibfmljoeaaChanRead
import Derived.Test.YteilgibfmljoeaaRows
import Derived.ProofKit
import Derived.OpenShut
import Derived.ShutString
import Derived.ChangeOld
import Derived.Below
set_option linter.unusedVariables false
set_option linter.unusedSimpArgs false
namespace Go.Proofs.Yteilgibfmljoeaa.lawChannelGrows
open Go Go.RowKit Nj K

theorem grow_fold {ack now : Int} : ∀ (l : List Fl) (s : Int), (∀ f ∈ l, told f.seq ack 0 = true ∧ f.tries = 1 ∧ now - f.at_ = 1) → (l ≠ [] ∨ s = 1) → s ≤ 1 → l.foldl (sampleOf ack 0 now) s = 1
  | [], s, _, h, _ => by rcases h with h | h; exact absurd rfl h; exact h
  | f :: l, s, hf, _, hs => by
    obtain ⟨h1, h2, h3⟩ := hf f (by simp)
    rw [List.foldl_cons]
    have e : sampleOf ack 0 now s f = 1 := by unfold sampleOf; simp only [h1, h2]; simp; omega
    rw [e]
    exact grow_fold l 1 (fun g hg => hf g (by simp [hg])) (.inr rfl) (by omega)
theorem fillL_mem {n : Int} {nt : Nt} {now : Int} {i : Nat} {f : Fl} (h : f ∈ fillL n nt now [] i) : n ≤ f.seq ∧ f.seq < n + i ∧ f.tries = 1 ∧ f.at_ = now := by
  simp only [fillL, List.nil_append, List.mem_map, List.mem_range] at h
  obtain ⟨j, hj, rfl⟩ := h
  simp; omega
/-- a round's acknowledging -/
theorem grow_acked {T cw : Nat} {nt : Nt} {now : Int} (h1 : 1 ≤ cw) (h8 : cw ≤ 8) :
    sdAcked ⟨((T : Int) + 1) + cw, fillL ((T : Int) + 1) nt now [] cw, cw, 0⟩ ((T : Int) + cw) 0 (now + 1) = (⟨((T : Int) + 1) + cw, [], min ((cw : Int) + 1) 8, 0⟩, 1) := by
  have hb : ¬ (((T : Int) + cw) < 0 ∨ ((T : Int) + 1) + cw ≤ (T : Int) + cw) := by omega
  have ht : ∀ f ∈ fillL ((T : Int) + 1) nt now [] cw, told f.seq ((T : Int) + cw) 0 = true := fun f hf => by
    have := fillL_mem hf
    unfold told; simp; omega
  have h2 : (fillL ((T : Int) + 1) nt now [] cw).filter (fun f => !told f.seq ((T : Int) + cw) 0) = [] := by
    rw [List.filter_eq_nil_iff]
    intro f hf
    simp [ht f hf]
  have hne : fillL ((T : Int) + 1) nt now [] cw ≠ [] := by
    intro h
    have := fillL_len ((T : Int) + 1) nt now [] cw
    rw [h] at this; simp at this; omega
  have h3 := grow_fold (ack := (T : Int) + cw) (now := now + 1) (fillL ((T : Int) + 1) nt now [] cw) (-1) (fun f hf => ⟨ht f hf, (fillL_mem hf).2.2.1, by have := (fillL_mem hf).2.2.2; omega⟩) (.inl hne) (by omega)
  have h4 := fillL_len ((T : Int) + 1) nt now [] cw
  unfold sdAcked
  rw [if_neg hb]
  simp only [h2, h3, h4, List.length_nil]
  have hg : growF 16 (0 + (((0 + cw : Nat) : Int) - ((0 : Nat) : Int))) (cw : Int) = (0, min ((cw : Int) + 1) 8) := by
    rw [show (0 + (((0 + cw : Nat) : Int) - ((0 : Nat) : Int))) = (cw : Int) by omega]
    unfold growF
    rw [if_pos (Int.le_refl _), Int.sub_self]
    unfold growF
    rw [if_neg (by omega)]
  rw [hg]
/-- what is known of round trips behind i rounds -/
def RtG (q : Rt) (i : Nat) : Prop := (i = 0 ∧ q = rttStart) ∨ (0 < i ∧ RtOk q ∧ q.has = true ∧ q.s = 8)
theorem rtG_step {q : Rt} {i : Nat} (h : RtG q i) : RtG (rttSample q 1) (i + 1) ∧ (rttSample q 1).s = 8 := by
  have hs : (rttSample q 1).s = 8 := by
    rcases h with ⟨_, rfl⟩ | ⟨_, h1, h2, h3⟩
    · decide
    · unfold rttSample
      rw [norm_of_right ((right_iff q).2 h1)]
      unfold rttOut rttS rttCut
      simp only [h2, if_true, h3]
      omega
  refine ⟨.inr ⟨by omega, sample_ok _ _, ?_, hs⟩, hs⟩
  unfold rttSample rttOut; rfl
theorem right_g {T cw : Nat} (h1 : 1 ≤ cw) (h8 : cw ≤ 8) (hT : T ≤ 1000) : sdRight ⟨(T : Int) + 1, [], cw, 0⟩ = true := by
  simp only [sdRight, sdEnds, flChain, Bool.and_eq_true, decide_eq_true_eq, List.length_nil]; simp; omega
theorem room_g {T cw : Nat} (h1 : 1 ≤ cw) (h8 : cw ≤ 8) (hT : T ≤ 1000) : sdRoom ⟨(T : Int) + 1, [], cw, 0⟩ = cw := by
  unfold sdRoom sdSpan; simp only [List.length_nil]; omega

set_option maxRecDepth 100000 in
set_option maxHeartbeats 4000000 in
theorem walk (rounds now : Int) (nt : Nt) (w : World) (_ : (Lit.int .i64 rounds).wf = true) (_ : (Lit.int .i64 now).wf = true) :
    Calls Try.prog 5 #[.int .i64 rounds, .int .i64 now, .agg #[.int .i64 nt.user, .int .i64 nt.ver, .int .i64 nt.stat, .int .i64 nt.cnt]] w fun e w' => e = .returned (.bool true) ∧ Below w.heap.size w w' := by
  by_cases hbad : rounds < 0 ∨ 50 < rounds ∨ now < 0 ∨ 1073741824 < now
  · have HBad := Lib.hid hbad
    clear hbad
    go_enter Try.func5, Try.ntmps5
    go_upto_region 1 with fail
    refine gen_wp (fun w1 => Hid (w1.heap[w.heap.size]? = some (.cells #[.int .i64 nt.user, .int .i64 nt.ver, .int .i64 nt.stat, .int .i64 nt.cnt] 38)) ∧ Hid (Below w.heap.size w w1) ∧ True) ⟨Lib.hid (by first | (simp [World.setCell, Array.getElem?_modify]; done) | (simp [World.setCell, Array.getElem?_modify]; omega) | ((repeat (first | (with_reducible exact heap_new _ _ _ (by first | rfl | (simp; done))) | (with_reducible refine keepa ?_ _) | (simp [World.setCell, Array.getElem?_modify]; done))); done)), Lib.hid (by repeat (first | (with_reducible exact Below.refl _ _) | (with_reducible refine bel_set (by first | omega | (simp; done) | (simp; omega)) ?_) | (with_reducible refine bel_alloc (by first | omega | (simp; done) | (simp; omega)) ?_) | (with_reducible refine bel_drew ?_) | (with_reducible refine bel_drewN ?_ _))), trivial⟩ ?_
    rintro w1 ⟨A1, BA, -⟩
    have c_A1 := cell_of_block A1.out
    have f_A1 := frozen_of_block A1.out
    go_wp2_with fail
    refine (small12_any _).mono ?_; rintro e w2 ⟨rfl, B2⟩
    replace A1 := Lib.hid (keepb A1.out B2.out)
    replace c_A1 := cell_of_block A1.out
    replace f_A1 := frozen_of_block A1.out
    replace BA := Lib.hid (chain BA.out B2.out)
    clear B2
    go_wp2_with fail
    all_goals first
      | (go_ret; exact ⟨rfl, BA.out⟩)
      | (exfalso; have := HBad.out; omega)
  · obtain ⟨e1, e2, e3, e4⟩ : 0 ≤ rounds ∧ rounds ≤ 50 ∧ 0 ≤ now ∧ now ≤ 1073741824 := by omega
    clear hbad
    obtain ⟨R, hR⟩ : ∃ R : Nat, rounds = R := ⟨rounds.toNat, by omega⟩
    subst hR
    have hR50 : R ≤ 50 := by omega
    go_enter Try.func5, Try.ntmps5
    go_upto_region 1 with fail
    refine gen_wp (fun w1 => Hid (w1.heap[w.heap.size]? = some (.cells #[.int .i64 nt.user, .int .i64 nt.ver, .int .i64 nt.stat, .int .i64 nt.cnt] 38)) ∧ Hid (Below w.heap.size w w1) ∧ True) ⟨Lib.hid (by first | (simp [World.setCell, Array.getElem?_modify]; done) | (simp [World.setCell, Array.getElem?_modify]; omega) | ((repeat (first | (with_reducible exact heap_new _ _ _ (by first | rfl | (simp; done))) | (with_reducible refine keepa ?_ _) | (simp [World.setCell, Array.getElem?_modify]; done))); done)), Lib.hid (by repeat (first | (with_reducible exact Below.refl _ _) | (with_reducible refine bel_set (by first | omega | (simp; done) | (simp; omega)) ?_) | (with_reducible refine bel_alloc (by first | omega | (simp; done) | (simp; omega)) ?_) | (with_reducible refine bel_drew ?_) | (with_reducible refine bel_drewN ?_ _))), trivial⟩ ?_
    rintro w1 ⟨A1, BA, -⟩
    have c_A1 := cell_of_block A1.out
    have f_A1 := frozen_of_block A1.out
    go_wp2_with fail
    refine (small12_any _).mono ?_; rintro e w2 ⟨rfl, B2⟩
    replace A1 := Lib.hid (keepb A1.out B2.out)
    replace c_A1 := cell_of_block A1.out
    replace f_A1 := frozen_of_block A1.out
    replace BA := Lib.hid (chain BA.out B2.out)
    clear B2
    go_wp2_with fail
    refine (cstart_any _).mono ?_; rintro e w3 ⟨rfl, B3⟩
    replace A1 := Lib.hid (keepb A1.out B3.out)
    replace c_A1 := cell_of_block A1.out
    replace f_A1 := frozen_of_block A1.out
    replace BA := Lib.hid (chain BA.out B3.out)
    clear B3
    have hsz3 : w.heap.size < w3.heap.size := block_lt A1.out
    go_upto_region 6 with fail
    refine gen_wp (fun w4 => Hid (Below w3.heap.size w3 w4) ∧ Hid (w4.heap[w3.heap.size]? = some (.cells #[.int .i64 1, .slice none 0 0, .int .i64 1, .int .i64 0, .int .i64 0, .int .i64 0, .int .i64 8, .int .i64 0, .bool false] 28)) ∧ True) ⟨Lib.hid (by repeat (first | (with_reducible exact Below.refl _ _) | (with_reducible refine bel_set (by first | omega | (simp; done) | (simp; omega)) ?_) | (with_reducible refine bel_alloc (by first | omega | (simp; done) | (simp; omega)) ?_) | (with_reducible refine bel_drew ?_) | (with_reducible refine bel_drewN ?_ _))), Lib.hid (by first | (simp [World.setCell, Array.getElem?_modify, A1.out]; done) | (simp [World.setCell, Array.getElem?_modify, A1.out]; omega) | ((repeat (first | (with_reducible exact A1.out) | (with_reducible exact heap_new _ _ _ (by first | rfl | (simp; done))) | (with_reducible refine keepa ?_ _) | (simp [World.setCell, Array.getElem?_modify, A1.out]; done))); done)), trivial⟩ ?_
    clear c_A1 f_A1
    rintro w4 ⟨N, A8, -⟩
    have c_A8 := cell_of_block A8.out
    have f_A8 := frozen_of_block A8.out
    replace A1 := Lib.hid (keepb A1.out N.out)
    replace c_A1 := cell_of_block A1.out
    replace f_A1 := frozen_of_block A1.out
    replace BA := Lib.hid (chain BA.out N.out)
    clear N
    go_wp2_with fail
    go_loopw [9, 10] (fun sv iv wr => ∃ (i T cw : Nat) (q : Rt) (p : Option Addr) (cap : Nat), i ≤ R ∧ iv = .int .i64 i ∧ sv = .int .i64 T ∧ T ≤ 8 * i ∧ cw = min (1 + i) 8 ∧ RtG q i ∧ Fls wr (.slice p 0 cap) [] ∧
      wr.heap[w3.heap.size]? = some (.cells #[.int .i64 ((T : Int) + 1), .slice p 0 cap, .int .i64 (cw : Int), .int .i64 0, .int .i64 q.s, .int .i64 q.v, .int .i64 q.rto, .int .i64 q.fails, .bool q.has] 28) ∧ wr.heap[w.heap.size]? = some (.cells #[.int .i64 nt.user, .int .i64 nt.ver, .int .i64 nt.stat, .int .i64 nt.cnt] 38) ∧ Below w.heap.size w wr) (fun _ i _ => R - (intOf i).toNat)
    case atStart => exact ⟨0, 0, 1, rttStart, none, 0, by omega, rfl, rfl, by omega, rfl, .inl ⟨rfl, rfl⟩, sl_nil 7 _, A8.out, A1.out, BA.out⟩
    case round =>
      obtain ⟨i, T, cw, q, p, cap, hi, rfl, rfl, hT, hcw, hq, hf, h8, h1, hwb⟩ := hrel
      clear c_A1 f_A1 c_A8 f_A8 A1 A8 BA
      have A1 := Lib.hid h1
      have A8 := Lib.hid h8
      have BA := Lib.hid hwb
      have FS := Lib.hid hf
      have HQ := Lib.hid hq
      have cw1 : 1 ≤ cw := by omega
      have cw8 : cw ≤ 8 := by omega
      have HCW := Lib.hid hcw
      clear h1 h8 hwb hf hq hcw
      have c_A1 := cell_of_block A1.out
      have f_A1 := frozen_of_block A1.out
      have c_A8 := cell_of_block A8.out
      have f_A8 := frozen_of_block A8.out
      by_cases hlt : i < R
      · have t1 : (i : Int) < (R : Int) := by omega
        have HRi := Lib.hid (right_g (T := T) cw1 cw8 (by omega))
        have HRo := Lib.hid (room_g (T := T) cw1 cw8 (by omega))
        have gcw := int_rule (show (if (8 : Int) < 1 + (i : Int) then 8 else 1 + (i : Int)) = (cw : Int) by have := HCW.out; omega)
        go_wp2_with fail
        refine (croom_any ((T : Int) + 1) _ (cw : Int) 0 q [] (cw : Int) _ FS.out HRi.out HRo.out).mono ?_; rintro e w5 ⟨rfl, B5⟩
        replace A1 := Lib.hid (keepb A1.out B5.out)
        replace c_A1 := cell_of_block A1.out
        replace f_A1 := frozen_of_block A1.out
        replace A8 := Lib.hid (keepb A8.out B5.out)
        replace c_A8 := cell_of_block A8.out
        replace f_A8 := frozen_of_block A8.out
        replace BA := Lib.hid (chain BA.out B5.out)
        replace FS := fls_keep FS B5
        clear B5
        go_wp2_with fail
        go_loopw [9, 12] (fun sv kv wq => ∃ (k : Nat) (p' : Option Addr) (cap' : Nat), k ≤ cw ∧ kv = .int .i64 k ∧ sv = .int .i64 ((T + k : Nat) : Int) ∧ Fls wq (.slice p' k cap') (fillL ((T : Int) + 1) nt (now + i) [] k) ∧
          wq.heap[w3.heap.size]? = some (.cells #[.int .i64 ((T : Int) + 1 + k), .slice p' k cap', .int .i64 (cw : Int), .int .i64 0, .int .i64 q.s, .int .i64 q.v, .int .i64 q.rto, .int .i64 q.fails, .bool q.has] 28) ∧ wq.heap[w.heap.size]? = some (.cells #[.int .i64 nt.user, .int .i64 nt.ver, .int .i64 nt.stat, .int .i64 nt.cnt] 38) ∧ Below w.heap.size w wq) (fun _ k _ => cw - (intOf k).toNat)
        case atStart => exact ⟨0, p, cap, by omega, rfl, by simp, by simpa [fillL_zero] using FS.out, by simpa using A8.out, A1.out, BA.out⟩
        case round =>
          obtain ⟨k, p', cap', hk, rfl, rfl, hf, h8, h1, hwb⟩ := hrel
          clear c_A1 f_A1 c_A8 f_A8 A1 A8 BA FS
          have A1 := Lib.hid h1
          have A8 := Lib.hid h8
          have BA := Lib.hid hwb
          have FS := Lib.hid hf
          clear h1 h8 hwb hf
          have c_A1 := cell_of_block A1.out
          have f_A1 := frozen_of_block A1.out
          have c_A8 := cell_of_block A8.out
          have f_A8 := frozen_of_block A8.out
          have HRk := Lib.hid (fill_right (nt := nt) (now := now + i) HRi.out HRo.out (by omega) (by omega) k hk)
          have HRm := Lib.hid (fill_room (nt := nt) (now := now + i) HRo.out hk)
          by_cases hkt : k < cw
          · have t2 : (k : Int) < (cw : Int) := by omega
            have HPu := Lib.hid (show sdPush ⟨(T : Int) + 1 + k, fillL ((T : Int) + 1) nt (now + i) [] k, cw, 0⟩ nt (now + i) = (⟨(T : Int) + 1 + ((k + 1 : Nat) : Int), fillL ((T : Int) + 1) nt (now + i) [] (k + 1), cw, 0⟩, ⟨(T : Int) + 1 + k, nt, now + i, 1⟩, true) by
              unfold sdPush
              rw [HRm.out, if_neg (by omega), fillL_succ]
              simp [Int.add_assoc])
            have HSZ := Lib.hid (block_lt A8.out)
            go_wp2_with fail
            refine (cpush_any ((T : Int) + 1 + k) _ (cw : Int) 0 q (fillL ((T : Int) + 1) nt (now + i) [] k) nt (now + i) _ FS.out HRk.out _ _ _ HPu.out).mono ?_; rintro e w6 ⟨p6, cap6, rfl, O6, B6⟩
            simp only [fillL_len, List.length_nil, Nat.zero_add] at O6 ⊢
            replace A1 := Lib.hid (keepb A1.out B6.out)
            replace c_A1 := cell_of_block A1.out
            replace f_A1 := frozen_of_block A1.out
            replace A8 := Lib.hid (keepb A8.out B6.out)
            replace c_A8 := cell_of_block A8.out
            replace f_A8 := frozen_of_block A8.out
            replace BA := Lib.hid (chain BA.out B6.out)
            have hsr := HSZ.out
            have hs6 : w3.heap.size < w6.heap.size := by have := B6.out.size; omega
            have hn4 : w3.heap.size ≠ w6.heap.size := by omega
            go_upto_region 16 with fail
            refine gen_wp (fun w7 => Hid (Below w6.heap.size w6 w7) ∧ Hid (w7.heap[w6.heap.size]? = some (.cells #[.int .i64 ((T : Int) + 1 + ((k : Int) + 1)), .slice p6 (k + 1) cap6, .int .i64 (cw : Int), .int .i64 0, .int .i64 q.s, .int .i64 q.v, .int .i64 q.rto, .int .i64 q.fails, .bool q.has] 28)) ∧ Hid (w7.heap[(w6.heap.size + 1)]? = some (.cells #[.int .i64 ((T : Int) + 1 + k), .int .i64 nt.user, .int .i64 nt.ver, .int .i64 nt.stat, .int .i64 nt.cnt, .int .i64 (now + i), .int .i64 1] 40)) ∧ Hid (Own 40 7 wr.heap.size w7 (.slice p6 (k + 1) cap6) (k + 1) (flat Fl.cells (fillL ((T : Int) + 1) nt (now + i) [] (k + 1)))) ∧ True) ⟨Lib.hid (by repeat (first | (with_reducible exact Below.refl _ _) | (with_reducible refine bel_set (by first | omega | (simp; done) | (simp; omega)) ?_) | (with_reducible refine bel_alloc (by first | omega | (simp; done) | (simp; omega)) ?_) | (with_reducible refine bel_drew ?_) | (with_reducible refine bel_drewN ?_ _))), Lib.hid (by first | (simp [World.setCell, Array.getElem?_modify, A1.out, A8.out]; done) | (simp [World.setCell, Array.getElem?_modify, A1.out, A8.out]; omega) | ((repeat (first | (with_reducible exact A1.out) | (with_reducible exact A8.out) | (with_reducible exact heap_new _ _ _ (by first | rfl | (simp; done))) | (with_reducible refine keepa ?_ _) | (simp [World.setCell, Array.getElem?_modify, A1.out, A8.out]; done))); done)), Lib.hid (by first | (simp [World.setCell, Array.getElem?_modify, A1.out, A8.out]; done) | (simp [World.setCell, Array.getElem?_modify, A1.out, A8.out]; omega) | ((repeat (first | (with_reducible exact A1.out) | (with_reducible exact A8.out) | (with_reducible exact heap_new _ _ _ (by first | rfl | (simp; done))) | (with_reducible refine keepa ?_ _) | (simp [World.setCell, Array.getElem?_modify, A1.out, A8.out]; done))); done)), Lib.hid (by repeat (first | (with_reducible exact O6.out) | (with_reducible refine Own.set ?_ _ _ (by first | omega | (simp; done) | (simp; omega))) | (with_reducible refine Own.alloc ?_ _) | (with_reducible refine Own.drew ?_) | (with_reducible refine Own.drewN ?_ _))), trivial⟩ ?_
            clear c_A1 f_A1 c_A8 f_A8
            rintro w7 ⟨N, A13, A14, O7, -⟩
            have c_A13 := cell_of_block A13.out
            have f_A13 := frozen_of_block A13.out
            have c_A14 := cell_of_block A14.out
            have f_A14 := frozen_of_block A14.out
            replace A1 := Lib.hid (keepb A1.out N.out)
            replace c_A1 := cell_of_block A1.out
            replace f_A1 := frozen_of_block A1.out
            replace A8 := Lib.hid (keepb A8.out N.out)
            replace c_A8 := cell_of_block A8.out
            replace f_A8 := frozen_of_block A8.out
            replace BA := Lib.hid (chain BA.out N.out)
            clear N O6
            have t3 : ((T : Int) + 1 + (k : Int) != (T : Int) + (k : Int) + 1) = false := by simp; omega
            have m1 : w.heap.size ≠ w3.heap.size := by omega
            go_upto_region 14 with fail
            refine gen_wp (fun w8 => Hid (w8.heap[w.heap.size]? = some (.cells #[.int .i64 nt.user, .int .i64 nt.ver, .int .i64 nt.stat, .int .i64 nt.cnt] 38)) ∧ Hid (w8.heap[w3.heap.size]? = some (.cells #[.int .i64 ((T : Int) + 1 + ((k : Int) + 1)), .slice p6 (k + 1) cap6, .int .i64 (cw : Int), .int .i64 0, .int .i64 q.s, .int .i64 q.v, .int .i64 q.rto, .int .i64 q.fails, .bool q.has] 28)) ∧ Hid (Below w.heap.size w w8) ∧ Hid (Own 40 7 wr.heap.size w8 (.slice p6 (k + 1) cap6) (k + 1) (flat Fl.cells (fillL ((T : Int) + 1) nt (now + i) [] (k + 1)))) ∧ True) ⟨Lib.hid (by first | (simp [World.setCell, Array.getElem?_modify, A1.out, A8.out, A13.out, A14.out, m1, m1.symm]; done) | (simp [World.setCell, Array.getElem?_modify, A1.out, A8.out, A13.out, A14.out, m1, m1.symm]; omega) | ((repeat (first | (with_reducible exact A1.out) | (with_reducible exact A8.out) | (with_reducible exact A13.out) | (with_reducible exact A14.out) | (with_reducible exact heap_new _ _ _ (by first | rfl | (simp; done))) | (with_reducible refine keepa ?_ _) | (simp [World.setCell, Array.getElem?_modify, A1.out, A8.out, A13.out, A14.out, m1, m1.symm]; done))); done)), Lib.hid (by first | (simp [World.setCell, Array.getElem?_modify, A1.out, A8.out, A13.out, A14.out, m1, m1.symm]; done) | (simp [World.setCell, Array.getElem?_modify, A1.out, A8.out, A13.out, A14.out, m1, m1.symm]; omega) | ((repeat (first | (with_reducible exact A1.out) | (with_reducible exact A8.out) | (with_reducible exact A13.out) | (with_reducible exact A14.out) | (with_reducible exact heap_new _ _ _ (by first | rfl | (simp; done))) | (with_reducible refine keepa ?_ _) | (simp [World.setCell, Array.getElem?_modify, A1.out, A8.out, A13.out, A14.out, m1, m1.symm]; done))); done)), Lib.hid (by have hbsz := Below.size (BA.out); repeat (first | (with_reducible exact BA.out) | (with_reducible refine bel_set (by first | omega | (simp; done) | (simp; omega)) ?_) | (with_reducible refine bel_alloc (by first | omega | (simp; done) | (simp; omega)) ?_) | (with_reducible refine bel_drew ?_) | (with_reducible refine bel_drewN ?_ _))), Lib.hid (by repeat (first | (with_reducible exact O7.out) | (with_reducible refine Own.set ?_ _ _ (by first | omega | (simp; done) | (simp; omega))) | (with_reducible refine Own.alloc ?_ _) | (with_reducible refine Own.drew ?_) | (with_reducible refine Own.drewN ?_ _))), trivial⟩ ?_
            clear c_A1 f_A1 c_A8 f_A8 c_A13 f_A13 c_A14 f_A14
            rintro w8 ⟨A1, A8, BA, O8, -⟩
            have c_A1 := cell_of_block A1.out
            have f_A1 := frozen_of_block A1.out
            have c_A8 := cell_of_block A8.out
            have f_A8 := frozen_of_block A8.out
            go_wp2_with fail
            go_roundw
            case rel => exact ⟨k + 1, p6, cap6, by omega, by go_num, by simp [Int.add_assoc], by unfold Fls; rw [fillL_len]; simpa using O8.out.sl, by simpa using A8.out, A1.out, BA.out⟩
            case measure => simp [intOf]; omega
          · obtain rfl : k = cw := by omega
            have t2 : decide ((k : Int) < (k : Int)) = false := by simp
            obtain ⟨cw', hcw'⟩ : ∃ cw', cw' = min (k + 1) 8 := ⟨_, rfl⟩
            obtain ⟨q', hq'⟩ : ∃ q', q' = rttSample q 1 := ⟨_, rfl⟩
            obtain ⟨hg1, hg2⟩ := rtG_step HQ.out
            rw [← hq'] at hg1 hg2
            have HG1 := Lib.hid hg1
            have t5 : (q'.s != 8) = false := by simpa using hg2
            have HAk := Lib.hid (show chAck ⟨⟨(T : Int) + 1 + k, fillL ((T : Int) + 1) nt (now + i) [] k, k, 0⟩, q⟩ ((T : Int) + k) 0 (now + i + 1) = ⟨⟨(T : Int) + 1 + k, [], (cw' : Int), 0⟩, q'⟩ by
              unfold chAck
              simp only [grow_acked cw1 cw8]
              rw [hq', hcw', show ((min (k + 1) 8 : Nat) : Int) = min ((k : Int) + 1) 8 by omega]
              simp)
            have HCW' := Lib.hid hcw'
            clear hg1 hg2 hq' hcw'
            have hsr : w3.heap.size < wr.heap.size := block_lt A8.out
            go_wp2_with fail
            refine (cack_any ((T : Int) + 1 + k) _ (k : Int) 0 q (fillL ((T : Int) + 1) nt (now + i) [] k) ((T : Int) + k) 0 (now + i + 1) _ FS.out HRk.out ⟨by omega, by omega⟩ _ HAk.out).mono ?_; rintro e w6 ⟨p6, cap6, rfl, -, B6⟩
            simp only [List.length_nil]
            replace A1 := Lib.hid (keepb A1.out B6.out)
            replace c_A1 := cell_of_block A1.out
            replace f_A1 := frozen_of_block A1.out
            replace A8 := Lib.hid (keepb A8.out B6.out)
            replace c_A8 := cell_of_block A8.out
            replace f_A8 := frozen_of_block A8.out
            replace BA := Lib.hid (chain BA.out B6.out)
            have m1 : w.heap.size ≠ w3.heap.size := by omega
            go_upto_region 21 with fail
            refine gen_wp (fun w7 => Hid (w7.heap[w.heap.size]? = some (.cells #[.int .i64 nt.user, .int .i64 nt.ver, .int .i64 nt.stat, .int .i64 nt.cnt] 38)) ∧ Hid (w7.heap[w3.heap.size]? = some (.cells #[.int .i64 ((T : Int) + 1 + k), .slice p6 0 cap6, .int .i64 (cw' : Int), .int .i64 0, .int .i64 q'.s, .int .i64 q'.v, .int .i64 q'.rto, .int .i64 q'.fails, .bool q'.has] 28)) ∧ Hid (Below w.heap.size w w7) ∧ True) ⟨Lib.hid (by first | (simp [World.setCell, Array.getElem?_modify, A1.out, A8.out, m1, m1.symm]; done) | (simp [World.setCell, Array.getElem?_modify, A1.out, A8.out, m1, m1.symm]; omega) | ((repeat (first | (with_reducible exact A1.out) | (with_reducible exact A8.out) | (with_reducible exact heap_new _ _ _ (by first | rfl | (simp; done))) | (with_reducible refine keepa ?_ _) | (simp [World.setCell, Array.getElem?_modify, A1.out, A8.out, m1, m1.symm]; done))); done)), Lib.hid (by first | (simp [World.setCell, Array.getElem?_modify, A1.out, A8.out, m1, m1.symm]; done) | (simp [World.setCell, Array.getElem?_modify, A1.out, A8.out, m1, m1.symm]; omega) | ((repeat (first | (with_reducible exact A1.out) | (with_reducible exact A8.out) | (with_reducible exact heap_new _ _ _ (by first | rfl | (simp; done))) | (with_reducible refine keepa ?_ _) | (simp [World.setCell, Array.getElem?_modify, A1.out, A8.out, m1, m1.symm]; done))); done)), Lib.hid (by have hbsz := Below.size (BA.out); repeat (first | (with_reducible exact BA.out) | (with_reducible refine bel_set (by first | omega | (simp; done) | (simp; omega)) ?_) | (with_reducible refine bel_alloc (by first | omega | (simp; done) | (simp; omega)) ?_) | (with_reducible refine bel_drew ?_) | (with_reducible refine bel_drewN ?_ _))), trivial⟩ ?_
            clear c_A1 f_A1 c_A8 f_A8
            rintro w7 ⟨A1, A8, BA, -⟩
            have c_A1 := cell_of_block A1.out
            have f_A1 := frozen_of_block A1.out
            have c_A8 := cell_of_block A8.out
            have f_A8 := frozen_of_block A8.out
            go_wp2_with fail
            refine (cidle_at ((T : Int) + 1 + k) _ (cw' : Int) 0 q' [] true _ (by exact ⟨by decide, rfl, _, _, rfl, Nat.zero_le _, fun h => by cases h⟩) (by decide)).mono ?_; rintro e w8 ⟨rfl, B8⟩
            replace A1 := Lib.hid (keepb A1.out B8.out)
            replace c_A1 := cell_of_block A1.out
            replace f_A1 := frozen_of_block A1.out
            replace A8 := Lib.hid (keepb A8.out B8.out)
            replace c_A8 := cell_of_block A8.out
            replace f_A8 := frozen_of_block A8.out
            replace BA := Lib.hid (chain BA.out B8.out)
            go_wp2_with fail
            go_roundw
            case rel => exact ⟨i + 1, T + k, cw', q', p6, cap6, by omega, by go_num, by simp, by omega, by have := HCW'.out; have := HCW.out; omega, HG1.out, ⟨by decide, rfl, _, _, rfl, Nat.zero_le _, fun h => by cases h⟩, by have := A8.out; simpa [Int.add_assoc, Int.add_comm, Int.add_left_comm] using this, A1.out, BA.out⟩
            case measure => simp [intOf]; omega
      · obtain rfl : i = R := by omega
        have t1 : decide ((i : Int) < (i : Int)) = false := by simp
        have HRi := Lib.hid (right_g (T := T) cw1 cw8 (by omega))
        have HRo := Lib.hid (room_g (T := T) cw1 cw8 (by omega))
        have gcw := int_rule (show (if (8 : Int) < 1 + (i : Int) then 8 else 1 + (i : Int)) = (cw : Int) by have := HCW.out; omega)
        go_wp2_with fail
        refine (croom_any ((T : Int) + 1) _ (cw : Int) 0 q [] (cw : Int) _ FS.out HRi.out HRo.out).mono ?_; rintro e w5 ⟨rfl, B5⟩
        replace BA := Lib.hid (chain BA.out B5.out)
        go_wp2_with fail
        go_ret
        exact ⟨rfl, BA.out⟩

end Go.Proofs.Yteilgibfmljoeaa.lawChannelGrows
namespace Go.Proofs.Yteilgibfmljoeaa.lawChannelGrows
open Go.ChangeShapes Go.WideShapes Go.RowKit
set_option linter.unusedVariables false
theorem own : ownKnob Try.prog.godebug = none := by kernel_rfl
theorem laidOut : laidOutB Try.prog = true := by kernel_rfl
set_option maxRecDepth 100000 in
theorem lifted (os : Os) (started : os.Started) (H : Type) (enc : TypeId × Value → H) :
    ReturnsInHanded {} Try.checked os 5 .any (Rows.channelGrowsSpec.pre6 enc Try.prog Try.f5 Rows.channelGrowsRow.domain false) (Rows.channelGrowsSpec.post enc Try.prog Try.f5 false true false false) := by
  refine returnsInHanded_of_change (C := Try.checked) own started (by kernel_rfl) Try.func5
    (ChangeSpec.witness6 (enc := enc) (C := Try.checked) false ⟨#[], #[.int .i64 0, .int .i64 0, .agg #[.int .i64 0, .int .i64 0, .int .i64 0, .int .i64 0]], []⟩ 8 (by kernel_rfl) (by kernel_rfl) (by kernel_rfl) (by kernel_rfl)) ?_
  intro W base args ds gs before hval0 hW hcnd _
  have hval : ∀ (j : Nat) t v, Try.f5.params[j]? = some t → args[j]? = some v → Value.okWide Try.prog W .any base t v := hval0
  have hW' := hW
  obtain ⟨p, q, hA0, hV, rfl, hfz, hnd⟩ := hW
  have hA : DataW.TrodAll enc Try.prog W 0 (fun _ => true) true Try.f5.params.toList args.toList ds p := hA0
  rw [Try.params5] at hA hval
  obtain ⟨v0, vs0, d0, ds0, p0, q0, hargs, rfl, rfl, h0, r0⟩ := trodAll_cons hA
  obtain ⟨v1, vs1, d1, ds1, p1, q1, rfl, rfl, rfl, h1, r1⟩ := trodAll_cons r0
  obtain ⟨v2, vs2, d2, ds2, p2, q2, rfl, rfl, rfl, h2, r2⟩ := trodAll_cons r1
  obtain ⟨rfl, rfl, rfl⟩ := trodAll_nil r2
  obtain rfl : args = #[v0, v1, v2] := by cases args; simp_all
  obtain ⟨rfl, rfl⟩ := trodVars_none hV
  obtain ⟨a0, rfl, rfl, rfl, w0⟩ := open_int Try.underlying3 (hval 0 3 v0 rfl rfl) h0
  obtain ⟨a1, rfl, rfl, rfl, w1⟩ := open_int Try.underlying3 (hval 1 3 v1 rfl rfl) h1
  obtain ⟨z2, rfl⟩ := K.open_note_arg (hval 2 38 v2 rfl rfl) h2
  have k2 := h2
  have lt2 : ∀ x ∈ p2, x.block < W.heap.size := by obtain ⟨m, hm⟩ := k2; exact DataW.trod_lt m _ _ _ hm
  clear hA0 hval0
  refine (walk a0 a1 z2 W w0 w1).mono fun e W' ⟨he, bel⟩ => ?_
  subst he
  exact ⟨_, rfl, _, _, _, [], _, [], hW', trodAll_mk1 (shut_bool Try.underlying4 _), (trodAll_cons_mk (shut_int Try.underlying3 w0) (trodAll_cons_mk (shut_int Try.underlying3 w1) (trodAll_cons_mk (Below.trod laidOut (by kernel_rfl) (of_decide_eq_true (by kernel_rfl)) k2 bel lt2) trodAll_mk0))), rfl, bel.frame _, fun h => by cases h⟩
theorem over : Rows.channelGrowsRow.holds Try.pinned (OpenSpec.ofChange Rows.channelGrowsSpec) :=
  OpenClaim.holds_of_wide 5 Try.f5 rfl rfl rfl rfl rfl rfl rfl ⟨rfl, rfl, rfl, rfl, rfl⟩ rfl rfl rfl rfl rfl (by kernel_rfl) Try.func5 (by kernel_rfl)
    (of_decide_eq_true (by kernel_rfl)) (by unfold Func.isWrapper; first | (rw [if_pos (by decide +kernel)]; kernel_rfl) | (rw [if_neg (by decide +kernel)]; exact ⟨rfl, rfl⟩))
    (fun os started H enc _ => lifted os started H enc)
/-- THE STATEMENT -/
theorem proved : Rows.ChannelGrowsSaid := over
end Go.Proofs.Yteilgibfmljoeaa.lawChannelGrows
#print axioms Go.Proofs.Yteilgibfmljoeaa.lawChannelGrows.proved

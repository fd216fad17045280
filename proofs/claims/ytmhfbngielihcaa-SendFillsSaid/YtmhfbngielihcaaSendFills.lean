/-
  THE STATEMENT 'Rows.SendFillsSaid': nightjarlaw11.SendFills returns true for every input, and its arguments read afterwards as they read before. No condition.
-/
import Derived.Test.YtmhfbngielihcaaSendRead
import Derived.Test.YtmhfbngielihcaaSendPlain
import Derived.Test.YtmhfbngielihcaaRows
import Derived.ProofKit
import Derived.OpenShut
import Derived.ShutString
import Derived.ChangeOld
import Derived.Below
set_option linter.unusedVariables false
set_option linter.unusedSimpArgs false
namespace Go.Proofs.Ytmhfbngielihcaa.lawSendFills
open Go Go.RowKit Nj K

theorem acked_all {s : Sd} {now : Int} (h : sdRight s = true) : ∃ g m, sdAcked s (s.next - 1) 0 now = (⟨s.next, [], g, m⟩, (sdAcked s (s.next - 1) 0 now).2) := by
  have R := rightSd h
  have h1 : ¬ (s.next - 1 < 0 ∨ s.next ≤ s.next - 1) := by have := R.n0; omega
  have h2 : s.fl.filter (fun f => !told f.seq (s.next - 1) 0) = [] := by
    rw [List.filter_eq_nil_iff]
    intro f hf
    have := R.fl f hf
    have e : told f.seq (s.next - 1) 0 = true := by unfold told; simp; omega
    simp [e]
  unfold sdAcked
  rw [if_neg h1]
  simp only [h2]
  exact ⟨_, _, rfl⟩


set_option maxRecDepth 100000 in
set_option maxHeartbeats 4000000 in
theorem walk (n : Int) (v : Value) (c a : Int) (l : List Fl) (nt : Nt) (now : Int) (w : World) (h : Fls w v l) (wn : (Lit.int .i64 n).wf = true) (_ : (Lit.int .i64 now).wf = true) :
    Calls Try.prog 7 #[.agg #[.int .i64 n, v, .int .i64 c, .int .i64 a], .agg #[.int .i64 nt.user, .int .i64 nt.ver, .int .i64 nt.stat, .int .i64 nt.cnt], .int .i64 now] w fun e w' => e = .returned (.bool true) ∧ Below w.heap.size w w' := by
  have FS := Lib.hid h
  obtain ⟨hn0, hn1⟩ := wf_i64 wn
  obtain ⟨p, cap, rfl, hcap⟩ := fls_shape h
  clear h wn
  cases hr : sdRight ⟨n, l, c, a⟩ with
  | false =>
    have HR := Lib.hid hr
    clear hr
    go_enter Try.func7, Try.ntmps7
    go_upto_region 1 with fail
    refine gen_wp (fun w1 => Hid (w1.heap[w.heap.size]? = some (.cells #[.int .i64 n, .slice p l.length cap, .int .i64 c, .int .i64 a] 24)) ∧ Hid (w1.heap[(w.heap.size + 1)]? = some (.cells #[.int .i64 nt.user, .int .i64 nt.ver, .int .i64 nt.stat, .int .i64 nt.cnt] 29)) ∧ Hid (Below w.heap.size w w1) ∧ True) ⟨Lib.hid (by first | (simp [World.setCell, Array.getElem?_modify]; done) | (simp [World.setCell, Array.getElem?_modify]; omega) | ((repeat (first | (with_reducible exact heap_new _ _ _ (by first | rfl | (simp; done))) | (with_reducible refine keepa ?_ _) | (simp [World.setCell, Array.getElem?_modify]; done))); done)), Lib.hid (by first | (simp [World.setCell, Array.getElem?_modify]; done) | (simp [World.setCell, Array.getElem?_modify]; omega) | ((repeat (first | (with_reducible exact heap_new _ _ _ (by first | rfl | (simp; done))) | (with_reducible refine keepa ?_ _) | (simp [World.setCell, Array.getElem?_modify]; done))); done)), Lib.hid (by repeat (first | (with_reducible exact Below.refl _ _) | (with_reducible refine bel_set (by first | omega | (simp; done) | (simp; omega)) ?_) | (with_reducible refine bel_alloc (by first | omega | (simp; done) | (simp; omega)) ?_) | (with_reducible refine bel_drew ?_) | (with_reducible refine bel_drewN ?_ _))), trivial⟩ ?_
    rintro w1 ⟨A1, A2, BA, -⟩
    have c_A1 := cell_of_block A1.out
    have f_A1 := frozen_of_block A1.out
    have c_A2 := cell_of_block A2.out
    have f_A2 := frozen_of_block A2.out
    replace FS := fls_keep FS BA
    go_wp2_with fail
    refine (small11_any _).mono ?_; rintro e w2 ⟨rfl, B2⟩
    replace A1 := Lib.hid (keepb A1.out B2.out)
    replace c_A1 := cell_of_block A1.out
    replace f_A1 := frozen_of_block A1.out
    replace A2 := Lib.hid (keepb A2.out B2.out)
    replace c_A2 := cell_of_block A2.out
    replace f_A2 := frozen_of_block A2.out
    replace FS := fls_keep FS B2
    replace BA := Lib.hid (chain BA.out B2.out)
    go_wp2_with fail
    refine (sright_at _ _ _ _ _ _ _ FS.out hn1 HR.out).mono ?_; rintro e w3 ⟨rfl, B3⟩
    replace A1 := Lib.hid (keepb A1.out B3.out)
    replace c_A1 := cell_of_block A1.out
    replace f_A1 := frozen_of_block A1.out
    replace A2 := Lib.hid (keepb A2.out B3.out)
    replace c_A2 := cell_of_block A2.out
    replace f_A2 := frozen_of_block A2.out
    replace FS := fls_keep FS B3
    replace BA := Lib.hid (chain BA.out B3.out)
    clear B2 B3
    go_wp2_with fail
    go_ret
    exact ⟨rfl, BA.out⟩
  | true =>
    have HR := Lib.hid hr
    have HP := Lib.hid (rightSd hr)
    clear hr
    by_cases hbad : now < 0 ∨ 1099511627776 < now
    · have HBad := Lib.hid hbad
      clear hbad
      go_enter Try.func7, Try.ntmps7
      go_upto_region 1 with fail
      refine gen_wp (fun w1 => Hid (w1.heap[w.heap.size]? = some (.cells #[.int .i64 n, .slice p l.length cap, .int .i64 c, .int .i64 a] 24)) ∧ Hid (w1.heap[(w.heap.size + 1)]? = some (.cells #[.int .i64 nt.user, .int .i64 nt.ver, .int .i64 nt.stat, .int .i64 nt.cnt] 29)) ∧ Hid (Below w.heap.size w w1) ∧ True) ⟨Lib.hid (by first | (simp [World.setCell, Array.getElem?_modify]; done) | (simp [World.setCell, Array.getElem?_modify]; omega) | ((repeat (first | (with_reducible exact heap_new _ _ _ (by first | rfl | (simp; done))) | (with_reducible refine keepa ?_ _) | (simp [World.setCell, Array.getElem?_modify]; done))); done)), Lib.hid (by first | (simp [World.setCell, Array.getElem?_modify]; done) | (simp [World.setCell, Array.getElem?_modify]; omega) | ((repeat (first | (with_reducible exact heap_new _ _ _ (by first | rfl | (simp; done))) | (with_reducible refine keepa ?_ _) | (simp [World.setCell, Array.getElem?_modify]; done))); done)), Lib.hid (by repeat (first | (with_reducible exact Below.refl _ _) | (with_reducible refine bel_set (by first | omega | (simp; done) | (simp; omega)) ?_) | (with_reducible refine bel_alloc (by first | omega | (simp; done) | (simp; omega)) ?_) | (with_reducible refine bel_drew ?_) | (with_reducible refine bel_drewN ?_ _))), trivial⟩ ?_
      rintro w1 ⟨A1, A2, BA, -⟩
      have c_A1 := cell_of_block A1.out
      have f_A1 := frozen_of_block A1.out
      have c_A2 := cell_of_block A2.out
      have f_A2 := frozen_of_block A2.out
      replace FS := fls_keep FS BA
      go_wp2_with fail
      refine (small11_any _).mono ?_; rintro e w2 ⟨rfl, B2⟩
      replace A1 := Lib.hid (keepb A1.out B2.out)
      replace c_A1 := cell_of_block A1.out
      replace f_A1 := frozen_of_block A1.out
      replace A2 := Lib.hid (keepb A2.out B2.out)
      replace c_A2 := cell_of_block A2.out
      replace f_A2 := frozen_of_block A2.out
      replace FS := fls_keep FS B2
      replace BA := Lib.hid (chain BA.out B2.out)
      go_wp2_with fail
      refine (sright_at _ _ _ _ _ _ _ FS.out hn1 HR.out).mono ?_; rintro e w3 ⟨rfl, B3⟩
      replace A1 := Lib.hid (keepb A1.out B3.out)
      replace c_A1 := cell_of_block A1.out
      replace f_A1 := frozen_of_block A1.out
      replace A2 := Lib.hid (keepb A2.out B3.out)
      replace c_A2 := cell_of_block A2.out
      replace f_A2 := frozen_of_block A2.out
      replace FS := fls_keep FS B3
      replace BA := Lib.hid (chain BA.out B3.out)
      clear B2 B3
      go_wp2_with fail
      all_goals first
        | (go_ret; exact ⟨rfl, BA.out⟩)
        | (exfalso; have := HBad.out; omega)
    · obtain ⟨e1, e2⟩ : 0 ≤ now ∧ now ≤ 1099511627776 := by omega
      clear hbad
      have hl8 : l.length ≤ 8 := HP.out.len
      have hnn : 1 ≤ n := HP.out.n0
      have hnm : n ≤ 1073741824 := HP.out.n1
      obtain ⟨r, hr⟩ : ∃ r : Nat, sdRoom ⟨n, l, c, a⟩ = r := ⟨(sdRoom ⟨n, l, c, a⟩).toNat, by have := (room_bound HP.out).1; omega⟩
      have hr8 : r ≤ 8 := by have := (room_bound HP.out).2; omega
      have HRm := Lib.hid hr
      have HRi := Lib.hid (fun i (hi : i ≤ r) => fill_right (nt := nt) (now := now) HR.out hr e1 e2 i hi)
      have HRo := Lib.hid (fun i (hi : i ≤ r) => fill_room (nt := nt) (now := now) hr hi)
      have hnr : n + r ≤ 1073741824 := (rightSd (HRi.out r (Nat.le_refl _))).n1
      obtain ⟨g4, g2, hack⟩ := acked_all (now := now) (HRi.out r (Nat.le_refl _))
      have HAck := Lib.hid hack
      clear hr hack
      go_enter Try.func7, Try.ntmps7
      go_upto_region 1 with fail
      refine gen_wp (fun w1 => Hid (w1.heap[w.heap.size]? = some (.cells #[.int .i64 n, .slice p l.length cap, .int .i64 c, .int .i64 a] 24)) ∧ Hid (w1.heap[(w.heap.size + 1)]? = some (.cells #[.int .i64 nt.user, .int .i64 nt.ver, .int .i64 nt.stat, .int .i64 nt.cnt] 29)) ∧ Hid (Below w.heap.size w w1) ∧ True) ⟨Lib.hid (by first | (simp [World.setCell, Array.getElem?_modify]; done) | (simp [World.setCell, Array.getElem?_modify]; omega) | ((repeat (first | (with_reducible exact heap_new _ _ _ (by first | rfl | (simp; done))) | (with_reducible refine keepa ?_ _) | (simp [World.setCell, Array.getElem?_modify]; done))); done)), Lib.hid (by first | (simp [World.setCell, Array.getElem?_modify]; done) | (simp [World.setCell, Array.getElem?_modify]; omega) | ((repeat (first | (with_reducible exact heap_new _ _ _ (by first | rfl | (simp; done))) | (with_reducible refine keepa ?_ _) | (simp [World.setCell, Array.getElem?_modify]; done))); done)), Lib.hid (by repeat (first | (with_reducible exact Below.refl _ _) | (with_reducible refine bel_set (by first | omega | (simp; done) | (simp; omega)) ?_) | (with_reducible refine bel_alloc (by first | omega | (simp; done) | (simp; omega)) ?_) | (with_reducible refine bel_drew ?_) | (with_reducible refine bel_drewN ?_ _))), trivial⟩ ?_
      rintro w1 ⟨A1, A2, BA, -⟩
      have c_A1 := cell_of_block A1.out
      have f_A1 := frozen_of_block A1.out
      have c_A2 := cell_of_block A2.out
      have f_A2 := frozen_of_block A2.out
      replace FS := fls_keep FS BA
      go_wp2_with fail
      refine (small11_any _).mono ?_; rintro e w2 ⟨rfl, B2⟩
      replace A1 := Lib.hid (keepb A1.out B2.out)
      replace c_A1 := cell_of_block A1.out
      replace f_A1 := frozen_of_block A1.out
      replace A2 := Lib.hid (keepb A2.out B2.out)
      replace c_A2 := cell_of_block A2.out
      replace f_A2 := frozen_of_block A2.out
      replace FS := fls_keep FS B2
      replace BA := Lib.hid (chain BA.out B2.out)
      go_wp2_with fail
      refine (sright_at _ _ _ _ _ _ _ FS.out hn1 HR.out).mono ?_; rintro e w3 ⟨rfl, B3⟩
      replace A1 := Lib.hid (keepb A1.out B3.out)
      replace c_A1 := cell_of_block A1.out
      replace f_A1 := frozen_of_block A1.out
      replace A2 := Lib.hid (keepb A2.out B3.out)
      replace c_A2 := cell_of_block A2.out
      replace f_A2 := frozen_of_block A2.out
      replace FS := fls_keep FS B3
      replace BA := Lib.hid (chain BA.out B3.out)
      clear B2 B3
      go_wp2_with fail
      refine (sroom_at n _ c a l r _ FS.out HR.out HRm.out).mono ?_; rintro e w4 ⟨rfl, B4⟩
      replace A1 := Lib.hid (keepb A1.out B4.out)
      replace c_A1 := cell_of_block A1.out
      replace f_A1 := frozen_of_block A1.out
      replace A2 := Lib.hid (keepb A2.out B4.out)
      replace c_A2 := cell_of_block A2.out
      replace f_A2 := frozen_of_block A2.out
      replace FS := fls_keep FS B4
      replace BA := Lib.hid (chain BA.out B4.out)
      clear B4
      have hsz4 : w.heap.size + 2 ≤ w4.heap.size := by have := block_lt A2.out; omega
      go_upto_region 6 with fail
      refine gen_wp (fun w5 => Hid (Below w4.heap.size w4 w5) ∧ Hid (w5.heap[w4.heap.size]? = some (.cells #[.int .i64 n, .slice p l.length cap, .int .i64 c, .int .i64 a] 24)) ∧ True) ⟨Lib.hid (by repeat (first | (with_reducible exact Below.refl _ _) | (with_reducible refine bel_set (by first | omega | (simp; done) | (simp; omega)) ?_) | (with_reducible refine bel_alloc (by first | omega | (simp; done) | (simp; omega)) ?_) | (with_reducible refine bel_drew ?_) | (with_reducible refine bel_drewN ?_ _))), Lib.hid (by first | (simp [World.setCell, Array.getElem?_modify, A1.out, A2.out]; done) | (simp [World.setCell, Array.getElem?_modify, A1.out, A2.out]; omega) | ((repeat (first | (with_reducible exact A1.out) | (with_reducible exact A2.out) | (with_reducible exact heap_new _ _ _ (by first | rfl | (simp; done))) | (with_reducible refine keepa ?_ _) | (simp [World.setCell, Array.getElem?_modify, A1.out, A2.out]; done))); done)), trivial⟩ ?_
      clear c_A1 f_A1 c_A2 f_A2
      rintro w5 ⟨N, A9, -⟩
      have c_A9 := cell_of_block A9.out
      have f_A9 := frozen_of_block A9.out
      replace A1 := Lib.hid (keepb A1.out N.out)
      replace c_A1 := cell_of_block A1.out
      replace f_A1 := frozen_of_block A1.out
      replace A2 := Lib.hid (keepb A2.out N.out)
      replace c_A2 := cell_of_block A2.out
      replace f_A2 := frozen_of_block A2.out
      replace FS := fls_keep FS N
      replace BA := Lib.hid (chain BA.out N.out)
      clear N
      go_wp2_with fail
      go_loopw [10] (fun iv wr => ∃ (i : Nat) (p' : Option Addr) (cap' : Nat), i ≤ r ∧ iv = .int .i64 i ∧ wr.heap[w4.heap.size]? = some (.cells #[.int .i64 (n + i), .slice p' (l.length + i) cap', .int .i64 c, .int .i64 a] 24) ∧ Fls wr (.slice p' (l.length + i) cap') (fillL n nt now l i) ∧
        wr.heap[w.heap.size]? = some (.cells #[.int .i64 n, .slice p l.length cap, .int .i64 c, .int .i64 a] 24) ∧ wr.heap[w.heap.size + 1]? = some (.cells #[.int .i64 nt.user, .int .i64 nt.ver, .int .i64 nt.stat, .int .i64 nt.cnt] 29) ∧ Below w.heap.size w wr) (fun i _ => r - (intOf i).toNat)
      case atStart => exact ⟨0, p, cap, by omega, rfl, by simpa using A9.out, by simpa [fillL_zero] using FS.out, A1.out, A2.out, BA.out⟩
      case round =>
        obtain ⟨i, p', cap', hi, rfl, h9, hf, h1, h2, hwb⟩ := hrel
        clear c_A1 f_A1 c_A2 f_A2 c_A9 f_A9 FS A1 A2 A9 BA
        have A1 := Lib.hid h1
        have A2 := Lib.hid h2
        have A9 := Lib.hid h9
        have BA := Lib.hid hwb
        have FS := Lib.hid hf
        clear h1 h2 h9 hwb hf
        have c_A1 := cell_of_block A1.out
        have f_A1 := frozen_of_block A1.out
        have c_A2 := cell_of_block A2.out
        have f_A2 := frozen_of_block A2.out
        have c_A9 := cell_of_block A9.out
        have f_A9 := frozen_of_block A9.out
        by_cases hlt : i < r
        · have t1 : (i : Int) < (r : Int) := by omega
          have HPu := Lib.hid (show sdPush ⟨n + i, fillL n nt now l i, c, a⟩ nt now = (⟨n + ((i + 1 : Nat) : Int), fillL n nt now l (i + 1), c, a⟩, ⟨n + i, nt, now, 1⟩, true) by
            unfold sdPush
            rw [HRo.out i (by omega), if_neg (by omega), fillL_succ]
            simp [Int.add_assoc])
          have HRt := Lib.hid (rightSd (HRi.out i (by omega)))
          have HSZ := Lib.hid (block_lt A9.out)
          go_wp2_with fail
          refine (spush_any (n + i) _ c a (fillL n nt now l i) nt now _ (by exact FS.out) (by omega) ⟨by have := HRt.out.c0; simp only at this; omega, HRt.out.c1⟩ (by rw [fillL_len]; omega) (fun f hf => by have := HRt.out.fl f hf; simp only at this; omega) _ _ _ HPu.out).mono ?_; rintro e w6 ⟨p6, cap6, rfl, O6, B6⟩
          simp only [fillL_len] at O6 ⊢
          replace A1 := Lib.hid (keepb A1.out B6.out)
          replace c_A1 := cell_of_block A1.out
          replace f_A1 := frozen_of_block A1.out
          replace A2 := Lib.hid (keepb A2.out B6.out)
          replace c_A2 := cell_of_block A2.out
          replace f_A2 := frozen_of_block A2.out
          replace A9 := Lib.hid (keepb A9.out B6.out)
          replace c_A9 := cell_of_block A9.out
          replace f_A9 := frozen_of_block A9.out
          replace BA := Lib.hid (chain BA.out B6.out)
          have hsr := HSZ.out
          have hs6 : w4.heap.size < w6.heap.size := by have := B6.out.size; omega
          have hn4 : w4.heap.size ≠ w6.heap.size := by omega
          go_upto_region 10 with fail
          refine gen_wp (fun w7 => Hid (Below w6.heap.size w6 w7) ∧ Hid (w7.heap[w6.heap.size]? = some (.cells #[.int .i64 (n + ((i : Int) + 1)), .slice p6 (l.length + (i + 1)) cap6, .int .i64 c, .int .i64 a] 24)) ∧ Hid (w7.heap[(w6.heap.size + 1)]? = some (.cells #[.int .i64 (n + i), .int .i64 nt.user, .int .i64 nt.ver, .int .i64 nt.stat, .int .i64 nt.cnt, .int .i64 now, .int .i64 1] 34)) ∧ Hid (Own 34 7 wr.heap.size w7 (.slice p6 (l.length + (i + 1)) cap6) (l.length + (i + 1)) (flat Fl.cells (fillL n nt now l (i + 1)))) ∧ True) ⟨Lib.hid (by repeat (first | (with_reducible exact Below.refl _ _) | (with_reducible refine bel_set (by first | omega | (simp; done) | (simp; omega)) ?_) | (with_reducible refine bel_alloc (by first | omega | (simp; done) | (simp; omega)) ?_) | (with_reducible refine bel_drew ?_) | (with_reducible refine bel_drewN ?_ _))), Lib.hid (by first | (simp [World.setCell, Array.getElem?_modify, A1.out, A2.out, A9.out]; done) | (simp [World.setCell, Array.getElem?_modify, A1.out, A2.out, A9.out]; omega) | ((repeat (first | (with_reducible exact A1.out) | (with_reducible exact A2.out) | (with_reducible exact A9.out) | (with_reducible exact heap_new _ _ _ (by first | rfl | (simp; done))) | (with_reducible refine keepa ?_ _) | (simp [World.setCell, Array.getElem?_modify, A1.out, A2.out, A9.out]; done))); done)), Lib.hid (by first | (simp [World.setCell, Array.getElem?_modify, A1.out, A2.out, A9.out]; done) | (simp [World.setCell, Array.getElem?_modify, A1.out, A2.out, A9.out]; omega) | ((repeat (first | (with_reducible exact A1.out) | (with_reducible exact A2.out) | (with_reducible exact A9.out) | (with_reducible exact heap_new _ _ _ (by first | rfl | (simp; done))) | (with_reducible refine keepa ?_ _) | (simp [World.setCell, Array.getElem?_modify, A1.out, A2.out, A9.out]; done))); done)), Lib.hid (by repeat (first | (with_reducible exact O6.out) | (with_reducible refine Own.set ?_ _ _ (by first | omega | (simp; done) | (simp; omega))) | (with_reducible refine Own.alloc ?_ _) | (with_reducible refine Own.drew ?_) | (with_reducible refine Own.drewN ?_ _))), trivial⟩ ?_
          clear c_A1 f_A1 c_A2 f_A2 c_A9 f_A9
          rintro w7 ⟨N, A11, A12, O7, -⟩
          have c_A11 := cell_of_block A11.out
          have f_A11 := frozen_of_block A11.out
          have c_A12 := cell_of_block A12.out
          have f_A12 := frozen_of_block A12.out
          replace A1 := Lib.hid (keepb A1.out N.out)
          replace c_A1 := cell_of_block A1.out
          replace f_A1 := frozen_of_block A1.out
          replace A2 := Lib.hid (keepb A2.out N.out)
          replace c_A2 := cell_of_block A2.out
          replace f_A2 := frozen_of_block A2.out
          replace A9 := Lib.hid (keepb A9.out N.out)
          replace c_A9 := cell_of_block A9.out
          replace f_A9 := frozen_of_block A9.out
          replace BA := Lib.hid (chain BA.out N.out)
          clear N O6
          have t2 : ((n + (i : Int)) != n + (i : Int)) = false := by simp
          have m1 : w.heap.size ≠ w4.heap.size := by omega
          have m2 : w.heap.size + 1 ≠ w4.heap.size := by omega
          go_upto_region 8 with fail
          refine gen_wp (fun w8 => Hid (w8.heap[w.heap.size]? = some (.cells #[.int .i64 n, .slice p l.length cap, .int .i64 c, .int .i64 a] 24)) ∧ Hid (w8.heap[(w.heap.size + 1)]? = some (.cells #[.int .i64 nt.user, .int .i64 nt.ver, .int .i64 nt.stat, .int .i64 nt.cnt] 29)) ∧ Hid (w8.heap[w4.heap.size]? = some (.cells #[.int .i64 (n + ((i : Int) + 1)), .slice p6 (l.length + (i + 1)) cap6, .int .i64 c, .int .i64 a] 24)) ∧ Hid (Below w.heap.size w w8) ∧ Hid (Own 34 7 wr.heap.size w8 (.slice p6 (l.length + (i + 1)) cap6) (l.length + (i + 1)) (flat Fl.cells (fillL n nt now l (i + 1)))) ∧ True) ⟨Lib.hid (by first | (simp [World.setCell, Array.getElem?_modify, A1.out, A2.out, A9.out, A11.out, A12.out, m1, m1.symm, m2, m2.symm]; done) | (simp [World.setCell, Array.getElem?_modify, A1.out, A2.out, A9.out, A11.out, A12.out, m1, m1.symm, m2, m2.symm]; omega) | ((repeat (first | (with_reducible exact A1.out) | (with_reducible exact A2.out) | (with_reducible exact A9.out) | (with_reducible exact A11.out) | (with_reducible exact A12.out) | (with_reducible exact heap_new _ _ _ (by first | rfl | (simp; done))) | (with_reducible refine keepa ?_ _) | (simp [World.setCell, Array.getElem?_modify, A1.out, A2.out, A9.out, A11.out, A12.out, m1, m1.symm, m2, m2.symm]; done))); done)), Lib.hid (by first | (simp [World.setCell, Array.getElem?_modify, A1.out, A2.out, A9.out, A11.out, A12.out, m1, m1.symm, m2, m2.symm]; done) | (simp [World.setCell, Array.getElem?_modify, A1.out, A2.out, A9.out, A11.out, A12.out, m1, m1.symm, m2, m2.symm]; omega) | ((repeat (first | (with_reducible exact A1.out) | (with_reducible exact A2.out) | (with_reducible exact A9.out) | (with_reducible exact A11.out) | (with_reducible exact A12.out) | (with_reducible exact heap_new _ _ _ (by first | rfl | (simp; done))) | (with_reducible refine keepa ?_ _) | (simp [World.setCell, Array.getElem?_modify, A1.out, A2.out, A9.out, A11.out, A12.out, m1, m1.symm, m2, m2.symm]; done))); done)), Lib.hid (by first | (simp [World.setCell, Array.getElem?_modify, A1.out, A2.out, A9.out, A11.out, A12.out, m1, m1.symm, m2, m2.symm]; done) | (simp [World.setCell, Array.getElem?_modify, A1.out, A2.out, A9.out, A11.out, A12.out, m1, m1.symm, m2, m2.symm]; omega) | ((repeat (first | (with_reducible exact A1.out) | (with_reducible exact A2.out) | (with_reducible exact A9.out) | (with_reducible exact A11.out) | (with_reducible exact A12.out) | (with_reducible exact heap_new _ _ _ (by first | rfl | (simp; done))) | (with_reducible refine keepa ?_ _) | (simp [World.setCell, Array.getElem?_modify, A1.out, A2.out, A9.out, A11.out, A12.out, m1, m1.symm, m2, m2.symm]; done))); done)), Lib.hid (by have hbsz := Below.size (BA.out); repeat (first | (with_reducible exact BA.out) | (with_reducible refine bel_set (by first | omega | (simp; done) | (simp; omega)) ?_) | (with_reducible refine bel_alloc (by first | omega | (simp; done) | (simp; omega)) ?_) | (with_reducible refine bel_drew ?_) | (with_reducible refine bel_drewN ?_ _))), Lib.hid (by repeat (first | (with_reducible exact O7.out) | (with_reducible refine Own.set ?_ _ _ (by first | omega | (simp; done) | (simp; omega))) | (with_reducible refine Own.alloc ?_ _) | (with_reducible refine Own.drew ?_) | (with_reducible refine Own.drewN ?_ _))), trivial⟩ ?_
          clear c_A1 f_A1 c_A2 f_A2 c_A9 f_A9 c_A11 f_A11 c_A12 f_A12
          rintro w8 ⟨A1, A2, A9, BA, O8, -⟩
          have c_A1 := cell_of_block A1.out
          have f_A1 := frozen_of_block A1.out
          have c_A2 := cell_of_block A2.out
          have f_A2 := frozen_of_block A2.out
          have c_A9 := cell_of_block A9.out
          have f_A9 := frozen_of_block A9.out
          go_wp2_with fail
          go_roundw
          case rel => exact ⟨i + 1, p6, cap6, by omega, by go_num, by simpa using A9.out, by unfold Fls; rw [fillL_len]; exact O8.out.sl, A1.out, A2.out, BA.out⟩
          case measure => simp [intOf]; omega
        · obtain rfl : i = r := by omega
          have t1 : decide ((i : Int) < (i : Int)) = false := by simp
          have HPu := Lib.hid (show sdPush ⟨n + i, fillL n nt now l i, c, a⟩ nt now = (⟨n + i, fillL n nt now l i, c, a⟩, fl0, false) by
            unfold sdPush
            rw [HRo.out i (by omega), if_pos (by omega)])
          have HRt := Lib.hid (rightSd (HRi.out i (by omega)))
          go_wp2_with fail
          refine (spush_any (n + i) _ c a (fillL n nt now l i) nt now _ (by exact FS.out) (by omega) ⟨by have := HRt.out.c0; simp only at this; omega, HRt.out.c1⟩ (by rw [fillL_len]; omega) (fun f hf => by have := HRt.out.fl f hf; simp only at this; omega) _ _ _ HPu.out).mono ?_; rintro e w6 ⟨p6, cap6, rfl, -, B6⟩
          replace A1 := Lib.hid (keepb A1.out B6.out)
          replace c_A1 := cell_of_block A1.out
          replace f_A1 := frozen_of_block A1.out
          replace A2 := Lib.hid (keepb A2.out B6.out)
          replace c_A2 := cell_of_block A2.out
          replace f_A2 := frozen_of_block A2.out
          replace A9 := Lib.hid (keepb A9.out B6.out)
          replace c_A9 := cell_of_block A9.out
          replace f_A9 := frozen_of_block A9.out
          replace BA := Lib.hid (chain BA.out B6.out)
          replace FS := fls_keep FS B6
          go_upto_region 14 with fail
          refine gen_wp (fun w7 => Hid (Below w6.heap.size w6 w7) ∧ True) ⟨Lib.hid (by repeat (first | (with_reducible exact Below.refl _ _) | (with_reducible refine bel_set (by first | omega | (simp; done) | (simp; omega)) ?_) | (with_reducible refine bel_alloc (by first | omega | (simp; done) | (simp; omega)) ?_) | (with_reducible refine bel_drew ?_) | (with_reducible refine bel_drewN ?_ _))), trivial⟩ ?_
          clear c_A1 f_A1 c_A2 f_A2 c_A9 f_A9
          rintro w7 ⟨N, -⟩
          replace A1 := Lib.hid (keepb A1.out N.out)
          replace c_A1 := cell_of_block A1.out
          replace f_A1 := frozen_of_block A1.out
          replace A2 := Lib.hid (keepb A2.out N.out)
          replace c_A2 := cell_of_block A2.out
          replace f_A2 := frozen_of_block A2.out
          replace A9 := Lib.hid (keepb A9.out N.out)
          replace c_A9 := cell_of_block A9.out
          replace f_A9 := frozen_of_block A9.out
          replace BA := Lib.hid (chain BA.out N.out)
          replace FS := fls_keep FS N
          clear N
          obtain ⟨mm, hmm⟩ : ∃ mm, mm = (sdAcked ⟨n + i, fillL n nt now l i, c, a⟩ (n + i - 1) 0 now).2 := ⟨_, rfl⟩
          have HAk := Lib.hid (show sdAcked ⟨n + i, fillL n nt now l i, c, a⟩ (n + i - 1) 0 now = (⟨n + i, [], g4, g2⟩, mm) by rw [hmm]; exact HAck.out)
          clear hmm
          go_wp2_with fail
          refine (sacked_any (n + i) _ c a (fillL n nt now l i) (n + i - 1) 0 now _ (by exact FS.out) (HRi.out i (by omega)) ⟨e1, e2⟩ _ _ HAk.out).mono ?_; rintro e w8 ⟨p8, cap8, rfl, -, B8⟩
          simp only [List.length_nil]
          replace A1 := Lib.hid (keepb A1.out B8.out)
          replace c_A1 := cell_of_block A1.out
          replace f_A1 := frozen_of_block A1.out
          replace A2 := Lib.hid (keepb A2.out B8.out)
          replace c_A2 := cell_of_block A2.out
          replace f_A2 := frozen_of_block A2.out
          replace A9 := Lib.hid (keepb A9.out B8.out)
          replace c_A9 := cell_of_block A9.out
          replace f_A9 := frozen_of_block A9.out
          replace BA := Lib.hid (chain BA.out B8.out)
          replace FS := fls_keep FS B8
          go_upto_region 15 with fail
          refine gen_wp (fun w9 => Hid (Below w8.heap.size w8 w9) ∧ Hid (w9.heap[w8.heap.size]? = some (.cells #[.int .i64 (n + i), .slice p8 0 cap8, .int .i64 g4, .int .i64 g2] 24)) ∧ True) ⟨Lib.hid (by repeat (first | (with_reducible exact Below.refl _ _) | (with_reducible refine bel_set (by first | omega | (simp; done) | (simp; omega)) ?_) | (with_reducible refine bel_alloc (by first | omega | (simp; done) | (simp; omega)) ?_) | (with_reducible refine bel_drew ?_) | (with_reducible refine bel_drewN ?_ _))), Lib.hid (by first | (simp [World.setCell, Array.getElem?_modify, A1.out, A2.out, A9.out]; done) | (simp [World.setCell, Array.getElem?_modify, A1.out, A2.out, A9.out]; omega) | ((repeat (first | (with_reducible exact A1.out) | (with_reducible exact A2.out) | (with_reducible exact A9.out) | (with_reducible exact heap_new _ _ _ (by first | rfl | (simp; done))) | (with_reducible refine keepa ?_ _) | (simp [World.setCell, Array.getElem?_modify, A1.out, A2.out, A9.out]; done))); done)), trivial⟩ ?_
          clear c_A1 f_A1 c_A2 f_A2 c_A9 f_A9
          rintro w9 ⟨N, A17, -⟩
          have c_A17 := cell_of_block A17.out
          have f_A17 := frozen_of_block A17.out
          replace A1 := Lib.hid (keepb A1.out N.out)
          replace c_A1 := cell_of_block A1.out
          replace f_A1 := frozen_of_block A1.out
          replace A2 := Lib.hid (keepb A2.out N.out)
          replace c_A2 := cell_of_block A2.out
          replace f_A2 := frozen_of_block A2.out
          replace A9 := Lib.hid (keepb A9.out N.out)
          replace c_A9 := cell_of_block A9.out
          replace f_A9 := frozen_of_block A9.out
          replace BA := Lib.hid (chain BA.out N.out)
          replace FS := fls_keep FS N
          clear N
          go_wp2_with fail
          refine (sroom_at (n + i) _ c a (fillL n nt now l i) 0 _ (by exact FS.out) (HRi.out i (by omega)) (by rw [HRo.out i (by omega)]; omega)).mono ?_; rintro e wa ⟨rfl, Ba⟩
          replace A1 := Lib.hid (keepb A1.out Ba.out)
          replace c_A1 := cell_of_block A1.out
          replace f_A1 := frozen_of_block A1.out
          replace A2 := Lib.hid (keepb A2.out Ba.out)
          replace c_A2 := cell_of_block A2.out
          replace f_A2 := frozen_of_block A2.out
          replace A9 := Lib.hid (keepb A9.out Ba.out)
          replace c_A9 := cell_of_block A9.out
          replace f_A9 := frozen_of_block A9.out
          replace A17 := Lib.hid (keepb A17.out Ba.out)
          replace c_A17 := cell_of_block A17.out
          replace f_A17 := frozen_of_block A17.out
          replace BA := Lib.hid (chain BA.out Ba.out)
          go_wp2_with fail
          go_ret
          exact ⟨rfl, BA.out⟩

end Go.Proofs.Ytmhfbngielihcaa.lawSendFills
namespace Go.Proofs.Ytmhfbngielihcaa.lawSendFills
open Go.ChangeShapes Go.WideShapes Go.RowKit
set_option linter.unusedVariables false
theorem own : ownKnob Try.prog.godebug = none := by kernel_rfl
theorem laidOut : laidOutB Try.prog = true := by kernel_rfl
set_option maxRecDepth 100000 in
theorem lifted (os : Os) (started : os.Started) (H : Type) (enc : TypeId × Value → H) :
    ReturnsInHanded {} Try.checked os 7 .any (Rows.sendFillsSpec.pre6 enc Try.prog Try.f7 Rows.sendFillsRow.domain false) (Rows.sendFillsSpec.post enc Try.prog Try.f7 false true false false) := by
  refine returnsInHanded_of_change (C := Try.checked) own started (by kernel_rfl) Try.func7
    (ChangeSpec.witness6 (enc := enc) (C := Try.checked) false ⟨#[], #[.agg #[.int .i64 0, .slice none 0 0, .int .i64 0, .int .i64 0], .agg #[.int .i64 0, .int .i64 0, .int .i64 0, .int .i64 0], .int .i64 0], []⟩ 8 (by kernel_rfl) (by kernel_rfl) (by kernel_rfl) (by kernel_rfl)) ?_
  intro W base args ds gs before hval0 hW hcnd _
  have hval : ∀ (j : Nat) t v, Try.f7.params[j]? = some t → args[j]? = some v → Value.okWide Try.prog W .any base t v := hval0
  have hW' := hW
  obtain ⟨p, q, hA0, hV, rfl, hfz, hnd⟩ := hW
  have hA : DataW.TrodAll enc Try.prog W 0 (fun _ => true) true Try.f7.params.toList args.toList ds p := hA0
  rw [Try.params7] at hA hval
  obtain ⟨v0, vs0, d0, ds0, p0, q0, hargs, rfl, rfl, h0, r0⟩ := trodAll_cons hA
  obtain ⟨v1, vs1, d1, ds1, p1, q1, rfl, rfl, rfl, h1, r1⟩ := trodAll_cons r0
  obtain ⟨v2, vs2, d2, ds2, p2, q2, rfl, rfl, rfl, h2, r2⟩ := trodAll_cons r1
  obtain ⟨rfl, rfl, rfl⟩ := trodAll_nil r2
  obtain rfl : args = #[v0, v1, v2] := by cases args; simp_all
  obtain ⟨rfl, rfl⟩ := trodVars_none hV
  obtain ⟨n0, u0, c0, b0, z0, rfl, f0, w0, -, -⟩ := K.open_sd_arg (hval 0 24 v0 rfl rfl) h0
  have k0 := h0
  have lt0 : ∀ x ∈ p0, x.block < W.heap.size := by obtain ⟨m, hm⟩ := k0; exact DataW.trod_lt m _ _ _ hm
  obtain ⟨z1, rfl⟩ := K.open_note_arg (hval 1 29 v1 rfl rfl) h1
  have k1 := h1
  have lt1 : ∀ x ∈ p1, x.block < W.heap.size := by obtain ⟨m, hm⟩ := k1; exact DataW.trod_lt m _ _ _ hm
  obtain ⟨a2, rfl, rfl, rfl, w2⟩ := open_int Try.underlying3 (hval 2 3 v2 rfl rfl) h2
  clear hA0 hval0
  refine (walk n0 u0 c0 b0 z0 z1 a2 W f0 w0 w2).mono fun e W' ⟨he, bel⟩ => ?_
  subst he
  exact ⟨_, rfl, _, _, _, [], _, [], hW', trodAll_mk1 (shut_bool Try.underlying4 _), (trodAll_cons_mk (Below.trod laidOut (by kernel_rfl) (of_decide_eq_true (by kernel_rfl)) k0 bel lt0) (trodAll_cons_mk (Below.trod laidOut (by kernel_rfl) (of_decide_eq_true (by kernel_rfl)) k1 bel lt1) (trodAll_cons_mk (shut_int Try.underlying3 w2) trodAll_mk0))), rfl, bel.frame _, fun h => by cases h⟩
theorem over : Rows.sendFillsRow.holds Try.pinned (OpenSpec.ofChange Rows.sendFillsSpec) :=
  OpenClaim.holds_of_wide 7 Try.f7 rfl rfl rfl rfl rfl rfl rfl ⟨rfl, rfl, rfl, rfl, rfl⟩ rfl rfl rfl rfl rfl (by kernel_rfl) Try.func7 (by kernel_rfl)
    (of_decide_eq_true (by kernel_rfl)) (by unfold Func.isWrapper; first | (rw [if_pos (by decide +kernel)]; kernel_rfl) | (rw [if_neg (by decide +kernel)]; exact ⟨rfl, rfl⟩))
    (fun os started H enc _ => lifted os started H enc)
/-- THE STATEMENT -/
theorem proved : Rows.SendFillsSaid := over
end Go.Proofs.Ytmhfbngielihcaa.lawSendFills
#print axioms Go.Proofs.Ytmhfbngielihcaa.lawSendFills.proved

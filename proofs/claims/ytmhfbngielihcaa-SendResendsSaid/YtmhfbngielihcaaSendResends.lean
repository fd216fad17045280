/-
  THE STATEMENT 'Rows.SendResendsSaid': nightjarlaw11.SendResends returns true for every input, and its arguments read afterwards as they read before. No condition.
-/
import Derived.Test.YtmhfbngielihcaaSendRead
import Derived.Test.YtmhfbngielihcaaRows
import Derived.ProofKit
import Derived.OpenShut
import Derived.ShutString
import Derived.ChangeOld
import Derived.Below
set_option linter.unusedVariables false
set_option linter.unusedSimpArgs false
namespace Go.Proofs.Ytmhfbngielihcaa.lawSendResends
open Go Go.RowKit Nj K

theorem chain_lt {n : Int} : ∀ {l : List Fl} {last : Int}, flChain n last l = true → ∀ j (hj : j < l.length), last < l[j].seq ∧ ∀ i (hi : i < j), l[i].seq < l[j].seq
  | [], _, _, j, hj => by simp at hj
  | f :: l, last, h, j, hj => by
    simp only [flChain, Bool.and_eq_true] at h
    have h1 := fits_pos h.1
    cases j with
    | zero => exact ⟨h1, fun i hi => by omega⟩
    | succ j =>
      have ih := chain_lt h.2 j (by simpa using hj)
      simp only [List.getElem_cons_succ]
      refine ⟨by omega, fun i hi => ?_⟩
      cases i with
      | zero => exact ih.1
      | succ i => exact ih.2 i (by omega)
theorem chain_ne {s : Sd} (h : sdRight s = true) {i j : Nat} (hi : i < s.fl.length) (hj : j < s.fl.length) (hne : i ≠ j) : s.fl[i].seq ≠ s.fl[j].seq := by
  simp only [sdRight, Bool.and_eq_true] at h
  rcases Nat.lt_or_ge i j with hij | hij
  · have := (chain_lt h.1 j hj).2 i hij; omega
  · have := (chain_lt h.1 i hi).2 j (by omega); omega

set_option maxRecDepth 100000 in
set_option maxHeartbeats 4000000 in
theorem walk (n : Int) (v : Value) (c a : Int) (l : List Fl) (seq now : Int) (w : World) (h : Fls w v l) (wn : (Lit.int .i64 n).wf = true) (_ : (Lit.int .i64 seq).wf = true) (_ : (Lit.int .i64 now).wf = true) :
    Calls Try.prog 5 #[.agg #[.int .i64 n, v, .int .i64 c, .int .i64 a], .int .i64 seq, .int .i64 now] w fun e w' => e = .returned (.bool true) ∧ Below w.heap.size w w' := by
  have FS := Lib.hid h
  obtain ⟨hn0, hn1⟩ := wf_i64 wn
  obtain ⟨p, cap, rfl, hcap⟩ := fls_shape h
  clear h wn
  cases hr : sdRight ⟨n, l, c, a⟩ with
  | false =>
    have HR := Lib.hid hr
    clear hr
    go_enter Try.func5, Try.ntmps5
    go_upto_region 1 with fail
    refine gen_wp (fun w1 => Hid (w1.heap[w.heap.size]? = some (.cells #[.int .i64 n, .slice p l.length cap, .int .i64 c, .int .i64 a] 24)) ∧ Hid (Below w.heap.size w w1) ∧ True) ⟨Lib.hid (by first | (simp [World.setCell, Array.getElem?_modify]; done) | (simp [World.setCell, Array.getElem?_modify]; omega) | ((repeat (first | (with_reducible exact heap_new _ _ _ (by first | rfl | (simp; done))) | (with_reducible refine keepa ?_ _) | (simp [World.setCell, Array.getElem?_modify]; done))); done)), Lib.hid (by repeat (first | (with_reducible exact Below.refl _ _) | (with_reducible refine bel_set (by first | omega | (simp; done) | (simp; omega)) ?_) | (with_reducible refine bel_alloc (by first | omega | (simp; done) | (simp; omega)) ?_) | (with_reducible refine bel_drew ?_) | (with_reducible refine bel_drewN ?_ _))), trivial⟩ ?_
    rintro w1 ⟨A1, BA, -⟩
    have c_A1 := cell_of_block A1.out
    have f_A1 := frozen_of_block A1.out
    replace FS := fls_keep FS BA
    go_wp2_with fail
    refine (small11_any _).mono ?_; rintro e w2 ⟨rfl, B2⟩
    replace A1 := Lib.hid (keepb A1.out B2.out)
    replace c_A1 := cell_of_block A1.out
    replace f_A1 := frozen_of_block A1.out
    replace FS := fls_keep FS B2
    replace BA := Lib.hid (chain BA.out B2.out)
    go_wp2_with fail
    refine (sright_at _ _ _ _ _ _ _ FS.out hn1 HR.out).mono ?_; rintro e w3 ⟨rfl, B3⟩
    replace A1 := Lib.hid (keepb A1.out B3.out)
    replace c_A1 := cell_of_block A1.out
    replace f_A1 := frozen_of_block A1.out
    replace FS := fls_keep FS B3
    replace BA := Lib.hid (chain BA.out B3.out)
    clear B2 B3
    go_wp2_with fail
    go_ret
    exact ⟨rfl, BA.out⟩
  | true =>
    have HR := Lib.hid hr
    have HP := Lib.hid (rightSd hr)
    clear hr
    have hl8 : l.length ≤ 8 := HP.out.len
    by_cases hbad : now < 0 ∨ 1099511627776 < now
    · have HBad := Lib.hid hbad
      clear hbad
      go_enter Try.func5, Try.ntmps5
      go_upto_region 1 with fail
      refine gen_wp (fun w1 => Hid (w1.heap[w.heap.size]? = some (.cells #[.int .i64 n, .slice p l.length cap, .int .i64 c, .int .i64 a] 24)) ∧ Hid (Below w.heap.size w w1) ∧ True) ⟨Lib.hid (by first | (simp [World.setCell, Array.getElem?_modify]; done) | (simp [World.setCell, Array.getElem?_modify]; omega) | ((repeat (first | (with_reducible exact heap_new _ _ _ (by first | rfl | (simp; done))) | (with_reducible refine keepa ?_ _) | (simp [World.setCell, Array.getElem?_modify]; done))); done)), Lib.hid (by repeat (first | (with_reducible exact Below.refl _ _) | (with_reducible refine bel_set (by first | omega | (simp; done) | (simp; omega)) ?_) | (with_reducible refine bel_alloc (by first | omega | (simp; done) | (simp; omega)) ?_) | (with_reducible refine bel_drew ?_) | (with_reducible refine bel_drewN ?_ _))), trivial⟩ ?_
      rintro w1 ⟨A1, BA, -⟩
      have c_A1 := cell_of_block A1.out
      have f_A1 := frozen_of_block A1.out
      replace FS := fls_keep FS BA
      go_wp2_with fail
      refine (small11_any _).mono ?_; rintro e w2 ⟨rfl, B2⟩
      replace A1 := Lib.hid (keepb A1.out B2.out)
      replace c_A1 := cell_of_block A1.out
      replace f_A1 := frozen_of_block A1.out
      replace FS := fls_keep FS B2
      replace BA := Lib.hid (chain BA.out B2.out)
      go_wp2_with fail
      refine (sright_at _ _ _ _ _ _ _ FS.out hn1 HR.out).mono ?_; rintro e w3 ⟨rfl, B3⟩
      replace A1 := Lib.hid (keepb A1.out B3.out)
      replace c_A1 := cell_of_block A1.out
      replace f_A1 := frozen_of_block A1.out
      replace FS := fls_keep FS B3
      replace BA := Lib.hid (chain BA.out B3.out)
      clear B2 B3
      go_wp2_with fail
      all_goals first
        | (go_ret; exact ⟨rfl, BA.out⟩)
        | (exfalso; have := HBad.out; omega)
    · obtain ⟨e1, e2⟩ : 0 ≤ now ∧ now ≤ 1099511627776 := by omega
      clear hbad
      have HF := Lib.hid (show ∀ f ∈ l, 0 ≤ f.tries ∧ f.tries ≤ 1073741824 from fun f hf => by have := HP.out.fl f hf; omega)
      by_cases hex : ∃ k, ∃ h : k < l.length, l[k].seq = seq
      · obtain ⟨k0, hk0, hseq⟩ := hex
        obtain ⟨x, hx⟩ : ∃ x, x = l[k0] := ⟨_, rfl⟩
        obtain ⟨m, hm⟩ : ∃ m, m = min (x.tries + 1) 1073741824 := ⟨_, rfl⟩
        obtain ⟨x0, x1⟩ := HF.out x (by rw [hx]; simp)
        have HX := Lib.hid hx
        have gmin := int_rule (show (if 1073741824 < x.tries + 1 then 1073741824 else x.tries + 1) = m by omega)
        have HNE := Lib.hid (show ∀ j (hj : j < l.length), j ≠ k0 → l[j].seq ≠ seq from fun j hj hne => by rw [← hseq]; exact chain_ne (s := ⟨n, l, c, a⟩) HR.out hj hk0 hne)
        have HXS := Lib.hid (show x.seq = seq by rw [hx]; exact hseq)
        have HE := Lib.hid (show sdResend ⟨n, l, c, a⟩ seq now = (⟨n, l.set k0 ⟨seq, x.note, now, m⟩, c, a⟩, ⟨seq, x.note, now, m⟩, true) by
          unfold sdResend
          simp only [resend_some (now := now) hk0 (by simpa using hseq) (fun j hj hlt => by simpa using HNE.out j hj (by omega))]
          rw [hm, hx, ← hseq]; rfl)
        clear hx hm hseq
        go_enter Try.func5, Try.ntmps5
        go_upto_region 1 with fail
        refine gen_wp (fun w1 => Hid (w1.heap[w.heap.size]? = some (.cells #[.int .i64 n, .slice p l.length cap, .int .i64 c, .int .i64 a] 24)) ∧ Hid (Below w.heap.size w w1) ∧ True) ⟨Lib.hid (by first | (simp [World.setCell, Array.getElem?_modify]; done) | (simp [World.setCell, Array.getElem?_modify]; omega) | ((repeat (first | (with_reducible exact heap_new _ _ _ (by first | rfl | (simp; done))) | (with_reducible refine keepa ?_ _) | (simp [World.setCell, Array.getElem?_modify]; done))); done)), Lib.hid (by repeat (first | (with_reducible exact Below.refl _ _) | (with_reducible refine bel_set (by first | omega | (simp; done) | (simp; omega)) ?_) | (with_reducible refine bel_alloc (by first | omega | (simp; done) | (simp; omega)) ?_) | (with_reducible refine bel_drew ?_) | (with_reducible refine bel_drewN ?_ _))), trivial⟩ ?_
        rintro w1 ⟨A1, BA, -⟩
        have c_A1 := cell_of_block A1.out
        have f_A1 := frozen_of_block A1.out
        replace FS := fls_keep FS BA
        go_wp2_with fail
        refine (small11_any _).mono ?_; rintro e w2 ⟨rfl, B2⟩
        replace A1 := Lib.hid (keepb A1.out B2.out)
        replace c_A1 := cell_of_block A1.out
        replace f_A1 := frozen_of_block A1.out
        replace FS := fls_keep FS B2
        replace BA := Lib.hid (chain BA.out B2.out)
        go_wp2_with fail
        refine (sright_at _ _ _ _ _ _ _ FS.out hn1 HR.out).mono ?_; rintro e w3 ⟨rfl, B3⟩
        replace A1 := Lib.hid (keepb A1.out B3.out)
        replace c_A1 := cell_of_block A1.out
        replace f_A1 := frozen_of_block A1.out
        replace FS := fls_keep FS B3
        replace BA := Lib.hid (chain BA.out B3.out)
        clear B2 B3
        go_wp2_with fail
        refine (sresend_any n _ c a l seq now _ FS.out (by omega) HF.out ⟨n, l.set k0 ⟨seq, x.note, now, m⟩, c, a⟩ ⟨seq, x.note, now, m⟩ true HE.out).mono ?_; rintro e w4 ⟨p4, cap4, rfl, O4, B4⟩
        replace A1 := Lib.hid (keepb A1.out B4.out)
        replace c_A1 := cell_of_block A1.out
        replace f_A1 := frozen_of_block A1.out
        replace FS := fls_keep FS B4
        replace BA := Lib.hid (chain BA.out B4.out)
        have FT : Hid (Fls w4 (.slice p4 l.length cap4) (l.set k0 ⟨seq, x.note, now, m⟩)) := Lib.hid (by have := O4.out.sl; unfold Fls; simpa using this)
        have hcap4 : l.length ≤ cap4 := by obtain ⟨_, _, e, h⟩ := fls_shape FT.out; simp at e h; omega
        simp only [List.length_set]
        clear B4 O4
        go_upto_region 5 with fail
        refine gen_wp (fun w5 => Hid (Below w4.heap.size w4 w5) ∧ Hid (w5.heap[w4.heap.size]? = some (.cells #[.int .i64 n, .slice p4 l.length cap4, .int .i64 c, .int .i64 a] 24)) ∧ Hid (w5.heap[(w4.heap.size + 1)]? = some (.cells #[.int .i64 seq, .int .i64 x.note.user, .int .i64 x.note.ver, .int .i64 x.note.stat, .int .i64 x.note.cnt, .int .i64 now, .int .i64 m] 34)) ∧ True) ⟨Lib.hid (by repeat (first | (with_reducible exact Below.refl _ _) | (with_reducible refine bel_set (by first | omega | (simp; done) | (simp; omega)) ?_) | (with_reducible refine bel_alloc (by first | omega | (simp; done) | (simp; omega)) ?_) | (with_reducible refine bel_drew ?_) | (with_reducible refine bel_drewN ?_ _))), Lib.hid (by first | (simp [World.setCell, Array.getElem?_modify, A1.out]; done) | (simp [World.setCell, Array.getElem?_modify, A1.out]; omega) | ((repeat (first | (with_reducible exact A1.out) | (with_reducible exact heap_new _ _ _ (by first | rfl | (simp; done))) | (with_reducible refine keepa ?_ _) | (simp [World.setCell, Array.getElem?_modify, A1.out]; done))); done)), Lib.hid (by first | (simp [World.setCell, Array.getElem?_modify, A1.out]; done) | (simp [World.setCell, Array.getElem?_modify, A1.out]; omega) | ((repeat (first | (with_reducible exact A1.out) | (with_reducible exact heap_new _ _ _ (by first | rfl | (simp; done))) | (with_reducible refine keepa ?_ _) | (simp [World.setCell, Array.getElem?_modify, A1.out]; done))); done)), trivial⟩ ?_
        clear c_A1 f_A1
        rintro w5 ⟨N, A6, A7, -⟩
        have c_A6 := cell_of_block A6.out
        have f_A6 := frozen_of_block A6.out
        have c_A7 := cell_of_block A7.out
        have f_A7 := frozen_of_block A7.out
        replace A1 := Lib.hid (keepb A1.out N.out)
        replace c_A1 := cell_of_block A1.out
        replace f_A1 := frozen_of_block A1.out
        replace FS := fls_keep FS N
        replace FT := fls_keep FT N
        replace BA := Lib.hid (chain BA.out N.out)
        clear N
        go_wp2_with fail
        go_loopw [11, 12] (fun hv i wr => ∃ (k : Nat) (hb : Bool), k ≤ l.length ∧ i = .int .i64 k ∧ hv = .bool hb ∧ hb = decide (k0 < k) ∧ Below w5.heap.size w5 wr) (fun _ i _ => l.length - (intOf i).toNat)
        case atStart => exact ⟨0, false, by omega, rfl, rfl, by simp, Below.refl _ _⟩
        case round =>
          obtain ⟨k, hb, hk, rfl, rfl, hhb, hwb⟩ := hrel
          have HW := Lib.hid hwb
          have HB := Lib.hid hhb
          clear hwb hhb
          have A1r := Lib.hid (keepb A1.out HW.out)
          have A6r := Lib.hid (keepb A6.out HW.out)
          have A7r := Lib.hid (keepb A7.out HW.out)
          clear c_A1 f_A1 c_A6 f_A6 c_A7 f_A7
          have c_A1r := cell_of_block A1r.out
          have f_A1r := frozen_of_block A1r.out
          have c_A6r := cell_of_block A6r.out
          have f_A6r := frozen_of_block A6r.out
          have c_A7r := cell_of_block A7r.out
          have f_A7r := frozen_of_block A7r.out
          by_cases hlt : k < l.length
          · skip
            obtain ⟨b, o, rfl, _⟩ := FS.out.open (by omega)
            obtain ⟨b4, o4, rfl, _⟩ := FT.out.open (by omega)
            obtain ⟨f, hf⟩ : ∃ f, f = l[k] := ⟨_, rfl⟩
            obtain ⟨c0, c1, c2, c3, c4, c5, c6⟩ := fls_row FS HW.out k hlt f hf
            have HFk := Lib.hid hf
            have t1 : (k : Int) < (l.length : Int) := by omega
            have t2 : (0 : Int) ≤ (k : Int) := by omega
            clear hf
            by_cases he : k = k0
            · subst he
              obtain rfl : f = x := by rw [HFk.out]; exact HX.out.symm
              clear HFk
              have t3 : (f.seq == seq) = true := by simpa using HXS.out
              go_upto_region 12 with fail
              refine gen_wp (fun w6 => Hid (Below wr.heap.size wr w6) ∧ Hid (w6.heap[wr.heap.size]? = some (.cells #[.int .i64 f.seq, .int .i64 f.note.user, .int .i64 f.note.ver, .int .i64 f.note.stat, .int .i64 f.note.cnt, .int .i64 f.at_, .int .i64 f.tries] 34)) ∧ True) ⟨Lib.hid (by repeat (first | (with_reducible exact Below.refl _ _) | (with_reducible refine bel_set (by first | omega | (simp; done) | (simp; omega)) ?_) | (with_reducible refine bel_alloc (by first | omega | (simp; done) | (simp; omega)) ?_) | (with_reducible refine bel_drew ?_) | (with_reducible refine bel_drewN ?_ _))), Lib.hid (by first | (simp [World.setCell, Array.getElem?_modify, A1r.out, A6r.out, A7r.out]; done) | (simp [World.setCell, Array.getElem?_modify, A1r.out, A6r.out, A7r.out]; omega) | ((repeat (first | (with_reducible exact A1r.out) | (with_reducible exact A6r.out) | (with_reducible exact A7r.out) | (with_reducible exact heap_new _ _ _ (by first | rfl | (simp; done))) | (with_reducible refine keepa ?_ _) | (simp [World.setCell, Array.getElem?_modify, A1r.out, A6r.out, A7r.out]; done))); done)), trivial⟩ ?_
              clear c_A1r f_A1r c_A6r f_A6r c_A7r f_A7r
              rintro w6 ⟨N, AF, -⟩
              have c_AF := cell_of_block AF.out
              have f_AF := frozen_of_block AF.out
              clear c0 c1 c2 c3 c4 c5 c6
              replace A1r := Lib.hid (keepb A1r.out N.out)
              replace c_A1r := cell_of_block A1r.out
              replace f_A1r := frozen_of_block A1r.out
              replace A6r := Lib.hid (keepb A6r.out N.out)
              replace c_A6r := cell_of_block A6r.out
              replace f_A6r := frozen_of_block A6r.out
              replace A7r := Lib.hid (keepb A7r.out N.out)
              replace c_A7r := cell_of_block A7r.out
              replace f_A7r := frozen_of_block A7r.out
              have HW6 := Lib.hid (chain HW.out N.out)
              clear N
              obtain ⟨d0, d1, d2, d3, d4, d5, d6⟩ := fls_row FT HW6.out k (by rw [List.length_set]; exact hlt) ⟨seq, f.note, now, m⟩ (by simp)
              skip
              go_upto_region 13 with fail
              refine gen_wp (fun w7 => Hid (Below w6.heap.size w6 w7) ∧ Hid (w7.heap[w6.heap.size]? = some (.cells #[.int .i64 seq, .int .i64 f.note.user, .int .i64 f.note.ver, .int .i64 f.note.stat, .int .i64 f.note.cnt, .int .i64 now, .int .i64 m] 34)) ∧ True) ⟨Lib.hid (by repeat (first | (with_reducible exact Below.refl _ _) | (with_reducible refine bel_set (by first | omega | (simp; done) | (simp; omega)) ?_) | (with_reducible refine bel_alloc (by first | omega | (simp; done) | (simp; omega)) ?_) | (with_reducible refine bel_drew ?_) | (with_reducible refine bel_drewN ?_ _))), Lib.hid (by first | (simp [World.setCell, Array.getElem?_modify, A1r.out, A6r.out, A7r.out, AF.out]; done) | (simp [World.setCell, Array.getElem?_modify, A1r.out, A6r.out, A7r.out, AF.out]; omega) | ((repeat (first | (with_reducible exact A1r.out) | (with_reducible exact A6r.out) | (with_reducible exact A7r.out) | (with_reducible exact AF.out) | (with_reducible exact heap_new _ _ _ (by first | rfl | (simp; done))) | (with_reducible refine keepa ?_ _) | (simp [World.setCell, Array.getElem?_modify, A1r.out, A6r.out, A7r.out, AF.out]; done))); done)), trivial⟩ ?_
              clear c_A1r f_A1r c_A6r f_A6r c_A7r f_A7r c_AF f_AF
              rintro w7 ⟨N, AB, -⟩
              have c_AB := cell_of_block AB.out
              have f_AB := frozen_of_block AB.out
              clear d0 d1 d2 d3 d4 d5 d6
              replace A1r := Lib.hid (keepb A1r.out N.out)
              replace c_A1r := cell_of_block A1r.out
              replace f_A1r := frozen_of_block A1r.out
              replace A6r := Lib.hid (keepb A6r.out N.out)
              replace c_A6r := cell_of_block A6r.out
              replace f_A6r := frozen_of_block A6r.out
              replace A7r := Lib.hid (keepb A7r.out N.out)
              replace c_A7r := cell_of_block A7r.out
              replace f_A7r := frozen_of_block A7r.out
              replace AF := Lib.hid (keepb AF.out N.out)
              replace c_AF := cell_of_block AF.out
              replace f_AF := frozen_of_block AF.out
              have HW7 := Lib.hid (chain HW6.out N.out)
              clear N
              go_wp2_with fail
              go_roundw
              case rel => exact ⟨k + 1, true, by omega, by go_num, rfl, by simp, HW7.out⟩
              case measure => simp [intOf]; omega
            · have hns : f.seq ≠ seq := by rw [HFk.out]; exact HNE.out k hlt he
              have t3 : (f.seq == seq) = false := by simpa using hns
              go_upto_region 12 with fail
              refine gen_wp (fun w6 => Hid (Below wr.heap.size wr w6) ∧ Hid (w6.heap[wr.heap.size]? = some (.cells #[.int .i64 f.seq, .int .i64 f.note.user, .int .i64 f.note.ver, .int .i64 f.note.stat, .int .i64 f.note.cnt, .int .i64 f.at_, .int .i64 f.tries] 34)) ∧ True) ⟨Lib.hid (by repeat (first | (with_reducible exact Below.refl _ _) | (with_reducible refine bel_set (by first | omega | (simp; done) | (simp; omega)) ?_) | (with_reducible refine bel_alloc (by first | omega | (simp; done) | (simp; omega)) ?_) | (with_reducible refine bel_drew ?_) | (with_reducible refine bel_drewN ?_ _))), Lib.hid (by first | (simp [World.setCell, Array.getElem?_modify, A1r.out, A6r.out, A7r.out]; done) | (simp [World.setCell, Array.getElem?_modify, A1r.out, A6r.out, A7r.out]; omega) | ((repeat (first | (with_reducible exact A1r.out) | (with_reducible exact A6r.out) | (with_reducible exact A7r.out) | (with_reducible exact heap_new _ _ _ (by first | rfl | (simp; done))) | (with_reducible refine keepa ?_ _) | (simp [World.setCell, Array.getElem?_modify, A1r.out, A6r.out, A7r.out]; done))); done)), trivial⟩ ?_
              clear c_A1r f_A1r c_A6r f_A6r c_A7r f_A7r
              rintro w6 ⟨N, AF, -⟩
              have c_AF := cell_of_block AF.out
              have f_AF := frozen_of_block AF.out
              clear c0 c1 c2 c3 c4 c5 c6
              replace A1r := Lib.hid (keepb A1r.out N.out)
              replace c_A1r := cell_of_block A1r.out
              replace f_A1r := frozen_of_block A1r.out
              replace A6r := Lib.hid (keepb A6r.out N.out)
              replace c_A6r := cell_of_block A6r.out
              replace f_A6r := frozen_of_block A6r.out
              replace A7r := Lib.hid (keepb A7r.out N.out)
              replace c_A7r := cell_of_block A7r.out
              replace f_A7r := frozen_of_block A7r.out
              have HW6 := Lib.hid (chain HW.out N.out)
              clear N
              obtain ⟨d0, d1, d2, d3, d4, d5, d6⟩ := fls_row FT HW6.out k (by rw [List.length_set]; exact hlt) f (by rw [List.getElem_set_ne (by omega)]; exact HFk.out)
              clear hns
              go_upto_region 13 with fail
              refine gen_wp (fun w7 => Hid (Below w6.heap.size w6 w7) ∧ Hid (w7.heap[w6.heap.size]? = some (.cells #[.int .i64 f.seq, .int .i64 f.note.user, .int .i64 f.note.ver, .int .i64 f.note.stat, .int .i64 f.note.cnt, .int .i64 f.at_, .int .i64 f.tries] 34)) ∧ True) ⟨Lib.hid (by repeat (first | (with_reducible exact Below.refl _ _) | (with_reducible refine bel_set (by first | omega | (simp; done) | (simp; omega)) ?_) | (with_reducible refine bel_alloc (by first | omega | (simp; done) | (simp; omega)) ?_) | (with_reducible refine bel_drew ?_) | (with_reducible refine bel_drewN ?_ _))), Lib.hid (by first | (simp [World.setCell, Array.getElem?_modify, A1r.out, A6r.out, A7r.out, AF.out]; done) | (simp [World.setCell, Array.getElem?_modify, A1r.out, A6r.out, A7r.out, AF.out]; omega) | ((repeat (first | (with_reducible exact A1r.out) | (with_reducible exact A6r.out) | (with_reducible exact A7r.out) | (with_reducible exact AF.out) | (with_reducible exact heap_new _ _ _ (by first | rfl | (simp; done))) | (with_reducible refine keepa ?_ _) | (simp [World.setCell, Array.getElem?_modify, A1r.out, A6r.out, A7r.out, AF.out]; done))); done)), trivial⟩ ?_
              clear c_A1r f_A1r c_A6r f_A6r c_A7r f_A7r c_AF f_AF
              rintro w7 ⟨N, AB, -⟩
              have c_AB := cell_of_block AB.out
              have f_AB := frozen_of_block AB.out
              clear d0 d1 d2 d3 d4 d5 d6
              replace A1r := Lib.hid (keepb A1r.out N.out)
              replace c_A1r := cell_of_block A1r.out
              replace f_A1r := frozen_of_block A1r.out
              replace A6r := Lib.hid (keepb A6r.out N.out)
              replace c_A6r := cell_of_block A6r.out
              replace f_A6r := frozen_of_block A6r.out
              replace A7r := Lib.hid (keepb A7r.out N.out)
              replace c_A7r := cell_of_block A7r.out
              replace f_A7r := frozen_of_block A7r.out
              replace AF := Lib.hid (keepb AF.out N.out)
              replace c_AF := cell_of_block AF.out
              replace f_AF := frozen_of_block AF.out
              have HW7 := Lib.hid (chain HW6.out N.out)
              clear N
              go_wp2_with fail
              go_roundw
              case rel => exact ⟨k + 1, hb, by omega, by go_num, rfl, by rw [HB.out]; by_cases hh : k0 < k <;> simp [hh] <;> omega, HW7.out⟩
              case measure => simp [intOf]; omega
          · skip
            have hke : k = l.length := by omega
            subst hke
            have t1 : decide ((l.length : Int) < (l.length : Int)) = false := by simp
            have BAr := Lib.hid (chain BA.out HW.out)
            obtain rfl : hb = true := by rw [HB.out]; simpa using hk0
            go_wp2_with fail
            go_ret
            exact ⟨rfl, BAr.out⟩
      · have HNE := Lib.hid (show ∀ j (hj : j < l.length), l[j].seq ≠ seq from fun j hj e => hex ⟨j, hj, e⟩)
        have HE := Lib.hid (show sdResend ⟨n, l, c, a⟩ seq now = (⟨n, l, c, a⟩, fl0, false) by
          unfold sdResend
          simp only [resend_none (now := now) (fun j hj => by simpa using HNE.out j hj)])
        clear hex
        go_enter Try.func5, Try.ntmps5
        go_upto_region 1 with fail
        refine gen_wp (fun w1 => Hid (w1.heap[w.heap.size]? = some (.cells #[.int .i64 n, .slice p l.length cap, .int .i64 c, .int .i64 a] 24)) ∧ Hid (Below w.heap.size w w1) ∧ True) ⟨Lib.hid (by first | (simp [World.setCell, Array.getElem?_modify]; done) | (simp [World.setCell, Array.getElem?_modify]; omega) | ((repeat (first | (with_reducible exact heap_new _ _ _ (by first | rfl | (simp; done))) | (with_reducible refine keepa ?_ _) | (simp [World.setCell, Array.getElem?_modify]; done))); done)), Lib.hid (by repeat (first | (with_reducible exact Below.refl _ _) | (with_reducible refine bel_set (by first | omega | (simp; done) | (simp; omega)) ?_) | (with_reducible refine bel_alloc (by first | omega | (simp; done) | (simp; omega)) ?_) | (with_reducible refine bel_drew ?_) | (with_reducible refine bel_drewN ?_ _))), trivial⟩ ?_
        rintro w1 ⟨A1, BA, -⟩
        have c_A1 := cell_of_block A1.out
        have f_A1 := frozen_of_block A1.out
        replace FS := fls_keep FS BA
        go_wp2_with fail
        refine (small11_any _).mono ?_; rintro e w2 ⟨rfl, B2⟩
        replace A1 := Lib.hid (keepb A1.out B2.out)
        replace c_A1 := cell_of_block A1.out
        replace f_A1 := frozen_of_block A1.out
        replace FS := fls_keep FS B2
        replace BA := Lib.hid (chain BA.out B2.out)
        go_wp2_with fail
        refine (sright_at _ _ _ _ _ _ _ FS.out hn1 HR.out).mono ?_; rintro e w3 ⟨rfl, B3⟩
        replace A1 := Lib.hid (keepb A1.out B3.out)
        replace c_A1 := cell_of_block A1.out
        replace f_A1 := frozen_of_block A1.out
        replace FS := fls_keep FS B3
        replace BA := Lib.hid (chain BA.out B3.out)
        clear B2 B3
        go_wp2_with fail
        refine (sresend_any n _ c a l seq now _ FS.out (by omega) HF.out ⟨n, l, c, a⟩ fl0 false HE.out).mono ?_; rintro e w4 ⟨p4, cap4, rfl, O4, B4⟩
        replace A1 := Lib.hid (keepb A1.out B4.out)
        replace c_A1 := cell_of_block A1.out
        replace f_A1 := frozen_of_block A1.out
        replace FS := fls_keep FS B4
        replace BA := Lib.hid (chain BA.out B4.out)
        have FT : Hid (Fls w4 (.slice p4 l.length cap4) (l)) := Lib.hid (by have := O4.out.sl; unfold Fls; simpa using this)
        have hcap4 : l.length ≤ cap4 := by obtain ⟨_, _, e, h⟩ := fls_shape FT.out; simp at e h; omega
        simp only [List.length_set]
        clear B4 O4
        go_upto_region 5 with fail
        refine gen_wp (fun w5 => Hid (Below w4.heap.size w4 w5) ∧ Hid (w5.heap[w4.heap.size]? = some (.cells #[.int .i64 n, .slice p4 l.length cap4, .int .i64 c, .int .i64 a] 24)) ∧ Hid (w5.heap[(w4.heap.size + 1)]? = some (.cells #[.int .i64 fl0.seq, .int .i64 fl0.note.user, .int .i64 fl0.note.ver, .int .i64 fl0.note.stat, .int .i64 fl0.note.cnt, .int .i64 fl0.at_, .int .i64 fl0.tries] 34)) ∧ True) ⟨Lib.hid (by repeat (first | (with_reducible exact Below.refl _ _) | (with_reducible refine bel_set (by first | omega | (simp; done) | (simp; omega)) ?_) | (with_reducible refine bel_alloc (by first | omega | (simp; done) | (simp; omega)) ?_) | (with_reducible refine bel_drew ?_) | (with_reducible refine bel_drewN ?_ _))), Lib.hid (by first | (simp [World.setCell, Array.getElem?_modify, A1.out]; done) | (simp [World.setCell, Array.getElem?_modify, A1.out]; omega) | ((repeat (first | (with_reducible exact A1.out) | (with_reducible exact heap_new _ _ _ (by first | rfl | (simp; done))) | (with_reducible refine keepa ?_ _) | (simp [World.setCell, Array.getElem?_modify, A1.out]; done))); done)), Lib.hid (by first | (simp [World.setCell, Array.getElem?_modify, A1.out]; done) | (simp [World.setCell, Array.getElem?_modify, A1.out]; omega) | ((repeat (first | (with_reducible exact A1.out) | (with_reducible exact heap_new _ _ _ (by first | rfl | (simp; done))) | (with_reducible refine keepa ?_ _) | (simp [World.setCell, Array.getElem?_modify, A1.out]; done))); done)), trivial⟩ ?_
        clear c_A1 f_A1
        rintro w5 ⟨N, A6, A7, -⟩
        have c_A6 := cell_of_block A6.out
        have f_A6 := frozen_of_block A6.out
        have c_A7 := cell_of_block A7.out
        have f_A7 := frozen_of_block A7.out
        replace A1 := Lib.hid (keepb A1.out N.out)
        replace c_A1 := cell_of_block A1.out
        replace f_A1 := frozen_of_block A1.out
        replace FS := fls_keep FS N
        replace FT := fls_keep FT N
        replace BA := Lib.hid (chain BA.out N.out)
        clear N
        go_wp2_with fail
        go_loopw [11, 12] (fun hv i wr => ∃ (k : Nat), k ≤ l.length ∧ i = .int .i64 k ∧ hv = .bool false ∧ Below w5.heap.size w5 wr) (fun _ i _ => l.length - (intOf i).toNat)
        case atStart => exact ⟨0, by omega, rfl, rfl, Below.refl _ _⟩
        case round =>
          obtain ⟨k, hk, rfl, rfl, hwb⟩ := hrel
          have HW := Lib.hid hwb
          clear hwb
          have A1r := Lib.hid (keepb A1.out HW.out)
          have A6r := Lib.hid (keepb A6.out HW.out)
          have A7r := Lib.hid (keepb A7.out HW.out)
          clear c_A1 f_A1 c_A6 f_A6 c_A7 f_A7
          have c_A1r := cell_of_block A1r.out
          have f_A1r := frozen_of_block A1r.out
          have c_A6r := cell_of_block A6r.out
          have f_A6r := frozen_of_block A6r.out
          have c_A7r := cell_of_block A7r.out
          have f_A7r := frozen_of_block A7r.out
          by_cases hlt : k < l.length
          · skip
            obtain ⟨b, o, rfl, _⟩ := FS.out.open (by omega)
            obtain ⟨b4, o4, rfl, _⟩ := FT.out.open (by omega)
            obtain ⟨f, hf⟩ : ∃ f, f = l[k] := ⟨_, rfl⟩
            obtain ⟨c0, c1, c2, c3, c4, c5, c6⟩ := fls_row FS HW.out k hlt f hf
            have HFk := Lib.hid hf
            have t1 : (k : Int) < (l.length : Int) := by omega
            have t2 : (0 : Int) ≤ (k : Int) := by omega
            clear hf
            have hns : f.seq ≠ seq := by rw [HFk.out]; exact HNE.out k hlt
            have t3 : (f.seq == seq) = false := by simpa using hns
            go_upto_region 12 with fail
            refine gen_wp (fun w6 => Hid (Below wr.heap.size wr w6) ∧ Hid (w6.heap[wr.heap.size]? = some (.cells #[.int .i64 f.seq, .int .i64 f.note.user, .int .i64 f.note.ver, .int .i64 f.note.stat, .int .i64 f.note.cnt, .int .i64 f.at_, .int .i64 f.tries] 34)) ∧ True) ⟨Lib.hid (by repeat (first | (with_reducible exact Below.refl _ _) | (with_reducible refine bel_set (by first | omega | (simp; done) | (simp; omega)) ?_) | (with_reducible refine bel_alloc (by first | omega | (simp; done) | (simp; omega)) ?_) | (with_reducible refine bel_drew ?_) | (with_reducible refine bel_drewN ?_ _))), Lib.hid (by first | (simp [World.setCell, Array.getElem?_modify, A1r.out, A6r.out, A7r.out]; done) | (simp [World.setCell, Array.getElem?_modify, A1r.out, A6r.out, A7r.out]; omega) | ((repeat (first | (with_reducible exact A1r.out) | (with_reducible exact A6r.out) | (with_reducible exact A7r.out) | (with_reducible exact heap_new _ _ _ (by first | rfl | (simp; done))) | (with_reducible refine keepa ?_ _) | (simp [World.setCell, Array.getElem?_modify, A1r.out, A6r.out, A7r.out]; done))); done)), trivial⟩ ?_
            clear c_A1r f_A1r c_A6r f_A6r c_A7r f_A7r
            rintro w6 ⟨N, AF, -⟩
            have c_AF := cell_of_block AF.out
            have f_AF := frozen_of_block AF.out
            clear c0 c1 c2 c3 c4 c5 c6
            replace A1r := Lib.hid (keepb A1r.out N.out)
            replace c_A1r := cell_of_block A1r.out
            replace f_A1r := frozen_of_block A1r.out
            replace A6r := Lib.hid (keepb A6r.out N.out)
            replace c_A6r := cell_of_block A6r.out
            replace f_A6r := frozen_of_block A6r.out
            replace A7r := Lib.hid (keepb A7r.out N.out)
            replace c_A7r := cell_of_block A7r.out
            replace f_A7r := frozen_of_block A7r.out
            have HW6 := Lib.hid (chain HW.out N.out)
            clear N
            obtain ⟨d0, d1, d2, d3, d4, d5, d6⟩ := fls_row FT HW6.out k hlt f HFk.out
            clear hns
            go_upto_region 13 with fail
            refine gen_wp (fun w7 => Hid (Below w6.heap.size w6 w7) ∧ Hid (w7.heap[w6.heap.size]? = some (.cells #[.int .i64 f.seq, .int .i64 f.note.user, .int .i64 f.note.ver, .int .i64 f.note.stat, .int .i64 f.note.cnt, .int .i64 f.at_, .int .i64 f.tries] 34)) ∧ True) ⟨Lib.hid (by repeat (first | (with_reducible exact Below.refl _ _) | (with_reducible refine bel_set (by first | omega | (simp; done) | (simp; omega)) ?_) | (with_reducible refine bel_alloc (by first | omega | (simp; done) | (simp; omega)) ?_) | (with_reducible refine bel_drew ?_) | (with_reducible refine bel_drewN ?_ _))), Lib.hid (by first | (simp [World.setCell, Array.getElem?_modify, A1r.out, A6r.out, A7r.out, AF.out]; done) | (simp [World.setCell, Array.getElem?_modify, A1r.out, A6r.out, A7r.out, AF.out]; omega) | ((repeat (first | (with_reducible exact A1r.out) | (with_reducible exact A6r.out) | (with_reducible exact A7r.out) | (with_reducible exact AF.out) | (with_reducible exact heap_new _ _ _ (by first | rfl | (simp; done))) | (with_reducible refine keepa ?_ _) | (simp [World.setCell, Array.getElem?_modify, A1r.out, A6r.out, A7r.out, AF.out]; done))); done)), trivial⟩ ?_
            clear c_A1r f_A1r c_A6r f_A6r c_A7r f_A7r c_AF f_AF
            rintro w7 ⟨N, AB, -⟩
            have c_AB := cell_of_block AB.out
            have f_AB := frozen_of_block AB.out
            clear d0 d1 d2 d3 d4 d5 d6
            replace A1r := Lib.hid (keepb A1r.out N.out)
            replace c_A1r := cell_of_block A1r.out
            replace f_A1r := frozen_of_block A1r.out
            replace A6r := Lib.hid (keepb A6r.out N.out)
            replace c_A6r := cell_of_block A6r.out
            replace f_A6r := frozen_of_block A6r.out
            replace A7r := Lib.hid (keepb A7r.out N.out)
            replace c_A7r := cell_of_block A7r.out
            replace f_A7r := frozen_of_block A7r.out
            replace AF := Lib.hid (keepb AF.out N.out)
            replace c_AF := cell_of_block AF.out
            replace f_AF := frozen_of_block AF.out
            have HW7 := Lib.hid (chain HW6.out N.out)
            clear N
            go_wp2_with fail
            go_roundw
            case rel => exact ⟨k + 1, by omega, by go_num, rfl, HW7.out⟩
            case measure => simp [intOf]; omega
          · skip
            have hke : k = l.length := by omega
            subst hke
            have t1 : decide ((l.length : Int) < (l.length : Int)) = false := by simp
            have BAr := Lib.hid (chain BA.out HW.out)
            go_wp2_with fail
            go_ret
            exact ⟨rfl, BAr.out⟩

end Go.Proofs.Ytmhfbngielihcaa.lawSendResends
namespace Go.Proofs.Ytmhfbngielihcaa.lawSendResends
open Go.ChangeShapes Go.WideShapes Go.RowKit
set_option linter.unusedVariables false
theorem own : ownKnob Try.prog.godebug = none := by kernel_rfl
theorem laidOut : laidOutB Try.prog = true := by kernel_rfl
set_option maxRecDepth 100000 in
theorem lifted (os : Os) (started : os.Started) (H : Type) (enc : TypeId × Value → H) :
    ReturnsInHanded {} Try.checked os 5 .any (Rows.sendResendsSpec.pre6 enc Try.prog Try.f5 Rows.sendResendsRow.domain false) (Rows.sendResendsSpec.post enc Try.prog Try.f5 false true false false) := by
  refine returnsInHanded_of_change (C := Try.checked) own started (by kernel_rfl) Try.func5
    (ChangeSpec.witness6 (enc := enc) (C := Try.checked) false ⟨#[], #[.agg #[.int .i64 0, .slice none 0 0, .int .i64 0, .int .i64 0], .int .i64 0, .int .i64 0], []⟩ 8 (by kernel_rfl) (by kernel_rfl) (by kernel_rfl) (by kernel_rfl)) ?_
  intro W base args ds gs before hval0 hW hcnd _
  have hval : ∀ (j : Nat) t v, Try.f5.params[j]? = some t → args[j]? = some v → Value.okWide Try.prog W .any base t v := hval0
  have hW' := hW
  obtain ⟨p, q, hA0, hV, rfl, hfz, hnd⟩ := hW
  have hA : DataW.TrodAll enc Try.prog W 0 (fun _ => true) true Try.f5.params.toList args.toList ds p := hA0
  rw [Try.params5] at hA hval
  obtain ⟨v0, vs0, d0, ds0, p0, q0, hargs, rfl, rfl, h0, r0⟩ := trodAll_cons hA
  obtain ⟨v1, vs1, d1, ds1, p1, q1, rfl, rfl, rfl, h1, r1⟩ := trodAll_cons r0
  obtain ⟨v2, vs2, d2, ds2, p2, q2, rfl, rfl, rfl, h2, r2⟩ := trodAll_cons r1
  obtain ⟨rfl, rfl, rfl⟩ := trodAll_nil r2
  obtain rfl : args = #[v0, v1, v2] := by cases args; simp_all
  obtain ⟨rfl, rfl⟩ := trodVars_none hV
  obtain ⟨n0, u0, c0, b0, z0, rfl, f0, w0, -, -⟩ := K.open_sd_arg (hval 0 24 v0 rfl rfl) h0
  have k0 := h0
  have lt0 : ∀ x ∈ p0, x.block < W.heap.size := by obtain ⟨m, hm⟩ := k0; exact DataW.trod_lt m _ _ _ hm
  obtain ⟨a1, rfl, rfl, rfl, w1⟩ := open_int Try.underlying3 (hval 1 3 v1 rfl rfl) h1
  obtain ⟨a2, rfl, rfl, rfl, w2⟩ := open_int Try.underlying3 (hval 2 3 v2 rfl rfl) h2
  clear hA0 hval0
  refine (walk n0 u0 c0 b0 z0 a1 a2 W f0 w0 w1 w2).mono fun e W' ⟨he, bel⟩ => ?_
  subst he
  exact ⟨_, rfl, _, _, _, [], _, [], hW', trodAll_mk1 (shut_bool Try.underlying4 _), (trodAll_cons_mk (Below.trod laidOut (by kernel_rfl) (of_decide_eq_true (by kernel_rfl)) k0 bel lt0) (trodAll_cons_mk (shut_int Try.underlying3 w1) (trodAll_cons_mk (shut_int Try.underlying3 w2) trodAll_mk0))), rfl, bel.frame _, fun h => by cases h⟩
theorem over : Rows.sendResendsRow.holds Try.pinned (OpenSpec.ofChange Rows.sendResendsSpec) :=
  OpenClaim.holds_of_wide 5 Try.f5 rfl rfl rfl rfl rfl rfl rfl ⟨rfl, rfl, rfl, rfl, rfl⟩ rfl rfl rfl rfl rfl (by kernel_rfl) Try.func5 (by kernel_rfl)
    (of_decide_eq_true (by kernel_rfl)) (by unfold Func.isWrapper; first | (rw [if_pos (by decide +kernel)]; kernel_rfl) | (rw [if_neg (by decide +kernel)]; exact ⟨rfl, rfl⟩))
    (fun os started H enc _ => lifted os started H enc)
/-- THE STATEMENT -/
theorem proved : Rows.SendResendsSaid := over
end Go.Proofs.Ytmhfbngielihcaa.lawSendResends
#print axioms Go.Proofs.Ytmhfbngielihcaa.lawSendResends.proved

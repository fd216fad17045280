/-
  CONTRACTS of send.Resend's closure, slices.IndexFunc over it, send.Resend.
-/
import Derived.Test.YteilgibfmljoeaaSend6
set_option linter.unusedVariables false
set_option linter.unusedSimpArgs false
namespace Nj
open Go
theorem resend_none {seq now : Int} : ∀ {l : List Fl}, (∀ j (hj : j < l.length), decide (l[j].seq = seq) = false) → flResend seq now l = none
  | [], _ => rfl
  | f :: l, h => by
    have h0 := h 0 (by simp)
    simp only [List.getElem_cons_zero, decide_eq_false_iff_not] at h0
    rw [flResend, if_neg h0, resend_none (fun j hj => by have := h (j + 1) (by simpa using hj); rw [List.getElem_cons_succ] at this; exact this)]; rfl
theorem resend_some {seq now : Int} : ∀ {l : List Fl} {k : Nat} (hk : k < l.length), decide (l[k].seq = seq) = true → (∀ j (hj : j < l.length), j < k → decide (l[j].seq = seq) = false) → flResend seq now l = some (l.set k (flAgain now l[k]), flAgain now l[k])
  | [], k, hk, _, _ => by simp at hk
  | f :: l, 0, _, h, _ => by
    simp only [List.getElem_cons_zero, decide_eq_true_eq] at h
    rw [flResend, if_pos h]; rfl
  | f :: l, k + 1, hk, h, hb => by
    have h0 := hb 0 (by simp) (by omega)
    simp only [List.getElem_cons_zero, decide_eq_false_iff_not] at h0
    have hk' : k < l.length := by simpa using hk
    rw [flResend, if_neg h0, resend_some hk' (by simpa using h) (fun j hj hjk => by have := hb (j + 1) (by simpa using hj) (by omega); rw [List.getElem_cons_succ] at this; exact this)]
    simp
/-- two stores that send a flight again -/
theorem again_cells {l : List Fl} {k : Nat} (hk : k < l.length) (now : Int) : ((flat Fl.cells l).set (k * 7 + 5) (.int .i64 now)).set (k * 7 + 6) (.int .i64 (min (l[k].tries + 1) 1073741824)) = flat Fl.cells (l.set k (flAgain now l[k])) := by
  have hlen := flat_length fl_seven l
  have hb : (k + 1) * 7 ≤ l.length * 7 := Nat.mul_le_mul_right _ hk
  refine flat_set fl_seven (by decide) l k hk _ _ (by simp) ?_ ?_
  · intro i hi
    rw [List.getElem?_set_ne (by omega), List.getElem?_set_ne (by omega)]
  · intro j hj
    have hg := fun j hj => flat_get fl_seven l k j hk hj
    match j, hj with
    | 0, _ => rw [List.getElem?_set_ne (by omega), List.getElem?_set_ne (by omega), hg 0 (by decide)]; rfl
    | 1, _ => rw [List.getElem?_set_ne (by omega), List.getElem?_set_ne (by omega), hg 1 (by decide)]; rfl
    | 2, _ => rw [List.getElem?_set_ne (by omega), List.getElem?_set_ne (by omega), hg 2 (by decide)]; rfl
    | 3, _ => rw [List.getElem?_set_ne (by omega), List.getElem?_set_ne (by omega), hg 3 (by decide)]; rfl
    | 4, _ => rw [List.getElem?_set_ne (by omega), List.getElem?_set_ne (by omega), hg 4 (by decide)]; rfl
    | 5, _ => rw [List.getElem?_set_ne (by omega), List.getElem?_set_self (by omega)]; rfl
    | 6, _ => rw [List.getElem?_set_self (by simp; omega)]; rfl
end Nj
namespace Go.Proofs.Yteilgibfmljoeaa.K
open Go Go.RowKit Nj

theorem cf_resend1 (args : Array Value) (W : World) : (callFunc 57 args).run Try.prog W = .ok (.enter 57 args) W := by
  go_simp
theorem resend1_any (f : Fl) (sb : Nat) (seq : Int) (w : World) (h : w.heap[sb]? = some (.cells #[.int .i64 seq] 3)) :
    Calls Try.prog 57 #[.agg #[.int .i64 f.seq, .int .i64 f.note.user, .int .i64 f.note.ver, .int .i64 f.note.stat, .int .i64 f.note.cnt, .int .i64 f.at_, .int .i64 f.tries], .pointer (some ⟨sb, 0, none⟩)] w fun e w' => e = .returned (.bool (decide (f.seq = seq))) ∧ Hid (Below w.heap.size w w') := by
  have hlt := block_lt h
  have hc := cell_of_block h
  go_enter Try.func57, Try.ntmps57
  go_wp2_with fail
  go_ret
  exact ⟨ret_bool (by first | rfl | simp), Lib.hid ((Below.refl _ _).alloc (Nat.le_refl _) _)⟩

/-- slices.IndexFunc over flights: 'pred' is asked of one after the other, while 'Inv k' holds behind k of them -/
theorem indexf_any (F : FuncId) (caps : Array Value) (p : Option Addr) (cap : Nat) (l : List Fl) (pred : Fl → Bool) (Inv : Nat → World → Prop) (w : World) (hF : ∀ args W, (callFunc F args).run Try.prog W = .ok (.enter F args) W)
    (hm : l.length ≤ 9223372036854775807) (hcap : l.length ≤ cap) (h0 : Inv 0 w) (hS : ∀ k W, Inv k W → Fls W (.slice p l.length cap) l)
    (hcl : ∀ k (hk : k < l.length) W, Inv k W → Calls Try.prog F (#[.agg #[.int .i64 l[k].seq, .int .i64 l[k].note.user, .int .i64 l[k].note.ver, .int .i64 l[k].note.stat, .int .i64 l[k].note.cnt, .int .i64 l[k].at_, .int .i64 l[k].tries]] ++ caps) W fun e W' => e = .returned (.bool (pred l[k])) ∧ Hid (Inv (k + 1) W')) :
    Calls Try.prog 56 #[.slice p l.length cap, .func (.func F) #[] caps] w fun e w' =>
      (∃ k, ∃ hk : k < l.length, pred l[k] = true ∧ (∀ j (hj : j < l.length), j < k → pred l[j] = false) ∧ e = .returned (.int .i64 k) ∧ Hid (Inv (k + 1) w')) ∨ ((∀ j (hj : j < l.length), pred l[j] = false) ∧ e = .returned (.int .i64 (-1)) ∧ Hid (Inv l.length w')) := by
  have HC := Lib.hid hcl
  have HSS := Lib.hid hS
  have H0 := Lib.hid h0
  clear hcl hS h0
  go_enter Try.func56, Try.ntmps56
  go_wp2_with fail
  go_loopw [8] (fun i wr => ∃ k : Nat, k ≤ l.length ∧ i = .int .i64 k ∧ (∀ j (hj : j < l.length), j < k → pred l[j] = false) ∧ Inv k wr) (fun i _ => l.length - (intOf i).toNat)
  case atStart => exact ⟨0, by omega, rfl, fun j _ hj => by omega, H0.out⟩
  case round =>
    obtain ⟨k, hk, rfl, hall, hinv⟩ := hrel
    have HA := Lib.hid hall
    have HI := Lib.hid hinv
    clear hall hinv
    by_cases hlt : k < l.length
    · have HS := Lib.hid (HSS.out k wr HI.out)
      obtain ⟨b, o, rfl, _⟩ := HS.out.open (by omega)
      obtain ⟨x, hx⟩ : ∃ x, x = l[k] := ⟨_, rfl⟩
      obtain ⟨c0, c1, c2, c3, c4, c5, c6⟩ := fls_row HS (Below.refl _ _) k hlt x hx
      have HX := Lib.hid hx
      have t1 : (k : Int) < (l.length : Int) := by omega
      have t2 : (0 : Int) ≤ (k : Int) := by omega
      have HCx := Lib.hid (show Calls Try.prog F (#[.agg #[.int .i64 x.seq, .int .i64 x.note.user, .int .i64 x.note.ver, .int .i64 x.note.stat, .int .i64 x.note.cnt, .int .i64 x.at_, .int .i64 x.tries]] ++ caps) wr fun e W' => e = .returned (.bool (pred x)) ∧ Hid (Inv (k + 1) W') by rw [hx]; exact HC.out k hlt wr HI.out)
      clear hx
      go_wp2_with fail
      refine HCx.out.mono ?_
      rintro e W' ⟨rfl, HI'⟩
      cases hp : pred x
      · have HA2 := Lib.hid (show ∀ j (hj : j < l.length), j < k + 1 → pred l[j] = false by
          intro j hj hjk
          by_cases e : j = k
          · subst e; rw [← HX.out]; exact hp
          · exact HA.out j hj (by omega))
        go_wp2_with fail
        go_roundw
        case rel => exact ⟨k + 1, by omega, by go_num, HA2.out, HI'.out⟩
        case measure => simp [intOf]; omega
      · have HP := Lib.hid (show pred l[k] = true by rw [← HX.out]; exact hp)
        go_wp2_with fail
        go_ret
        exact .inl ⟨k, hlt, HP.out, HA.out, rfl, HI'⟩
    · have hke : k = l.length := by omega
      subst hke
      have t1 : decide ((l.length : Int) < (l.length : Int)) = false := by simp
      go_wp2_with fail
      go_ret
      exact .inr ⟨fun j hj => HA.out j hj hj, rfl, HI⟩

set_option maxHeartbeats 2000000 in
theorem sresend_any (n : Int) (v : Value) (c a : Int) (l : List Fl) (seq now : Int) (w : World) (h : Fls w v l) (hl : l.length ≤ 1000) (hf : ∀ f ∈ l, 0 ≤ f.tries ∧ f.tries ≤ 1073741824)
    (s : Sd) (f : Fl) (ok : Bool) (hr : sdResend ⟨n, l, c, a⟩ seq now = (s, f, ok)) :
    Calls Try.prog 32 #[.agg #[.int .i64 n, v, .int .i64 c, .int .i64 a], .int .i64 seq, .int .i64 now] w (RetSd3 w s f ok) := by
  have HS := Lib.hid h
  obtain ⟨p, cap, rfl, hcap⟩ := fls_shape h
  have HR := Lib.hid hr
  have HF := Lib.hid hf
  clear h hr hf
  go_enter Try.func32, Try.ntmps32
  go_upto_region 1 with fail
  simp only [Nat.add_assoc, Nat.reduceAdd]
  refine gen_wp (fun wa => Hid (wa.heap[w.heap.size]? = some (.cells #[.int .i64 n, .slice p l.length cap, .int .i64 c, .int .i64 a] 24)) ∧ Hid (wa.heap[(w.heap.size + 1)]? = some (.cells #[.int .i64 seq] 3)) ∧ Hid (wa.heap[(w.heap.size + 2)]? = some (.cells #[.int .i64 0, .slice none 0 0, .int .i64 0, .int .i64 0] 24)) ∧ Hid (wa.heap[(w.heap.size + 3)]? = some (.cells #[.int .i64 0, .int .i64 0, .int .i64 0, .int .i64 0, .int .i64 0, .int .i64 0, .int .i64 0] 40)) ∧ Hid (Below w.heap.size w wa) ∧ Hid (wa.heap.size = w.heap.size + 4) ∧ True) ⟨Lib.hid (by first | (simp [World.setCell, Array.getElem?_modify]; done) | (simp [World.setCell, Array.getElem?_modify]; omega) | ((repeat (first | (with_reducible exact heap_new _ _ _ (by first | rfl | (simp; done))) | (with_reducible refine keepa ?_ _) | (simp [World.setCell, Array.getElem?_modify]; done))); done)), Lib.hid (by first | (simp [World.setCell, Array.getElem?_modify]; done) | (simp [World.setCell, Array.getElem?_modify]; omega) | ((repeat (first | (with_reducible exact heap_new _ _ _ (by first | rfl | (simp; done))) | (with_reducible refine keepa ?_ _) | (simp [World.setCell, Array.getElem?_modify]; done))); done)), Lib.hid (by first | (simp [World.setCell, Array.getElem?_modify]; done) | (simp [World.setCell, Array.getElem?_modify]; omega) | ((repeat (first | (with_reducible exact heap_new _ _ _ (by first | rfl | (simp; done))) | (with_reducible refine keepa ?_ _) | (simp [World.setCell, Array.getElem?_modify]; done))); done)), Lib.hid (by first | (simp [World.setCell, Array.getElem?_modify]; done) | (simp [World.setCell, Array.getElem?_modify]; omega) | ((repeat (first | (with_reducible exact heap_new _ _ _ (by first | rfl | (simp; done))) | (with_reducible refine keepa ?_ _) | (simp [World.setCell, Array.getElem?_modify]; done))); done)), Lib.hid (by (repeat (first | (with_reducible exact Below.refl _ _) | (with_reducible refine bel_set (by first | omega | (simp; done) | (simp; omega)) ?_) | (with_reducible refine bel_alloc (by first | omega | (simp; done) | (simp; omega)) ?_) | (with_reducible refine bel_drew ?_) | (with_reducible refine bel_drewN ?_ _))); first | done | fail "left"), Lib.hid (by simp), trivial⟩ ?_
  rintro wa ⟨A1, A2, A3, A4, BA, SZ, -⟩
  have c_A1 := cell_of_block A1.out
  have f_A1 := frozen_of_block A1.out
  have c_A2 := cell_of_block A2.out
  have f_A2 := frozen_of_block A2.out
  have c_A3 := cell_of_block A3.out
  have f_A3 := frozen_of_block A3.out
  have c_A4 := cell_of_block A4.out
  have f_A4 := frozen_of_block A4.out
  go_wp2_with fail
  refine (sown_any _ _ _ _ l _ (HS.out.keep (by decide) BA.out) (by omega)).mono ?_
  rintro e w1 ⟨p1, cap1, rfl, HO1, B1⟩
  replace HO1 := Lib.hid (show Own 40 7 (w.heap.size + 4) w1 (.slice p1 l.length cap1) l.length (flat Fl.cells l) by rw [← SZ.out]; exact HO1.out)
  replace A1 := Lib.hid (keepb A1.out B1.out)
  replace c_A1 := cell_of_block A1.out
  replace f_A1 := frozen_of_block A1.out
  replace A2 := Lib.hid (keepb A2.out B1.out)
  replace c_A2 := cell_of_block A2.out
  replace f_A2 := frozen_of_block A2.out
  replace A3 := Lib.hid (keepb A3.out B1.out)
  replace c_A3 := cell_of_block A3.out
  replace f_A3 := frozen_of_block A3.out
  replace A4 := Lib.hid (keepb A4.out B1.out)
  replace c_A4 := cell_of_block A4.out
  replace f_A4 := frozen_of_block A4.out
  replace BA := Lib.hid (chain BA.out B1.out)
  go_upto_region 2 with fail
  refine gen_wp (fun w2 => Hid (w2.heap[w.heap.size]? = some (.cells #[.int .i64 n, .slice p1 l.length cap1, .int .i64 c, .int .i64 a] 24)) ∧ Hid (w2.heap[(w.heap.size + 1)]? = some (.cells #[.int .i64 seq] 3)) ∧ Hid (w2.heap[(w.heap.size + 2)]? = some (.cells #[.int .i64 0, .slice none 0 0, .int .i64 0, .int .i64 0] 24)) ∧ Hid (w2.heap[(w.heap.size + 3)]? = some (.cells #[.int .i64 0, .int .i64 0, .int .i64 0, .int .i64 0, .int .i64 0, .int .i64 0, .int .i64 0] 40)) ∧ Hid (Below w.heap.size w w2) ∧ Hid (Own 40 7 (w.heap.size + 4) w2 (.slice p1 l.length cap1) l.length (flat Fl.cells l)) ∧ Hid (w.heap.size + 4 ≤ w2.heap.size) ∧ True) ⟨Lib.hid (by first | (simp [World.setCell, Array.getElem?_modify, A1.out, A2.out, A3.out, A4.out]; done) | (simp [World.setCell, Array.getElem?_modify, A1.out, A2.out, A3.out, A4.out]; omega) | ((repeat (first | (with_reducible exact A1.out) | (with_reducible exact A2.out) | (with_reducible exact A3.out) | (with_reducible exact A4.out) | (with_reducible exact heap_new _ _ _ (by first | rfl | (simp; done))) | (with_reducible refine keepa ?_ _) | (simp [World.setCell, Array.getElem?_modify, A1.out, A2.out, A3.out, A4.out]; done))); done)), Lib.hid (by first | (simp [World.setCell, Array.getElem?_modify, A1.out, A2.out, A3.out, A4.out]; done) | (simp [World.setCell, Array.getElem?_modify, A1.out, A2.out, A3.out, A4.out]; omega) | ((repeat (first | (with_reducible exact A1.out) | (with_reducible exact A2.out) | (with_reducible exact A3.out) | (with_reducible exact A4.out) | (with_reducible exact heap_new _ _ _ (by first | rfl | (simp; done))) | (with_reducible refine keepa ?_ _) | (simp [World.setCell, Array.getElem?_modify, A1.out, A2.out, A3.out, A4.out]; done))); done)), Lib.hid (by first | (simp [World.setCell, Array.getElem?_modify, A1.out, A2.out, A3.out, A4.out]; done) | (simp [World.setCell, Array.getElem?_modify, A1.out, A2.out, A3.out, A4.out]; omega) | ((repeat (first | (with_reducible exact A1.out) | (with_reducible exact A2.out) | (with_reducible exact A3.out) | (with_reducible exact A4.out) | (with_reducible exact heap_new _ _ _ (by first | rfl | (simp; done))) | (with_reducible refine keepa ?_ _) | (simp [World.setCell, Array.getElem?_modify, A1.out, A2.out, A3.out, A4.out]; done))); done)), Lib.hid (by first | (simp [World.setCell, Array.getElem?_modify, A1.out, A2.out, A3.out, A4.out]; done) | (simp [World.setCell, Array.getElem?_modify, A1.out, A2.out, A3.out, A4.out]; omega) | ((repeat (first | (with_reducible exact A1.out) | (with_reducible exact A2.out) | (with_reducible exact A3.out) | (with_reducible exact A4.out) | (with_reducible exact heap_new _ _ _ (by first | rfl | (simp; done))) | (with_reducible refine keepa ?_ _) | (simp [World.setCell, Array.getElem?_modify, A1.out, A2.out, A3.out, A4.out]; done))); done)), Lib.hid (by have hbsz := Below.size (BA.out); (repeat (first | (with_reducible exact BA.out) | (with_reducible refine bel_set (by first | omega | (simp; done) | (simp; omega)) ?_) | (with_reducible refine bel_alloc (by first | omega | (simp; done) | (simp; omega)) ?_) | (with_reducible refine bel_drew ?_) | (with_reducible refine bel_drewN ?_ _))); first | done | fail "left"), Lib.hid (by (repeat (first | (with_reducible exact HO1.out) | (with_reducible refine Own.set ?_ _ _ (by first | omega | (simp; done) | (simp; omega))) | (with_reducible refine Own.alloc ?_ _) | (with_reducible refine Own.drew ?_) | (with_reducible refine Own.drewN ?_ _))); first | done | fail "left"), Lib.hid (by simp; have := SZ.out; have := B1.out.size; omega), trivial⟩ ?_
  clear c_A1 f_A1 c_A2 f_A2 c_A3 f_A3 c_A4 f_A4
  rintro w2 ⟨A1, A2, A3, A4, BA, HO1, SZ2, -⟩
  have c_A1 := cell_of_block A1.out
  have f_A1 := frozen_of_block A1.out
  have c_A2 := cell_of_block A2.out
  have f_A2 := frozen_of_block A2.out
  have c_A3 := cell_of_block A3.out
  have f_A3 := frozen_of_block A3.out
  have c_A4 := cell_of_block A4.out
  have f_A4 := frozen_of_block A4.out
  have hc1 : l.length ≤ cap1 := by obtain ⟨_, _, e, h⟩ := HO1.out.shape; cases e; exact h
  go_wp2_with fail
  refine (indexf_any 57 #[.pointer (some ⟨w.heap.size + 1, 0, none⟩)] p1 cap1 l (fun f => decide (f.seq = seq)) (fun _ W => Below w2.heap.size w2 W) w2 cf_resend1 (by omega) hc1 (Below.refl _ _) (fun k W hW => HO1.out.sl.keep (by decide) hW)
    (fun k hk W hW => (resend1_any l[k] _ seq W (keepb A2.out hW)).mono fun e W' ⟨he, hb⟩ => ⟨he, Lib.hid (chain hW hb.out)⟩)).mono ?_
  rintro e w3 (⟨k, hk, hp, hbefore, rfl, B3⟩ | ⟨hnone, rfl, B3⟩)
  · have HE := Lib.hid (show (s, f, ok) = (⟨n, l.set k (flAgain now l[k]), c, a⟩, flAgain now l[k], true) by rw [← HR.out]; unfold sdResend; simp only [resend_some (now := now) hk hp hbefore])
    replace HO1 := Lib.hid (HO1.out.keep B3.out)
    replace A1 := Lib.hid (keepb A1.out B3.out)
    replace c_A1 := cell_of_block A1.out
    replace f_A1 := frozen_of_block A1.out
    replace A2 := Lib.hid (keepb A2.out B3.out)
    replace c_A2 := cell_of_block A2.out
    replace f_A2 := frozen_of_block A2.out
    replace A3 := Lib.hid (keepb A3.out B3.out)
    replace c_A3 := cell_of_block A3.out
    replace f_A3 := frozen_of_block A3.out
    replace A4 := Lib.hid (keepb A4.out B3.out)
    replace c_A4 := cell_of_block A4.out
    replace f_A4 := frozen_of_block A4.out
    replace BA := Lib.hid (chain BA.out B3.out)
    have SZ3 := Lib.hid (Nat.le_trans SZ2.out B3.out.size)
    obtain ⟨x, hx⟩ : ∃ x, x = l[k] := ⟨_, rfl⟩
    obtain ⟨x0, x1⟩ := HF.out x (by rw [hx]; simp)
    rw [← hx] at HE
    have HX := Lib.hid hx
    clear hp hbefore hx
    obtain ⟨g, rfl, hg⟩ := own_at HO1.out (by omega)
    have t1 : (k : Int) < (l.length : Int) := by omega
    have t2 : (0 : Int) ≤ (k : Int) := by omega
    have t3 := dec_f (show ¬ (k : Int) < 0 by omega)
    have FS : Hid (Fls w3 (.slice (some ⟨g, 0, none⟩) l.length cap1) l) := Lib.hid HO1.out.sl
    obtain ⟨c0, c1, c2, c3, c4, c5, c6⟩ := fls_row FS (Below.refl _ _) k hk x HX.out
    simp only [Nat.zero_add] at c0 c1 c2 c3 c4 c5 c6
    have ff := fun i => (HO1.out.frozen i).2.2
    have hne1 : w.heap.size ≠ g := by omega
    have hne2 : w.heap.size + 1 ≠ g := by omega
    have hne3 : w.heap.size + 2 ≠ g := by omega
    have hne4 : w.heap.size + 3 ≠ g := by omega
    go_upto_region 7 with fail
    obtain ⟨m, hm⟩ : ∃ m, m = min (x.tries + 1) 1073741824 := ⟨_, rfl⟩
    rw [show (if 1073741824 < x.tries + 1 then 1073741824 else x.tries + 1) = m by omega]
    have HM := Lib.hid hm
    have HO2 := Lib.hid (show Own 40 7 (w.heap.size + 4) ((w3.setCell ⟨g, k * 7 + 5, none⟩ (.int .i64 now)).setCell ⟨g, k * 7 + 6, none⟩ (.int .i64 m)) (.slice (some ⟨g, 0, none⟩) l.length cap1) l.length (flat Fl.cells (l.set k (flAgain now x))) by
      have h2 := ((HO1.out.store (k * 7 + 5) (.int .i64 now)).2.store (k * 7 + 6) (.int .i64 m)).2
      have e := again_cells hk now
      rw [← HX.out, ← hm] at e
      rw [e] at h2; exact h2)
    clear hm
    refine gen_wp (fun w4 => Hid (w4.heap[w.heap.size]? = some (.cells #[.int .i64 n, .slice (some ⟨g, 0, none⟩) l.length cap1, .int .i64 c, .int .i64 a] 24)) ∧ Hid (w4.heap[(w.heap.size + 1)]? = some (.cells #[.int .i64 seq] 3)) ∧ Hid (w4.heap[(w.heap.size + 2)]? = some (.cells #[.int .i64 0, .slice none 0 0, .int .i64 0, .int .i64 0] 24)) ∧ Hid (w4.heap[(w.heap.size + 3)]? = some (.cells #[.int .i64 0, .int .i64 0, .int .i64 0, .int .i64 0, .int .i64 0, .int .i64 0, .int .i64 0] 40)) ∧ Hid (Below w.heap.size w w4) ∧ Hid (Own 40 7 (w.heap.size + 4) w4 (.slice (some ⟨g, 0, none⟩) l.length cap1) l.length (flat Fl.cells (l.set k (flAgain now x)))) ∧ True) ⟨Lib.hid (by first | (simp [World.setCell, Array.getElem?_modify, A1.out, A2.out, A3.out, A4.out, hne1, hne1.symm, hne2, hne2.symm, hne3, hne3.symm, hne4, hne4.symm]; done) | (simp [World.setCell, Array.getElem?_modify, A1.out, A2.out, A3.out, A4.out, hne1, hne1.symm, hne2, hne2.symm, hne3, hne3.symm, hne4, hne4.symm]; omega) | ((repeat (first | (with_reducible exact A1.out) | (with_reducible exact A2.out) | (with_reducible exact A3.out) | (with_reducible exact A4.out) | (with_reducible exact heap_new _ _ _ (by first | rfl | (simp; done))) | (with_reducible refine keepa ?_ _) | (simp [World.setCell, Array.getElem?_modify, A1.out, A2.out, A3.out, A4.out, hne1, hne1.symm, hne2, hne2.symm, hne3, hne3.symm, hne4, hne4.symm]; done))); done)), Lib.hid (by first | (simp [World.setCell, Array.getElem?_modify, A1.out, A2.out, A3.out, A4.out, hne1, hne1.symm, hne2, hne2.symm, hne3, hne3.symm, hne4, hne4.symm]; done) | (simp [World.setCell, Array.getElem?_modify, A1.out, A2.out, A3.out, A4.out, hne1, hne1.symm, hne2, hne2.symm, hne3, hne3.symm, hne4, hne4.symm]; omega) | ((repeat (first | (with_reducible exact A1.out) | (with_reducible exact A2.out) | (with_reducible exact A3.out) | (with_reducible exact A4.out) | (with_reducible exact heap_new _ _ _ (by first | rfl | (simp; done))) | (with_reducible refine keepa ?_ _) | (simp [World.setCell, Array.getElem?_modify, A1.out, A2.out, A3.out, A4.out, hne1, hne1.symm, hne2, hne2.symm, hne3, hne3.symm, hne4, hne4.symm]; done))); done)), Lib.hid (by first | (simp [World.setCell, Array.getElem?_modify, A1.out, A2.out, A3.out, A4.out, hne1, hne1.symm, hne2, hne2.symm, hne3, hne3.symm, hne4, hne4.symm]; done) | (simp [World.setCell, Array.getElem?_modify, A1.out, A2.out, A3.out, A4.out, hne1, hne1.symm, hne2, hne2.symm, hne3, hne3.symm, hne4, hne4.symm]; omega) | ((repeat (first | (with_reducible exact A1.out) | (with_reducible exact A2.out) | (with_reducible exact A3.out) | (with_reducible exact A4.out) | (with_reducible exact heap_new _ _ _ (by first | rfl | (simp; done))) | (with_reducible refine keepa ?_ _) | (simp [World.setCell, Array.getElem?_modify, A1.out, A2.out, A3.out, A4.out, hne1, hne1.symm, hne2, hne2.symm, hne3, hne3.symm, hne4, hne4.symm]; done))); done)), Lib.hid (by first | (simp [World.setCell, Array.getElem?_modify, A1.out, A2.out, A3.out, A4.out, hne1, hne1.symm, hne2, hne2.symm, hne3, hne3.symm, hne4, hne4.symm]; done) | (simp [World.setCell, Array.getElem?_modify, A1.out, A2.out, A3.out, A4.out, hne1, hne1.symm, hne2, hne2.symm, hne3, hne3.symm, hne4, hne4.symm]; omega) | ((repeat (first | (with_reducible exact A1.out) | (with_reducible exact A2.out) | (with_reducible exact A3.out) | (with_reducible exact A4.out) | (with_reducible exact heap_new _ _ _ (by first | rfl | (simp; done))) | (with_reducible refine keepa ?_ _) | (simp [World.setCell, Array.getElem?_modify, A1.out, A2.out, A3.out, A4.out, hne1, hne1.symm, hne2, hne2.symm, hne3, hne3.symm, hne4, hne4.symm]; done))); done)), Lib.hid (by have hbsz := Below.size (BA.out); (repeat (first | (with_reducible exact BA.out) | (with_reducible refine bel_set (by first | omega | (simp; done) | (simp; omega)) ?_) | (with_reducible refine bel_alloc (by first | omega | (simp; done) | (simp; omega)) ?_) | (with_reducible refine bel_drew ?_) | (with_reducible refine bel_drewN ?_ _))); first | done | fail "left"), Lib.hid HO2.out, trivial⟩ ?_
    clear c_A1 f_A1 c_A2 f_A2 c_A3 f_A3 c_A4 f_A4 c0 c1 c2 c3 c4 c5 c6 ff
    rintro w4 ⟨A1, A2, A3, A4, BA, HO3, -⟩
    have c_A1 := cell_of_block A1.out
    have f_A1 := frozen_of_block A1.out
    have c_A2 := cell_of_block A2.out
    have f_A2 := frozen_of_block A2.out
    have c_A3 := cell_of_block A3.out
    have f_A3 := frozen_of_block A3.out
    have c_A4 := cell_of_block A4.out
    have f_A4 := frozen_of_block A4.out
    have FS4 : Hid (Fls w4 (.slice (some ⟨g, 0, none⟩) l.length cap1) (l.set k (flAgain now x))) := Lib.hid (by have := HO3.out.sl; unfold Fls; rw [List.length_set]; exact this)
    obtain ⟨c0, c1, c2, c3, c4, c5, c6⟩ := fls_row FS4 (Below.refl _ _) k (by rw [List.length_set]; exact hk) (flAgain now x) (by simp)
    simp only [Nat.zero_add, flAgain] at c0 c1 c2 c3 c4 c5 c6
    rw [← HM.out] at c6
    go_region
    cases HE.out
    go_wp2_with fail
    refine bodyPost_ret (v := .tuple #[.agg #[.int .i64 n, .slice (some ⟨g, 0, none⟩) l.length cap1, .int .i64 c, .int .i64 a], .agg #[.int .i64 x.seq, .int .i64 x.note.user, .int .i64 x.note.ver, .int .i64 x.note.stat, .int .i64 x.note.cnt, .int .i64 now, .int .i64 m], .bool true]) (by simp [results, Try.results32, go_sem, c_A3, c_A4]) rfl ⟨some ⟨g, 0, none⟩, cap1, by simp [flAgain, HM.out], Lib.hid ?_, Lib.hid (by have hbsz := Below.size (BA.out); (repeat (first | (with_reducible exact BA.out) | (with_reducible refine bel_set (by first | omega | (simp; done) | (simp; omega)) ?_) | (with_reducible refine bel_alloc (by first | omega | (simp; done) | (simp; omega)) ?_) | (with_reducible refine bel_drew ?_) | (with_reducible refine bel_drewN ?_ _))); first | done | fail "left")⟩
    refine Own.mono (B := w.heap.size + 4) ?_ (by omega)
    have hO : Own 40 7 (w.heap.size + 4) w4 (.slice (some ⟨g, 0, none⟩) (l.set k (flAgain now x)).length cap1) (l.set k (flAgain now x)).length (flat Fl.cells (l.set k (flAgain now x))) := by rw [List.length_set]; exact HO3.out
    show Own 40 7 (w.heap.size + 4) _ (.slice (some ⟨g, 0, none⟩) (l.set k (flAgain now x)).length cap1) (l.set k (flAgain now x)).length (flat Fl.cells (l.set k (flAgain now x)))
    exact (by (repeat (first | (with_reducible exact hO) | (with_reducible refine Own.set ?_ _ _ (by first | omega | (simp; done) | (simp; omega))) | (with_reducible refine Own.alloc ?_ _) | (with_reducible refine Own.drew ?_) | (with_reducible refine Own.drewN ?_ _))); first | done | fail "left")
  · have HE := Lib.hid (show (s, f, ok) = (⟨n, l, c, a⟩, fl0, false) by rw [← HR.out]; unfold sdResend; simp only [resend_none (now := now) hnone])
    replace HO1 := Lib.hid (HO1.out.keep B3.out)
    replace A1 := Lib.hid (keepb A1.out B3.out)
    replace c_A1 := cell_of_block A1.out
    replace f_A1 := frozen_of_block A1.out
    replace A2 := Lib.hid (keepb A2.out B3.out)
    replace c_A2 := cell_of_block A2.out
    replace f_A2 := frozen_of_block A2.out
    replace A3 := Lib.hid (keepb A3.out B3.out)
    replace c_A3 := cell_of_block A3.out
    replace f_A3 := frozen_of_block A3.out
    replace A4 := Lib.hid (keepb A4.out B3.out)
    replace c_A4 := cell_of_block A4.out
    replace f_A4 := frozen_of_block A4.out
    replace BA := Lib.hid (chain BA.out B3.out)
    clear hnone
    cases HE.out
    go_wp2_with fail
    refine bodyPost_ret (v := .tuple #[.agg #[.int .i64 n, .slice p1 l.length cap1, .int .i64 c, .int .i64 a], .agg #[.int .i64 fl0.seq, .int .i64 fl0.note.user, .int .i64 fl0.note.ver, .int .i64 fl0.note.stat, .int .i64 fl0.note.cnt, .int .i64 fl0.at_, .int .i64 fl0.tries], .bool false]) (by simp [results, Try.results32, go_sem, c_A3, c_A4, fl0, nt0]) rfl ⟨p1, cap1, rfl, Lib.hid ?_, Lib.hid (by have hbsz := Below.size (BA.out); (repeat (first | (with_reducible exact BA.out) | (with_reducible refine bel_set (by first | omega | (simp; done) | (simp; omega)) ?_) | (with_reducible refine bel_alloc (by first | omega | (simp; done) | (simp; omega)) ?_) | (with_reducible refine bel_drew ?_) | (with_reducible refine bel_drewN ?_ _))); first | done | fail "left")⟩
    exact Own.mono (B := w.heap.size + 4) (by (repeat (first | (with_reducible exact HO1.out) | (with_reducible refine Own.set ?_ _ _ (by first | omega | (simp; done) | (simp; omega))) | (with_reducible refine Own.alloc ?_ _) | (with_reducible refine Own.drew ?_) | (with_reducible refine Own.drewN ?_ _))); first | done | fail "left") (by omega)
end Go.Proofs.Yteilgibfmljoeaa.K

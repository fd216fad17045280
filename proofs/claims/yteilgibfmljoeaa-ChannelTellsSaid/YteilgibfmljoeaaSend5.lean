/-
  CONTRACT of send.Void.
-/
import Derived.Test.YteilgibfmljoeaaSend4
set_option linter.unusedVariables false
set_option linter.unusedSimpArgs false
namespace Nj
open Go
theorem void_take {user : Int} {l : List Fl} {k : Nat} (hk : k < l.length) : (l.take k).map (flVoid user) ++ l.drop k = (l.take k).map (flVoid user) ++ l[k] :: l.drop (k + 1) := by
  rw [List.drop_eq_getElem_cons hk]
/-- the row behind k rounds of Void -/
def voidRow (user : Int) (l : List Fl) (k : Nat) : List Fl := (l.take k).map (flVoid user) ++ l.drop k
theorem voidRow_len (user : Int) (l : List Fl) (k : Nat) : (voidRow user l k).length = l.length := by
  simp [voidRow]; omega
theorem voidRow_get {user : Int} {l : List Fl} {k : Nat} (hk : k < l.length) : (voidRow user l k)[k]'(by rw [voidRow_len]; exact hk) = l[k] := by
  unfold voidRow
  rw [List.getElem_append_right (by simp; omega)]
  simp [show min k l.length = k by omega]
theorem voidRow_succ {user : Int} {l : List Fl} {k : Nat} (hk : k < l.length) : voidRow user l (k + 1) = (voidRow user l k).set k (flVoid user l[k]) := by
  unfold voidRow
  have e1 : ((l.take k).map (flVoid user)).length = k := by simp; omega
  rw [List.set_append_right _ _ (by omega), e1, Nat.sub_self, List.drop_eq_getElem_cons hk, List.set_cons_zero, List.take_add_one, List.getElem?_eq_getElem hk, Option.toList_some, List.map_append, List.append_assoc]
  rfl
theorem voidRow_all (user : Int) (l : List Fl) : voidRow user l l.length = l.map (flVoid user) := by simp [voidRow]
/-- four stores that make a note empty -/
theorem void_cells {l : List Fl} {k : Nat} (hk : k < l.length) : ((((flat Fl.cells l).set (k * 7 + 1) (.int .i64 0)).set (k * 7 + 2) (.int .i64 0)).set (k * 7 + 3) (.int .i64 0)).set (k * 7 + 4) (.int .i64 0) = flat Fl.cells (l.set k ⟨l[k].seq, nt0, l[k].at_, l[k].tries⟩) := by
  have hlen := flat_length fl_seven l
  have hb : (k + 1) * 7 ≤ l.length * 7 := Nat.mul_le_mul_right _ hk
  refine flat_set fl_seven (by decide) l k hk _ _ (by simp) ?_ ?_
  · intro i hi
    rw [List.getElem?_set_ne (by omega), List.getElem?_set_ne (by omega), List.getElem?_set_ne (by omega), List.getElem?_set_ne (by omega)]
  · intro j hj
    have hg := fun j hj => flat_get fl_seven l k j hk hj
    match j, hj with
    | 0, _ => rw [List.getElem?_set_ne (by omega), List.getElem?_set_ne (by omega), List.getElem?_set_ne (by omega), List.getElem?_set_ne (by omega), hg 0 (by decide)]; rfl
    | 1, _ => rw [List.getElem?_set_ne (by omega), List.getElem?_set_ne (by omega), List.getElem?_set_ne (by omega), List.getElem?_set_self (by omega)]; rfl
    | 2, _ => rw [List.getElem?_set_ne (by omega), List.getElem?_set_ne (by omega), List.getElem?_set_self (by simp; omega)]; rfl
    | 3, _ => rw [List.getElem?_set_ne (by omega), List.getElem?_set_self (by simp; omega)]; rfl
    | 4, _ => rw [List.getElem?_set_self (by simp; omega)]; rfl
    | 5, _ => rw [List.getElem?_set_ne (by omega), List.getElem?_set_ne (by omega), List.getElem?_set_ne (by omega), List.getElem?_set_ne (by omega), hg 5 (by decide)]; rfl
    | 6, _ => rw [List.getElem?_set_ne (by omega), List.getElem?_set_ne (by omega), List.getElem?_set_ne (by omega), List.getElem?_set_ne (by omega), hg 6 (by decide)]; rfl
end Nj
namespace Go.Proofs.Yteilgibfmljoeaa.K
open Go Go.RowKit Nj

theorem own_at {E : TypeId} {B : Nat} {w : World} {p : Option Addr} {n cap : Nat} {L : List Fl} (h : Own E 7 B w (.slice p n cap) n (flat Fl.cells L)) (hn : 0 < n) : ∃ g, p = some ⟨g, 0, none⟩ ∧ B ≤ g := by
  obtain ⟨b, o, rfl, _⟩ := h.sl.open hn
  obtain ⟨rfl, hg, _⟩ := h.frozen 0
  exact ⟨b, rfl, hg⟩

set_option maxHeartbeats 2000000 in
theorem svoid_any (n : Int) (v : Value) (c a : Int) (l : List Fl) (user : Int) (w : World) (h : Fls w v l) (hl : l.length ≤ 1000) :
    Calls Try.prog 47 #[.agg #[.int .i64 n, v, .int .i64 c, .int .i64 a], .int .i64 user] w (RetSd w (sdVoid ⟨n, l, c, a⟩ user)) := by
  have HS := Lib.hid h
  obtain ⟨p, cap, rfl, hcap⟩ := fls_shape h
  clear h
  go_enter Try.func47, Try.ntmps47
  go_upto_region 1 with fail
  refine gen_wp (fun wa => Hid (wa.heap[w.heap.size]? = some (.cells #[.int .i64 n, .slice p l.length cap, .int .i64 c, .int .i64 a] 24)) ∧ Hid (wa.heap[(w.heap.size + 1)]? = some (.cells #[.int .i64 0, .slice none 0 0, .int .i64 0, .int .i64 0] 24)) ∧ Hid (Below w.heap.size w wa) ∧ Hid (wa.heap.size = w.heap.size + 2) ∧ True) ⟨Lib.hid (by first | (simp [World.setCell, Array.getElem?_modify]; done) | (simp [World.setCell, Array.getElem?_modify]; omega) | ((repeat (first | (with_reducible exact heap_new _ _ _ (by first | rfl | (simp; done))) | (with_reducible refine keepa ?_ _) | (simp [World.setCell, Array.getElem?_modify]; done))); done)), Lib.hid (by first | (simp [World.setCell, Array.getElem?_modify]; done) | (simp [World.setCell, Array.getElem?_modify]; omega) | ((repeat (first | (with_reducible exact heap_new _ _ _ (by first | rfl | (simp; done))) | (with_reducible refine keepa ?_ _) | (simp [World.setCell, Array.getElem?_modify]; done))); done)), Lib.hid (by (repeat (first | (with_reducible exact Below.refl _ _) | (with_reducible refine bel_set (by first | omega | (simp; done) | (simp; omega)) ?_) | (with_reducible refine bel_alloc (by first | omega | (simp; done) | (simp; omega)) ?_) | (with_reducible refine bel_drew ?_) | (with_reducible refine bel_drewN ?_ _))); first | done | fail "left"), Lib.hid (by simp), trivial⟩ ?_
  rintro wa ⟨A1, A2, BA, SZ, -⟩
  have c_A1 := cell_of_block A1.out
  have f_A1 := frozen_of_block A1.out
  have c_A2 := cell_of_block A2.out
  have f_A2 := frozen_of_block A2.out
  go_wp2_with fail
  refine (sown_any _ _ _ _ l _ (HS.out.keep (by decide) BA.out) (by omega)).mono ?_
  rintro e w1 ⟨p1, cap1, rfl, HO1, B1⟩
  replace HO1 := Lib.hid (show Own 40 7 (w.heap.size + 2) w1 (.slice p1 l.length cap1) l.length (flat Fl.cells l) by rw [← SZ.out]; exact HO1.out)
  have hc1 : l.length ≤ cap1 := by obtain ⟨_, _, e, h⟩ := HO1.out.shape; cases e; exact h
  replace A1 := Lib.hid (keepb A1.out B1.out)
  replace c_A1 := cell_of_block A1.out
  replace f_A1 := frozen_of_block A1.out
  replace A2 := Lib.hid (keepb A2.out B1.out)
  replace c_A2 := cell_of_block A2.out
  replace f_A2 := frozen_of_block A2.out
  replace BA := Lib.hid (chain BA.out B1.out)
  go_upto_region 2 with fail
  refine gen_wp (fun w2 => Hid (w2.heap[w.heap.size]? = some (.cells #[.int .i64 n, .slice p1 l.length cap1, .int .i64 c, .int .i64 a] 24)) ∧ Hid (w2.heap[(w.heap.size + 1)]? = some (.cells #[.int .i64 0, .slice none 0 0, .int .i64 0, .int .i64 0] 24)) ∧ Hid (Below w.heap.size w w2) ∧ Hid (Own 40 7 (w.heap.size + 2) w2 (.slice p1 l.length cap1) l.length (flat Fl.cells l)) ∧ True) ⟨Lib.hid (by first | (simp [World.setCell, Array.getElem?_modify, A1.out, A2.out]; done) | (simp [World.setCell, Array.getElem?_modify, A1.out, A2.out]; omega) | ((repeat (first | (with_reducible exact A1.out) | (with_reducible exact A2.out) | (with_reducible exact heap_new _ _ _ (by first | rfl | (simp; done))) | (with_reducible refine keepa ?_ _) | (simp [World.setCell, Array.getElem?_modify, A1.out, A2.out]; done))); done)), Lib.hid (by first | (simp [World.setCell, Array.getElem?_modify, A1.out, A2.out]; done) | (simp [World.setCell, Array.getElem?_modify, A1.out, A2.out]; omega) | ((repeat (first | (with_reducible exact A1.out) | (with_reducible exact A2.out) | (with_reducible exact heap_new _ _ _ (by first | rfl | (simp; done))) | (with_reducible refine keepa ?_ _) | (simp [World.setCell, Array.getElem?_modify, A1.out, A2.out]; done))); done)), Lib.hid (by have hbsz := Below.size (BA.out); (repeat (first | (with_reducible exact BA.out) | (with_reducible refine bel_set (by first | omega | (simp; done) | (simp; omega)) ?_) | (with_reducible refine bel_alloc (by first | omega | (simp; done) | (simp; omega)) ?_) | (with_reducible refine bel_drew ?_) | (with_reducible refine bel_drewN ?_ _))); first | done | fail "left"), Lib.hid (by (repeat (first | (with_reducible exact HO1.out) | (with_reducible refine Own.set ?_ _ _ (by first | omega | (simp; done) | (simp; omega))) | (with_reducible refine Own.alloc ?_ _) | (with_reducible refine Own.drew ?_) | (with_reducible refine Own.drewN ?_ _))); first | done | fail "left"), trivial⟩ ?_
  clear c_A1 f_A1 c_A2 f_A2
  rintro w2 ⟨A1, A2, BA, HO1, -⟩
  have c_A1 := cell_of_block A1.out
  have f_A1 := frozen_of_block A1.out
  have c_A2 := cell_of_block A2.out
  have f_A2 := frozen_of_block A2.out
  go_wp2_with fail
  go_loopw [11] (fun i wr => ∃ k : Nat, k ≤ l.length ∧ i = .int .i64 k ∧ Own 40 7 (w.heap.size + 2) wr (.slice p1 l.length cap1) l.length (flat Fl.cells (voidRow user l k)) ∧ wr.heap[w.heap.size]? = some (.cells #[.int .i64 n, .slice p1 l.length cap1, .int .i64 c, .int .i64 a] 24) ∧ wr.heap[w.heap.size + 1]? = some (.cells #[.int .i64 0, .slice none 0 0, .int .i64 0, .int .i64 0] 24) ∧ Below w.heap.size w wr) (fun i _ => l.length - (intOf i).toNat)
  case atStart => exact ⟨0, by omega, rfl, HO1.out, A1.out, A2.out, BA.out⟩
  case round =>
    obtain ⟨k, hk, rfl, hown, ha1, ha2, hwb⟩ := hrel
    clear c_A1 f_A1 c_A2 f_A2
    replace HO1 := Lib.hid hown
    replace A1 := Lib.hid ha1
    replace A2 := Lib.hid ha2
    have HW := Lib.hid hwb
    have c_A1 := cell_of_block ha1
    have f_A1 := frozen_of_block ha1
    have c_A2 := cell_of_block ha2
    have f_A2 := frozen_of_block ha2
    clear hown ha1 ha2 hwb
    by_cases hlt : k < l.length
    · obtain ⟨g, rfl, hg⟩ := own_at HO1.out (by omega)
      obtain ⟨f, hf⟩ : ∃ f, f = l[k] := ⟨_, rfl⟩
      have HF := Lib.hid hf
      have hk2 : k < (voidRow user l k).length := by rw [voidRow_len]; exact hlt
      have FS : Hid (Fls wr (.slice (some ⟨g, 0, none⟩) l.length cap1) (voidRow user l k)) := Lib.hid (by unfold Fls; rw [voidRow_len]; exact HO1.out.sl)
      obtain ⟨c0, c1, c2, c3, c4, c5, c6⟩ := fls_row FS (Below.refl _ _) k hk2 f (by rw [voidRow_get hlt]; exact hf)
      simp only [Nat.zero_add] at c0 c1 c2 c3 c4 c5 c6
      have ff := fun i => (HO1.out.frozen i).2.2
      have t1 : (k : Int) < (l.length : Int) := by omega
      have t2 : (0 : Int) ≤ (k : Int) := by omega
      have hne1 : w.heap.size ≠ g := by omega
      have hne2 : w.heap.size + 1 ≠ g := by omega
      clear hf
      by_cases hu : f.note.user = user
      · have t3 : (f.note.user == user) = true := by simpa using hu
        go_wp2_with fail
        go_roundw
        case rel =>
          refine ⟨k + 1, by omega, by go_num, ?_, by simp [World.setCell, Array.getElem?_modify, A1.out, hne1, hne1.symm], by simp [World.setCell, Array.getElem?_modify, A2.out, hne2, hne2.symm], (by have hbsz := Below.size (HW.out); (repeat (first | (with_reducible exact HW.out) | (with_reducible refine bel_set (by first | omega | (simp; done) | (simp; omega)) ?_) | (with_reducible refine bel_alloc (by first | omega | (simp; done) | (simp; omega)) ?_) | (with_reducible refine bel_drew ?_) | (with_reducible refine bel_drewN ?_ _))); first | done | fail "left")⟩
          have h4 := ((((HO1.out.store (k * 7 + 1) (.int .i64 0)).2.store (k * 7 + 2) (.int .i64 0)).2.store (k * 7 + 3) (.int .i64 0)).2.store (k * 7 + 4) (.int .i64 0)).2
          rw [void_cells hk2] at h4
          rw [voidRow_succ hlt, ← HF.out, flVoid, if_pos hu]
          have : (voidRow user l k)[k] = f := by rw [voidRow_get hlt]; exact HF.out.symm
          rw [this] at h4
          exact h4
        case measure => simp [intOf]; omega
      · have t3 : (f.note.user == user) = false := by simpa using hu
        go_wp2_with fail
        go_roundw
        case rel =>
          refine ⟨k + 1, by omega, by go_num, ?_, A1.out, A2.out, HW.out⟩
          have e : voidRow user l (k + 1) = voidRow user l k := by
            rw [voidRow_succ hlt, ← HF.out, flVoid, if_neg hu]
            have : f = (voidRow user l k)[k] := by rw [voidRow_get hlt]; exact HF.out
            rw [this]; simp
          rw [e]; exact HO1.out
        case measure => simp [intOf]; omega
    · have hke : k = l.length := by omega
      subst hke
      have hv : voidRow user l l.length = l.map (flVoid user) := voidRow_all user l
      have t1 : decide ((l.length : Int) < (l.length : Int)) = false := by simp
      have HO2 := Lib.hid (show Own 40 7 (w.heap.size + 2) wr (.slice p1 (l.map (flVoid user)).length cap1) (l.map (flVoid user)).length (flat Fl.cells (l.map (flVoid user))) by
        have := HO1.out; rw [hv] at this; simpa using this)
      clear hv
      go_wp2_with fail
      refine bodyPost_ret (v := .agg #[.int .i64 n, .slice p1 l.length cap1, .int .i64 c, .int .i64 a]) (by simp [results, Try.results47, go_sem, c_A2]) rfl ⟨p1, cap1, by simp [sdVoid], Lib.hid ?_, Lib.hid (by have hbsz := Below.size (HW.out); (repeat (first | (with_reducible exact HW.out) | (with_reducible refine bel_set (by first | omega | (simp; done) | (simp; omega)) ?_) | (with_reducible refine bel_alloc (by first | omega | (simp; done) | (simp; omega)) ?_) | (with_reducible refine bel_drew ?_) | (with_reducible refine bel_drewN ?_ _))); first | done | fail "left")⟩
      refine Own.mono (B := w.heap.size + 2) ?_ (by omega)
      show Own 40 7 (w.heap.size + 2) _ (.slice p1 (l.map (flVoid user)).length cap1) (l.map (flVoid user)).length (flat Fl.cells (l.map (flVoid user)))
      exact (by (repeat (first | (with_reducible exact HO2.out) | (with_reducible refine Own.set ?_ _ _ (by first | omega | (simp; done) | (simp; omega))) | (with_reducible refine Own.alloc ?_ _) | (with_reducible refine Own.drew ?_) | (with_reducible refine Own.drewN ?_ _))); first | done | fail "left")
end Go.Proofs.Yteilgibfmljoeaa.K

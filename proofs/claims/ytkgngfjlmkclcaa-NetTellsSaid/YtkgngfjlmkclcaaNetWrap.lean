/-
  Take and Lose of a net that holds n, the program's and the document's.
-/
import Derived.Test.YtkgngfjlmkclcaaNetRef4
set_option linter.unusedVariables false
set_option linter.unusedSimpArgs false
namespace Go.Proofs.Ytkgngfjlmkclcaa.K
open Go Go.RowKit Nj

/-- what Take tells and leaves -/
def TookR (Tn : TypeId) (B nb : Nat) (S T : Nat → Prop) (n : Nw) (k : Int) (w : World) (e : Ending) (w' : World) : Prop :=
  (n.l.length = 0 ∧ e = .returned (.tuple #[.agg #[.int .i64 0, .int .i64 0, .slice none 0 0], .bool false]) ∧ Hid (Below w.heap.size w w')) ∨
  (0 < n.l.length ∧ ∃ d : Dv, n.l[ntPlace k n.l.length]? = some d.con ∧ e = .returned (.tuple #[.agg #[.int .i64 d.fr, .int .i64 d.tt, .slice d.p d.bs.length d.cap], .bool true]) ∧
    Hid (NetT Tn B nb (fun b => S b ∨ w.heap.size ≤ b) T (ntTake n k) w') ∧ Hid (OwnB 5 B w' d) ∧ Hid (∀ b, d.sl.ownBlock = some b → T b) ∧ Hid (Mod (fun b => S b ∨ b = nb) w w'))
/-- what Lose tells and leaves -/
def LostR (Tn : TypeId) (B nb : Nat) (S T : Nat → Prop) (n : Nw) (k : Int) (w : World) (e : Ending) (w' : World) : Prop :=
  (n.l.length = 0 ∧ e = .returned (.bool false) ∧ Hid (Below w.heap.size w w')) ∨
  (0 < n.l.length ∧ e = .returned (.bool true) ∧ Hid (NetT Tn B nb (fun b => S b ∨ w.heap.size ≤ b) T ⟨(ntTake n k).l, n.g + 1⟩ w') ∧ Hid (Mod (fun b => S b ∨ b = nb) w w'))

theorem map_eraseIdx {α β : Type} (f : α → β) : ∀ (l : List α) (i : Nat), (l.eraseIdx i).map f = (l.map f).eraseIdx i
  | [], _ => rfl
  | _ :: _, 0 => rfl
  | x :: l, i + 1 => by simp [map_eraseIdx f l i]
theorem row_erase {p : Option Addr} {cap : Nat} {m m' b : Nat} (h : (Value.slice p m cap).ownBlock = some b) : (Value.slice p m' cap).ownBlock = some b := by
  cases p with
  | none => cases h
  | some a => exact h

theorem ntake_r (B nb : Nat) (S T : Nat → Prop) (n : Nw) (k : Int) (w : World) (h : NetR B nb S T n w) (hl : n.l.length ≤ 64) (hk : -9223372036854775808 ≤ k ∧ k ≤ 9223372036854775807) :
    Calls Try.prog 12 #[.pointer (some ⟨nb, 0, none⟩), .int .i64 k] w (TookR 49 B nb S T n k w) := by
  obtain ⟨p, cap, ds, hds, hn, hS, hT⟩ := h
  have hlen : ds.length = n.l.length := by rw [← hds, List.length_map]
  by_cases h0 : ds.length = 0
  · have e0 := List.length_eq_zero_iff.1 h0
    subst e0
    exact (ntake_none B nb p cap n.g k w hn hk).mono fun e w' ⟨he, hb⟩ => .inl ⟨by rw [← hlen]; rfl, he, hb⟩
  · refine (ntake_some B nb p cap ds n.g k w hn (by omega) (by omega) hk).mono fun e w' ⟨d, i, hi, hd, he, hN, hO, hM⟩ => .inr ⟨by omega, d, ?_, he, Lib.hid ?_, hO, Lib.hid ?_, Lib.hid ?_⟩
    · rw [← hlen, ← hi, ← hds, List.getElem?_map, hd]; rfl
    · refine ⟨p, cap, ds.eraseIdx i, ?_, hN.out, fun b hb => .inl (hS b (row_erase hb)), fun x hx => hT x (List.mem_of_mem_eraseIdx hx)⟩
      show _ = n.l.eraseIdx _
      rw [map_eraseIdx, hds, hi, hlen]
    · exact hT d (List.mem_of_getElem? hd)
    · exact hM.out.mono fun b hb => hb.elim (fun h => .inl (hS b h)) .inr
theorem nlose_r (B nb : Nat) (S T : Nat → Prop) (n : Nw) (k : Int) (w : World) (h : NetR B nb S T n w) (hl : n.l.length ≤ 64) (hk : -9223372036854775808 ≤ k ∧ k ≤ 9223372036854775807) (hg : 0 ≤ n.g ∧ n.g ≤ 1099511627776) :
    Calls Try.prog 15 #[.pointer (some ⟨nb, 0, none⟩), .int .i64 k] w (LostR 49 B nb S T n k w) := by
  obtain ⟨p, cap, ds, hds, hn, hS, hT⟩ := h
  have hlen : ds.length = n.l.length := by rw [← hds, List.length_map]
  by_cases h0 : ds.length = 0
  · have e0 := List.length_eq_zero_iff.1 h0
    subst e0
    exact (nlose_none B nb p cap n.g k w hn hk).mono fun e w' ⟨he, hb⟩ => .inl ⟨by rw [← hlen]; rfl, he, hb⟩
  · refine (nlose_some B nb p cap ds n.g k w hn (by omega) (by omega) hk hg).mono fun e w' ⟨i, hi, he, hN, hM⟩ => .inr ⟨by omega, he, Lib.hid ?_, Lib.hid ?_⟩
    · refine ⟨p, cap, ds.eraseIdx i, ?_, hN.out, fun b hb => .inl (hS b (row_erase hb)), fun x hx => hT x (List.mem_of_mem_eraseIdx hx)⟩
      show _ = n.l.eraseIdx _
      rw [map_eraseIdx, hds, hi, hlen]
    · exact hM.out.mono fun b hb => hb.elim (fun h => .inl (hS b h)) .inr
theorem qtake_r (B nb : Nat) (S T : Nat → Prop) (n : Nw) (k : Int) (w : World) (h : NetQ B nb S T n w) (hB : B ≤ w.heap.size) (hl : n.l.length ≤ 64) (hk : -9223372036854775808 ≤ k ∧ k ≤ 9223372036854775807) :
    Calls Try.prog 13 #[.pointer (some ⟨nb, 0, none⟩), .int .i64 k] w (TookR 43 B nb S T n k w) := by
  obtain ⟨p, cap, ds, hds, hn, hS, hT⟩ := h
  have hlen : ds.length = n.l.length := by rw [← hds, List.length_map]
  by_cases h0 : ds.length = 0
  · have e0 := List.length_eq_zero_iff.1 h0
    subst e0
    exact (qtake_none B nb p cap n.g k w hn hk).mono fun e w' ⟨he, hb⟩ => .inl ⟨by rw [← hlen]; rfl, he, hb⟩
  · refine (qtake_some B nb p cap ds n.g k w hn hB (by omega) (by omega) hk).mono fun e w' ⟨d, i, p', cap', hi, hd, he, hN, hP, hO, hM⟩ => .inr ⟨by omega, d, ?_, he, Lib.hid ?_, hO, Lib.hid ?_, Lib.hid ?_⟩
    · rw [← hlen, ← hi, ← hds, List.getElem?_map, hd]; rfl
    · refine ⟨p', cap', ds.eraseIdx i, ?_, hN.out, fun b hb => .inr (hP.out b hb), fun x hx => hT x (List.mem_of_mem_eraseIdx hx)⟩
      show _ = n.l.eraseIdx _
      rw [map_eraseIdx, hds, hi, hlen]
    · exact hT d (List.mem_of_getElem? hd)
    · exact hM.out.mono fun b hb => .inr hb
theorem qlose_r (B nb : Nat) (S T : Nat → Prop) (n : Nw) (k : Int) (w : World) (h : NetQ B nb S T n w) (hB : B ≤ w.heap.size) (hl : n.l.length ≤ 64) (hk : -9223372036854775808 ≤ k ∧ k ≤ 9223372036854775807) (hg : 0 ≤ n.g ∧ n.g ≤ 1099511627776) :
    Calls Try.prog 16 #[.pointer (some ⟨nb, 0, none⟩), .int .i64 k] w (LostR 43 B nb S T n k w) := by
  obtain ⟨p, cap, ds, hds, hn, hS, hT⟩ := h
  have hlen : ds.length = n.l.length := by rw [← hds, List.length_map]
  by_cases h0 : ds.length = 0
  · have e0 := List.length_eq_zero_iff.1 h0
    subst e0
    exact (qlose_none B nb p cap n.g k w hn hk).mono fun e w' ⟨he, hb⟩ => .inl ⟨by rw [← hlen]; rfl, he, hb⟩
  · refine (qlose_some B nb p cap ds n.g k w hn hB (by omega) (by omega) hk hg).mono fun e w' ⟨i, p', cap', hi, he, hN, hP, hM⟩ => .inr ⟨by omega, he, Lib.hid ?_, Lib.hid ?_⟩
    · refine ⟨p', cap', ds.eraseIdx i, ?_, hN.out, fun b hb => .inr (hP.out b hb), fun x hx => hT x (List.mem_of_mem_eraseIdx hx)⟩
      show _ = n.l.eraseIdx _
      rw [map_eraseIdx, hds, hi, hlen]
    · exact hM.out.mono fun b hb => .inr hb
/-- Len, Lost -/
theorem nlen_r (B nb : Nat) (S T : Nat → Prop) (n : Nw) (w : World) (h : NetR B nb S T n w) : Calls Try.prog 21 #[.pointer (some ⟨nb, 0, none⟩)] w fun e w' => e = .returned (.int .i64 n.l.length) ∧ w = w' := by
  obtain ⟨p, cap, ds, hds, hn, hS, hT⟩ := h
  rw [← hds, List.length_map]
  exact nlen_any nb p ds.length cap n.g w hn.box
theorem nlost_r (B nb : Nat) (S T : Nat → Prop) (n : Nw) (w : World) (h : NetR B nb S T n w) : Calls Try.prog 23 #[.pointer (some ⟨nb, 0, none⟩)] w fun e w' => e = .returned (.int .i64 n.g) ∧ w = w' := by
  obtain ⟨p, cap, ds, hds, hn, hS, hT⟩ := h
  exact nlost_any nb _ n.g w hn.box
theorem qlen_r (B nb : Nat) (S T : Nat → Prop) (n : Nw) (w : World) (h : NetQ B nb S T n w) : Calls Try.prog 22 #[.pointer (some ⟨nb, 0, none⟩)] w fun e w' => e = .returned (.int .i64 n.l.length) ∧ w = w' := by
  obtain ⟨p, cap, ds, hds, hn, hS, hT⟩ := h
  rw [← hds, List.length_map]
  exact qlen_any nb p ds.length cap n.g w hn.box
theorem qlost_r (B nb : Nat) (S T : Nat → Prop) (n : Nw) (w : World) (h : NetQ B nb S T n w) : Calls Try.prog 24 #[.pointer (some ⟨nb, 0, none⟩)] w fun e w' => e = .returned (.int .i64 n.g) ∧ w = w' := by
  obtain ⟨p, cap, ds, hds, hn, hS, hT⟩ := h
  exact qlost_any nb _ n.g w hn.box
theorem nnew_r (w : World) : Calls Try.prog 8 #[] w fun e w' => e = .returned (.pointer (some ⟨w.heap.size, 0, none⟩)) ∧ Hid (∀ B, NetR B w.heap.size (fun _ => False) (fun _ => False) ⟨[], 0⟩ w') ∧ Hid (Below w.heap.size w w') := 
  (nnew_any w).mono fun e w' ⟨he, hn, hb⟩ => ⟨he, Lib.hid (show ∀ B, NetR B w.heap.size (fun _ => False) (fun _ => False) ⟨[], 0⟩ w' from fun B => ⟨none, 0, [], rfl, ⟨hn.out.box, own_nil _ _ _ _, fun d hd => by cases hd⟩, fun b hb => (by cases hb), fun e he => (by cases he)⟩), hb⟩
theorem qnew_r (w : World) : Calls Try.prog 9 #[] w fun e w' => e = .returned (.pointer (some ⟨w.heap.size, 0, none⟩)) ∧ Hid (∀ B, NetQ B w.heap.size (fun _ => False) (fun _ => False) ⟨[], 0⟩ w') ∧ Hid (Below w.heap.size w w') := 
  (qnew_any w).mono fun e w' ⟨he, hn, hb⟩ => ⟨he, Lib.hid (show ∀ B, NetQ B w.heap.size (fun _ => False) (fun _ => False) ⟨[], 0⟩ w' from fun B => ⟨none, 0, [], rfl, ⟨hn.out.box, own_nil _ _ _ _, fun d hd => by cases hd⟩, fun b hb => (by cases hb), fun e he => (by cases he)⟩), hb⟩
end Go.Proofs.Ytkgngfjlmkclcaa.K

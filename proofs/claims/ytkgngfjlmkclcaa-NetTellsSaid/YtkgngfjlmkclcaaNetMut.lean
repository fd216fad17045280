/-
  DATAGRAMS OF THE CALL's OWN THAT ARE WRITTEN OVER: what stays when a number or a byte of one is written. No program. No condition.
-/
import Derived.Test.YtkgngfjlmkclcaaNetWrap
import Derived.Test.YtkgngfjlmkclcaaBox
set_option linter.unusedVariables false
set_option linter.unusedSimpArgs false
namespace Nj
open Go Go.RowKit
/-- a row of datagrams in block g, whatever their numbers and bytes: where each one's bytes lie stays -/
def MutS (E Eb : TypeId) (B g cap : Nat) (ds : List Dv) (w : World) : Prop :=
  ∃ cs : List Value, Own E 3 B w (.slice (some ⟨g, 0, none⟩) ds.length cap) ds.length cs ∧ (∀ i (h : i < ds.length), cs[i * 3 + 2]? = some ds[i].sl) ∧ ∀ d ∈ ds, ∃ bs, Own Eb 1 B w d.sl d.bs.length bs
section
variable {E Eb : TypeId} {B g cap : Nat} {ds : List Dv} {w : World}
theorem MutS.cell (h : MutS E Eb B g cap ds w) (i : Nat) (hi : i < ds.length) : w.cell? ⟨g, i * 3 + 2, none⟩ = some ds[i].sl := by
  obtain ⟨cs, h1, h2, -⟩ := h
  obtain ⟨b, o, e, hd⟩ := h1.sl.open (by omega)
  cases e
  have hlt : i * 3 + 2 < cs.length := by
    have := h1.1
    rw [this]; omega
  have := hd (i * 3 + 2) hlt
  rw [Nat.zero_add] at this
  rw [this, ← h2 i hi, List.getElem?_eq_getElem hlt]
theorem MutS.there (h : MutS E Eb B g cap ds w) (i j : Nat) (hi : i < ds.length) (hj : j < 3) : (∃ v, w.cell? ⟨g, i * 3 + j, none⟩ = some v) ∧ w.frozen? ⟨g, i * 3 + j, none⟩ = false := by
  obtain ⟨cs, h1, -, -⟩ := h
  refine ⟨Option.isSome_iff_exists.1 (h1.cells_there (i * 3 + j) ?_), (h1.frozen _).2.2⟩
  have hc : ds.length ≤ cap := by obtain ⟨_, _, e, h⟩ := h1.shape; cases e; exact h
  omega
theorem MutS.lt (h : MutS E Eb B g cap ds w) : B ≤ g ∧ g < w.heap.size := by
  obtain ⟨cs, h1, -, -⟩ := h
  exact ⟨h1.block g rfl, h1.lt g rfl⟩
theorem MutS.byte (h : MutS E Eb B g cap ds w) (d : Dv) (hd : d ∈ ds) (hpos : 0 < d.bs.length) : ∃ gb, d.p = some ⟨gb, 0, none⟩ ∧ B ≤ gb ∧ gb < w.heap.size ∧ ∀ j, j < d.bs.length → (∃ v, w.cell? ⟨gb, j, none⟩ = some v) ∧ w.frozen? ⟨gb, j, none⟩ = false := by
  obtain ⟨cs, -, -, h3⟩ := h
  obtain ⟨bs, hb⟩ := h3 d hd
  obtain ⟨fr, tt, p, c, l⟩ := d
  simp only [Dv.sl] at hb hpos ⊢
  rcases own_head hb with e | ⟨gb, e⟩
  · subst e
    obtain ⟨b, o, e, _⟩ := hb.sl.open hpos
    cases e
  · subst e
    refine ⟨gb, rfl, hb.block gb rfl, hb.lt gb rfl, fun j hj => ⟨Option.isSome_iff_exists.1 (hb.cells_there j ?_), (hb.frozen _).2.2⟩⟩
    have hc : l.length ≤ c := by obtain ⟨_, _, e, h⟩ := hb.shape; cases e; exact h
    omega
/-- whatever own slice: a store into whatever block: it holds something still -/
theorem own_some {sz : Nat} {v : Value} {n : Nat} {cells : List Value} (h : Own Eb sz B w v n cells) (gb j : Nat) (u : Value) : ∃ cells', Own Eb sz B (w.setCell ⟨gb, j, none⟩ u) v n cells' := by
  by_cases he : v.ownBlock = some gb
  · obtain ⟨p, c, rfl, _⟩ := h.shape
    rcases own_head h with e | ⟨g', e⟩
    · subst e; cases he
    · subst e
      have e1 : g' = gb := by simpa [Value.ownBlock] using he
      subst e1
      exact ⟨_, (h.store j u).2⟩
  · exact ⟨cells, h.mod (S := fun b => b = gb) (Mod.set (Mod.refl _ _) _ _ (.inl rfl)) (fun k hk e => he (by subst e; exact hk))⟩
theorem MutS.set_to (hE : E ≠ Eb) (h : MutS E Eb B g cap ds w) (i : Nat) (u : Value) : MutS E Eb B g cap ds (w.setCell ⟨g, i * 3 + 1, none⟩ u) := by
  obtain ⟨cs, h1, h2, h3⟩ := h
  refine ⟨cs.set (i * 3 + 1) u, (h1.store (i * 3 + 1) u).2, fun k hk => ?_, fun d hd => ?_⟩
  · rw [List.getElem?_set_ne (by omega)]; exact h2 k hk
  · obtain ⟨bs, hb⟩ := h3 d hd
    exact own_some hb g _ u
theorem MutS.set_byte (hE : E ≠ Eb) (h : MutS E Eb B g cap ds w) (d : Dv) (hd : d ∈ ds) (gb : Nat) (hp : d.p = some ⟨gb, 0, none⟩) (j : Nat) (u : Value) : MutS E Eb B g cap ds (w.setCell ⟨gb, j, none⟩ u) := by
  obtain ⟨cs, h1, h2, h3⟩ := h
  refine ⟨cs, h1.mod (S := fun b => b = gb) (Mod.set (Mod.refl _ _) _ _ (.inl rfl)) (fun k hk e => ?_), h2, fun x hx => ?_⟩
  · subst e
    obtain ⟨bs, hb⟩ := h3 d hd
    exact own_apart h1 hb hE k hk (by simp [Dv.sl, hp, Value.ownBlock])
  · obtain ⟨bs, hb⟩ := h3 x hx
    exact own_some hb gb _ u
theorem muts_of_all {B : Nat} {w : World} {g cap : Nat} {ds : List Dv} (h : Own E 3 B w (.slice (some ⟨g, 0, none⟩) ds.length cap) ds.length (flat Dv.cells ds)) (hb : ∀ d ∈ ds, OwnB Eb B w d) : MutS E Eb B g cap ds w :=
  ⟨_, h, fun i hi => flat_get dv_three ds i 2 hi (by decide), fun d hd => ⟨_, hb d hd⟩⟩
end
end Nj

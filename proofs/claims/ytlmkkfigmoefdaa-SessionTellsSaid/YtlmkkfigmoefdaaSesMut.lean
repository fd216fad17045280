/-
  SESSIONS OF THE CALL's OWN THAT ARE WRITTEN OVER: what stays when an ID, or the time of a beat, is written. No condition.
-/
import Derived.Test.YtlmkkfigmoefdaaSes10
set_option linter.unusedVariables false
set_option linter.unusedSimpArgs false
namespace Nj
open Go Go.RowKit
/-- where an own slice lies: at the head of a block, or it is nil -/
theorem own_heads {E : TypeId} {sz B : Nat} {w : World} {p : Option Addr} {n m cap : Nat} {cs : List Value} (h : Own E sz B w (.slice p n cap) m cs) : p = none ∨ ∃ g, p = some ⟨g, 0, none⟩ := by
  obtain ⟨_, ⟨h, _⟩ | ⟨g, cap', cur, h, _⟩⟩ := h
  · cases h; exact .inl rfl
  · cases h; exact .inr ⟨g, rfl⟩
/-- a session's beats, as a slice -/
def Sv.bsl (x : Sv) : Value := .slice x.pb x.s.beats.length x.cb
/-- a row of sessions in block g, whatever their numbers: where each one's beats lie stays -/
def MutS (E Eb : TypeId) (B g cap : Nat) (ds : List Sv) (w : World) : Prop :=
  ∃ cs : List Value, Own E 35 B w (.slice (some ⟨g, 0, none⟩) ds.length cap) ds.length cs ∧ (∀ i (h : i < ds.length), cs[i * 35 + 23]? = some ds[i].bsl) ∧ ∀ d ∈ ds, ∃ bs, Own Eb 2 B w d.bsl d.s.beats.length bs
section
variable {E Eb : TypeId} {B g cap : Nat} {ds : List Sv} {w : World}
theorem MutS.cell (h : MutS E Eb B g cap ds w) (i : Nat) (hi : i < ds.length) : w.cell? ⟨g, i * 35 + 23, none⟩ = some ds[i].bsl := by
  obtain ⟨cs, h1, h2, -⟩ := h
  obtain ⟨b, o, e, hd⟩ := h1.sl.open (by omega)
  cases e
  have hlt : i * 35 + 23 < cs.length := by
    have := h1.1
    rw [this]; omega
  have := hd (i * 35 + 23) hlt
  rw [Nat.zero_add] at this
  rw [this, ← h2 i hi, List.getElem?_eq_getElem hlt]
theorem MutS.there (h : MutS E Eb B g cap ds w) (i j : Nat) (hi : i < ds.length) (hj : j < 35) : (∃ v, w.cell? ⟨g, i * 35 + j, none⟩ = some v) ∧ w.frozen? ⟨g, i * 35 + j, none⟩ = false := by
  obtain ⟨cs, h1, -, -⟩ := h
  refine ⟨Option.isSome_iff_exists.1 (h1.cells_there (i * 35 + j) ?_), (h1.frozen _).2.2⟩
  have hc : ds.length ≤ cap := by obtain ⟨_, _, e, h⟩ := h1.shape; cases e; exact h
  omega
theorem MutS.lt (h : MutS E Eb B g cap ds w) : B ≤ g ∧ g < w.heap.size := by
  obtain ⟨cs, h1, -, -⟩ := h
  exact ⟨h1.block g rfl, h1.lt g rfl⟩
theorem MutS.beat (h : MutS E Eb B g cap ds w) (d : Sv) (hd : d ∈ ds) (hpos : 0 < d.s.beats.length) : ∃ gb, d.pb = some ⟨gb, 0, none⟩ ∧ B ≤ gb ∧ gb < w.heap.size ∧ ∀ j, j < d.s.beats.length → (∃ v, w.cell? ⟨gb, j * 2 + 1, none⟩ = some v) ∧ w.frozen? ⟨gb, j * 2 + 1, none⟩ = false := by
  obtain ⟨cs, -, -, h3⟩ := h
  obtain ⟨bs, hb⟩ := h3 d hd
  obtain ⟨s, pb, cb, pf, cf⟩ := d
  simp only [Sv.bsl] at hb hpos ⊢
  rcases own_heads hb with e | ⟨gb, e⟩
  · subst e
    obtain ⟨b, o, e, _⟩ := hb.sl.open hpos
    cases e
  · subst e
    refine ⟨gb, rfl, hb.block gb rfl, hb.lt gb rfl, fun j hj => ⟨Option.isSome_iff_exists.1 (hb.cells_there (j * 2 + 1) ?_), (hb.frozen _).2.2⟩⟩
    have hc : s.beats.length ≤ cb := by obtain ⟨_, _, e, h⟩ := hb.shape; cases e; exact h
    omega
/-- whatever own slice: a store into whatever block: it holds something still -/
theorem own_still {sz : Nat} {v : Value} {n : Nat} {cells : List Value} (h : Own Eb sz B w v n cells) (gb j : Nat) (u : Value) : ∃ cells', Own Eb sz B (w.setCell ⟨gb, j, none⟩ u) v n cells' := by
  by_cases he : v.ownBlock = some gb
  · obtain ⟨p, c, rfl, _⟩ := h.shape
    rcases own_heads h with e | ⟨g', e⟩
    · subst e; cases he
    · subst e
      have e1 : g' = gb := by simpa [Value.ownBlock] using he
      subst e1
      exact ⟨_, (h.store j u).2⟩
  · exact ⟨cells, h.mod (S := fun b => b = gb) (Mod.set (Mod.refl _ _) _ _ (.inl rfl)) (fun k hk e => he (by subst e; exact hk))⟩
theorem MutS.set_id (h : MutS E Eb B g cap ds w) (i : Nat) (u : Value) : MutS E Eb B g cap ds (w.setCell ⟨g, i * 35, none⟩ u) := by
  obtain ⟨cs, h1, h2, h3⟩ := h
  refine ⟨cs.set (i * 35) u, (h1.store (i * 35) u).2, fun k hk => ?_, fun d hd => ?_⟩
  · rw [List.getElem?_set_ne (by omega)]; exact h2 k hk
  · obtain ⟨bs, hb⟩ := h3 d hd
    exact own_still hb g _ u
theorem MutS.set_beat (hE : E ≠ Eb) (h : MutS E Eb B g cap ds w) (d : Sv) (hd : d ∈ ds) (gb : Nat) (hp : d.pb = some ⟨gb, 0, none⟩) (j : Nat) (u : Value) : MutS E Eb B g cap ds (w.setCell ⟨gb, j, none⟩ u) := by
  obtain ⟨cs, h1, h2, h3⟩ := h
  refine ⟨cs, h1.mod (S := fun b => b = gb) (Mod.set (Mod.refl _ _) _ _ (.inl rfl)) (fun k hk e => ?_), h2, fun x hx => ?_⟩
  · subst e
    obtain ⟨bs, hb⟩ := h3 d hd
    exact own_apart h1 hb hE k hk (by simp [Sv.bsl, hp, Value.ownBlock])
  · obtain ⟨bs, hb⟩ := h3 x hx
    exact own_still hb gb _ u
theorem muts_of {Ef : TypeId} {B : Nat} {w : World} {g cap : Nat} {ds : List Sv} (h : OwnS E Eb Ef B w (.slice (some ⟨g, 0, none⟩) ds.length cap) ds) : MutS E Eb B g cap ds w :=
  ⟨_, h.row, fun i hi => flat_get sv_len ds i 23 hi (by decide), fun d hd => ⟨_, (h.ok d hd).bt⟩⟩
/-- a table whose blocks are all from B on: what is changed below B does not change it -/
theorem OwnS.mod {Ef : TypeId} {S : Nat → Prop} {w' : World} {v : Value} {l : List Sv} (h : OwnS E Eb Ef B w v l) (hm : Mod S w w') (hs : ∀ k, S k → k < B) : OwnS E Eb Ef B w' v l :=
  ⟨h.row.mod hm (fun k hk hn => by have := h.row.block k hk; have := hs k hn; omega), fun x hx => (h.ok x hx).mod hm (fun k hk hn => by have := (h.ok x hx).bt.block k hk; have := hs k hn; omega) (fun k hk hn => by have := (h.ok x hx).fl.block k hk; have := hs k hn; omega)⟩
end
end Nj

/-
  BOXES that a region which draws makes and fills, beside one call that makes memory. No program. No condition.
-/
import Derived.Test.YtlmkkfigmoefdaaReg
set_option linter.unusedVariables false
set_option linter.unusedSimpArgs false
namespace Nj
open Go Go.RowKit
/-- a box g of the region's own (from block B0 on), stored into or not; what the call made (Nb) does not lie there -/
def Bq (B0 g : Nat) (zero cells : Obj) (st bc : Bool) (Nb : Nat → Prop) (w : World) : Prop :=
  B0 ≤ g ∧ g < w.heap.size ∧ (st = false → w.heap[g]? = some zero) ∧ (st = true → bc = true ∧ w.heap[g]? = some cells) ∧ (bc = true → ¬ Nb g)
section
variable {B0 g g' : Nat} {zero cells cells' : Obj} {st bc : Bool} {Nb Nb' : Nat → Prop} {w w' : World}
theorem Bq.keep (h : Bq B0 g zero cells st bc Nb w) (hb : Below w.heap.size w w') : Bq B0 g zero cells st bc Nb w' :=
  ⟨h.1, Nat.lt_of_lt_of_le h.2.1 hb.size, fun e => keepb (h.2.2.1 e) hb, fun e => ⟨(h.2.2.2.1 e).1, keepb (h.2.2.2.1 e).2 hb⟩, h.2.2.2.2⟩
theorem Bq.only (h : Bq B0 g zero cells st bc Nb w) (ho : Only g' w w') (hne : g ≠ g') : Bq B0 g zero cells st bc Nb w' :=
  ⟨h.1, by rw [ho.1]; exact h.2.1, fun e => by rw [ho.2 g hne]; exact h.2.2.1 e, fun e => ⟨(h.2.2.2.1 e).1, by rw [ho.2 g hne]; exact (h.2.2.2.1 e).2⟩, h.2.2.2.2⟩
theorem Bq.born (h : Bq B0 g zero cells st false Nb w) (hb : Below w.heap.size w w') (hN : ∀ b, Nb' b → w.heap.size ≤ b) : Bq B0 g zero cells' st true Nb' w' :=
  ⟨h.1, Nat.lt_of_lt_of_le h.2.1 hb.size, fun e => keepb (h.2.2.1 e) hb, (fun e => by have := (h.2.2.2.1 e).1; cases this), fun _ hn => by have := hN g hn; have := h.2.1; omega⟩
theorem Bq.new (hH : B0 ≤ w.heap.size) (hN : bc = true → ∀ b, Nb b → b < w.heap.size) : Bq B0 w.heap.size zero cells false bc Nb (w.alloc zero) :=
  ⟨hH, by simp, fun _ => heap_new _ _ _ rfl, (fun e => by cases e), fun e hn => by have := hN e _ hn; omega⟩
theorem Bq.fill (h : Bq B0 g zero cells st true Nb w) (ho : Only g w w') (hc : w'.heap[g]? = some cells) : Bq B0 g zero cells true true Nb w' :=
  ⟨h.1, by rw [ho.1]; exact h.2.1, (fun e => by cases e), fun _ => ⟨rfl, hc⟩, h.2.2.2.2⟩
theorem Own.only {E : TypeId} {sz B : Nat} {v : Value} {n : Nat} {cs : List Value} (h : Own E sz B w v n cs) (ho : Only g w w') (hne : v.ownBlock ≠ some g) : Own E sz B w' v n cs :=
  Own.kept (row := some g) h (fun b o hb hk => by rw [ho.2 b (hk g rfl)]; exact hb) (fun g' hg k hk => by cases hk; rintro rfl; exact hne hg)
end
end Nj
namespace Nj
open Go
/-- the region of this number -/
def findR (k : Nat) : Code → Option Code
  | .region id ops d => if id == k then some (.region id ops d) else none
  | .seq a b => match findR k a with
    | some c => some c
    | none => findR k b
  | .cond _ a b => match findR k a with
    | some c => some c
    | none => findR k b
  | .block _ c => findR k c
  | .loop c => findR k c
  | .scope c => findR k c
  | _ => none
/-- the block of this number -/
def findB (k : Nat) : Code → Option Code
  | .seq a b => match findB k a with
    | some c => some c
    | none => findB k b
  | .cond _ a b => match findB k a with
    | some c => some c
    | none => findB k b
  | .block id c => if id == k then some (.block id c) else findB k c
  | .loop c => findB k c
  | .scope c => findB k c
  | _ => none
/-- the slots that a code writes -/
def dsts : Code → List Nat
  | .region _ ops _ => ops.toList.filterMap (·.dst)
  | .seq a b => dsts a ++ dsts b
  | .cond _ a b => dsts a ++ dsts b
  | .block _ c => dsts c
  | .loop c => dsts c
  | .scope c => dsts c
  | _ => []
end Nj

/-
  A WHOLE ACT LOADED, and laid into a variable.
-/
import Derived.Test.YtlmkkfigmoefdaaSesRead
import Derived.Test.YtlmkkfigmoefdaaSesQ
set_option linter.unusedVariables false
set_option linter.unusedSimpArgs false
namespace Nj
open Go Go.RowKit
theorem sa_one (a : Sa) : ∀ u ∈ a.cells, u.oneCell' = true := by
  intro u hu
  rcases List.mem_cons.1 hu with rfl | hu
  · rfl
  · rcases List.mem_cons.1 hu with rfl | hu
    · rfl
    · exact sv_one a.x u hu
/-- act i lies there -/
theorem act_row {w : World} {b o cap n m : Nat} {l : List Sa} (h : Sl 37 w (.slice (some ⟨b, o, none⟩) n cap) m (flat Sa.cells l)) (i : Nat) (hi : i < l.length) (a : Sa) (ha : a = l[i]) : w.rangeAt b (o + i * 37) a.cells := by
  subst ha
  intro j v hv
  have hj : j < 37 := by rw [← sa_len l[i]]; exact (List.getElem?_eq_some_iff.1 hv).1
  simpa [Nat.add_assoc] using Sl.elem sa_len h i j hi hj v hv
theorem act_do {w : World} {b : Nat} {a : Sa} (h : w.rangeAt b 0 a.cells) : w.cell? ⟨b, 0, none⟩ = some (.int .i64 a.do_) := by simpa using h 0 _ rfl
theorem act_id {w : World} {b : Nat} {a : Sa} (h : w.rangeAt b 0 a.cells) : w.cell? ⟨b, 1, none⟩ = some (.int .i64 a.id) := by simpa using h 1 _ rfl
theorem act_ses {w : World} {b : Nat} {a : Sa} (h : w.rangeAt b 0 a.cells) : w.rangeAt b 2 a.x.cells := fun j v hv => by
  have := h (j + 2) v (by simpa [Sa.cells] using hv)
  rwa [Nat.zero_add, Nat.add_comm j 2] at this
end Nj
namespace Go.Proofs.Ytlmkkfigmoefdaa.K
open Go Go.RowKit Nj
/-- THE WALK's STEP: a whole act is loaded -/
theorem lda {ops : Array Oper} {rest : List Oper} {op : Oper} {a : Act} {w : World} {Q : Exit → Act → World → Prop} {p : Operand} {b o : Nat} {x : Sa} (h : Hid (w.rangeAt b o x.cells)) (hgd : op.guard = none) (ho : op.op = .load 40 p) (hx : a.eval p = .pointer (some ⟨b, o, none⟩))
    (hk : wpList Try.prog ops Q rest (a.put op.dst (.agg x.cells.toArray)) w) : wpList Try.prog ops Q (op :: rest) a w :=
  wpList_load_mid hgd _ p ho b o hx x.cells _ h.out Try.underlying40 rfl (by rw [sa_len]; kernel_rfl) hk
/-- THE WALK's STEP: a whole act is laid into a variable: the world becomes a new one -/
theorem sta {ops : Array Oper} {rest : List Oper} {op : Oper} {a : Act} {w : World} {Q : Exit → Act → World → Prop} {p y : Operand} {b : Nat} {c : Array Value} {x : Sa} (h : Hid (w.heap[b]? = some (.cells c 40))) (hc : c.size = 37) (hgd : op.guard = none) (ho : op.op = .store 40 p y) (hx : a.eval p = .pointer (some ⟨b, 0, none⟩)) (hy : a.eval y = .agg x.cells.toArray)
    (hk : ∀ w', Hid (w'.heap[b]? = some (.cells x.cells.toArray 40)) → Hid (Mod (fun k => k = b) w w') → wpList Try.prog ops Q rest (a.put op.dst undef) w') : wpList Try.prog ops Q (op :: rest) a w := by
  refine wpList_store_mid hgd _ p y ho b 0 x.cells.toArray hx hy (fun j hj => ?_) (by rw [List.size_toArray, sa_len]; kernel_rfl) (all_oneCell_toArray (sa_one x)) (hk _ (Lib.hid ?_) (Lib.hid (mod_setCells _ _ _ (Mod.refl _ _) rfl)))
  · rw [List.size_toArray, sa_len] at hj
    rw [Nat.zero_add]
    exact ⟨by rw [cell_of_block h.out, Array.getElem?_eq_getElem (by omega)]; rfl, frozen_of_block h.out j⟩
  · have := heap_setCells_all x.cells.toArray.toList 0 w c h.out (by simp [sa_len, hc])
    simpa using this
end Go.Proofs.Ytlmkkfigmoefdaa.K

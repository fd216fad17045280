/-
  READING heartbeats that come in. No condition.
-/
import Derived.Test.YtdflajgglgbphaaRead
import Derived.Test.YtdflajgglgbphaaDetRefB
set_option linter.unusedVariables false
set_option linter.unusedSimpArgs false
namespace Nj
open Go Go.RowKit
section
variable {H : Type} {enc : TypeId × Value → H} {P : Program} {w : World} {base : Nat} {spare : Nat → Bool} {held : Bool}
theorem leaf_int {t : TypeId} {k : IntKind} {c : Value} (ht : P.underlying t = some (.int k)) (h : Leaf enc P w base spare held t c) : ∃ n, c = .int k n ∧ (Lit.int k n).wf = true := by
  obtain ⟨n, y, h⟩ := h
  obtain ⟨a, e, _, hw⟩ := DataW.trod_int ht h
  simp at e
  exact ⟨a, e, hw⟩
theorem leaf_bool {t : TypeId} {c : Value} (ht : P.underlying t = some .bool) (h : Leaf enc P w base spare held t c) : ∃ b, c = .bool b := by
  obtain ⟨n, y, h⟩ := h
  obtain ⟨a, e, _⟩ := DataW.trod_bool ht h
  simp at e
  exact ⟨a, e⟩
end
end Nj
namespace Go.Proofs.Ytdflajgglgbphaa.K
open Go Go.RowKit Nj
section
variable {H : Type} {enc : TypeId × Value → H} {w : World} {base : Nat} {spare : Nat → Bool} {held : Bool}
theorem open_beat {n : Nat} {cs : List Value} {x : DataW H × List MemPlace} (h : DataW.trod enc Try.prog w base spare held n 30 cs = some x) :
    ∃ b : Bt, cs = b.cells ∧ (Lit.int .i64 b.seq).wf = true ∧ (Lit.int .i64 b.at_).wf = true := by
  have h1 := trod_leaves 2 _ _ _ _ _ h (by kernel_rfl : leaves Try.prog 2 30 = some [3, 3])
  match cs, h1 with
  | [c0, c1], ⟨h0, h1, _⟩ =>
    obtain ⟨a, rfl, wa⟩ := leaf_int Try.underlying3 h0
    obtain ⟨b, rfl, wb⟩ := leaf_int Try.underlying3 h1
    exact ⟨⟨a, b⟩, rfl, wa, wb⟩
theorem open_bts {fuel : Nat} {p : Option Addr} {len cap : Nat} {x : DataW H × List MemPlace} (h : DataW.trod enc Try.prog w base spare held fuel 22 [.slice p len cap] = some x) :
    ∃ l : List Bt, l.length = len ∧ Bts w (.slice p len cap) l ∧ ∀ b ∈ l, (Lit.int .i64 b.seq).wf = true ∧ (Lit.int .i64 b.at_).wf = true := by
  obtain ⟨l, hl, hs, hq⟩ := open_sl (enc' := Bt.cells) (sz := 2) Try.underlying22 (by kernel_rfl) (by decide) bt_two (fun n cs y h => open_beat h) h
  exact ⟨l, hl, by unfold Bts; rw [hl]; exact hs, hq⟩
end
end Go.Proofs.Ytdflajgglgbphaa.K

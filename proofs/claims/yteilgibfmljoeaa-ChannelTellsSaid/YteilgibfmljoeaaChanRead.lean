/-
  READING a channel that comes in. No condition.
-/
import Derived.Test.YteilgibfmljoeaaSendRead
import Derived.Test.YteilgibfmljoeaaChan4
set_option linter.unusedVariables false
set_option linter.unusedSimpArgs false
namespace Nj
open Go Go.RowKit
section
variable {H : Type} {enc : TypeId × Value → H} {P : Program} {w : World} {base : Nat} {spare : Nat → Bool} {held : Bool}
theorem leaf_bool {t : TypeId} {c : Value} (ht : P.underlying t = some .bool) (h : Leaf enc P w base spare held t c) : ∃ b, c = .bool b := by
  obtain ⟨n, y, h⟩ := h
  obtain ⟨a, e, _⟩ := DataW.trod_bool ht h
  simp at e
  exact ⟨a, e⟩
end
end Nj
namespace Go.Proofs.Yteilgibfmljoeaa.K
open Go Go.RowKit Nj
section
variable {H : Type} {enc : TypeId × Value → H} {w : World} {base : Nat} {spare : Nat → Bool} {held : Bool}
theorem open_ch {n : Nat} {cs : List Value} {x : DataW H × List MemPlace} (h : DataW.trod enc Try.prog w base spare held n 28 cs = some x) :
    ∃ (next : Int) (v : Value) (cwnd acc : Int) (r : Rt) (l : List Fl), cs = [.int .i64 next, v, .int .i64 cwnd, .int .i64 acc, .int .i64 r.s, .int .i64 r.v, .int .i64 r.rto, .int .i64 r.fails, .bool r.has] ∧ Fls w v l ∧ (Lit.int .i64 next).wf = true := by
  have h1 := trod_leaves 3 _ _ _ _ _ h (by kernel_rfl : leaves Try.prog 3 28 = some [3, 22, 3, 3, 3, 3, 3, 3, 4])
  match cs, h1 with
  | [c0, c1, c2, c3, c4, c5, c6, c7, c8], ⟨h0, h1, h2, h3, h4, h5, h6, h7, h8, _⟩ =>
    obtain ⟨a, rfl, wa⟩ := leaf_int Try.underlying3 h0
    obtain ⟨p, len, cap, m, y, rfl, hs⟩ := leaf_slice Try.underlying22 h1
    obtain ⟨c, rfl, _⟩ := leaf_int Try.underlying3 h2
    obtain ⟨d, rfl, _⟩ := leaf_int Try.underlying3 h3
    obtain ⟨e4, rfl, _⟩ := leaf_int Try.underlying3 h4
    obtain ⟨e5, rfl, _⟩ := leaf_int Try.underlying3 h5
    obtain ⟨e6, rfl, _⟩ := leaf_int Try.underlying3 h6
    obtain ⟨e7, rfl, _⟩ := leaf_int Try.underlying3 h7
    obtain ⟨e8, rfl⟩ := leaf_bool Try.underlying4 h8
    obtain ⟨l, hl, hf⟩ := open_fls hs
    exact ⟨a, _, c, d, ⟨e4, e5, e6, e7, e8⟩, l, rfl, hf, wa⟩
open Go.ChangeShapes Go.WideShapes in
theorem open_ch_arg {r : Reach} {b0 : Nat} {v : Value} {d : DataW H} {p : List MemPlace} (hv : Value.okWide Try.prog w r b0 28 v) (h : DataW.Trod enc Try.prog w base spare held 28 v d p) :
    ∃ (next : Int) (u : Value) (cwnd acc : Int) (q : Rt) (l : List Fl), v = .agg #[.int .i64 next, u, .int .i64 cwnd, .int .i64 acc, .int .i64 q.s, .int .i64 q.v, .int .i64 q.rto, .int .i64 q.fails, .bool q.has] ∧ Fls w u l ∧ (Lit.int .i64 next).wf = true := by
  obtain ⟨cs, rfl, hsz⟩ := okWide_struct Try.underlying28 hv
  obtain ⟨fuel, hf⟩ := h
  obtain ⟨n, u, c, a, q, l, e, h1, h2⟩ := open_ch hf
  refine ⟨n, u, c, a, q, l, ?_, h1, h2⟩
  obtain ⟨cs⟩ := cs
  simp only [Value.cells] at e
  rw [show cs = _ from e]
end
theorem chan_right {n c a : Int} {l : List Fl} {r : Rt} (h : chRight ⟨⟨n, l, c, a⟩, r⟩ = true) : sdRight ⟨n, l, c, a⟩ = true ∧ RtOk r := by
  simp only [chRight, Bool.and_eq_true] at h
  exact ⟨h.1, (right_iff r).1 h.2⟩
end Go.Proofs.Yteilgibfmljoeaa.K

/-
  READING sessions, tables and acts that come in. No condition.
-/
import Derived.Test.YtlmkkfigmoefdaaRead
import Derived.Test.YtlmkkfigmoefdaaSesMem
set_option linter.unusedVariables false
set_option linter.unusedSimpArgs false
namespace Nj
open Go Go.RowKit
section
variable {H : Type} {enc : TypeId × Value → H} {P : Program} {w : World} {base : Nat} {spare : Nat → Bool} {held : Bool}
theorem leaf_int {t : TypeId} {k : IntKind} {c : Value} (ht : P.underlying t = some (.int k)) (h : Leaf enc P w base spare held t c) : ∃ n, c = .int k n ∧ (Lit.int k n).wf = true := by
  obtain ⟨n, y, h⟩ := h
  obtain ⟨a, e, _, hw⟩ := DataW.trod_int ht h
  simp at e
  exact ⟨a, e, hw⟩

/-- a slice, as a cell -/
theorem leaf_slice {t e : TypeId} {c : Value} (ht : P.underlying t = some (.slice e)) (h : Leaf enc P w base spare held t c) : ∃ p len cap n y, c = .slice p len cap ∧ DataW.trod enc P w base spare held n t [.slice p len cap] = some y := by
  obtain ⟨n, y, h⟩ := h
  rcases Go.Deep.open_slice ht h with ⟨hcs, _⟩ | ⟨a, len', cap', m, n', D, Pl, hcs, _⟩
  · simp at hcs
    subst hcs
    exact ⟨_, _, _, n, y, rfl, h⟩
  · simp at hcs
    subst hcs
    exact ⟨_, _, _, n, y, rfl, h⟩

theorem leaf_bool {t : TypeId} {c : Value} (ht : P.underlying t = some .bool) (h : Leaf enc P w base spare held t c) : ∃ b, c = .bool b := by
  obtain ⟨n, y, h⟩ := h
  obtain ⟨a, e, _⟩ := DataW.trod_bool ht h
  simp at e
  exact ⟨a, e⟩

end
/-- an act: what to do, a number, a session -/
structure Sa where
  do_ : Int
  id : Int
  x : Sv
def Sa.cells (a : Sa) : List Value := .int .i64 a.do_ :: .int .i64 a.id :: a.x.cells
theorem sa_len (a : Sa) : a.cells.length = 37 := rfl
def Sas (w : World) (v : Value) (l : List Sa) : Prop := Sl 37 w v l.length (flat Sa.cells l) ∧ ∀ a ∈ l, Sok w a.x
theorem Sas.keep {w w' : World} {v : Value} {l : List Sa} (h : Sas w v l) (hb : Below w.heap.size w w') : Sas w' v l := ⟨h.1.keep (by decide) hb, fun x hx => (h.2 x hx).keep hb⟩
theorem sas_shape {w : World} {v : Value} {l : List Sa} (h : Sas w v l) : ∃ p cap, v = .slice p l.length cap ∧ l.length ≤ cap := by
  obtain ⟨⟨_, _, p, cap, rfl, hcap, _⟩, _⟩ := h
  exact ⟨p, cap, rfl, hcap⟩
end Nj
namespace Go.Proofs.Ytlmkkfigmoefdaa.K
open Go Go.RowKit Nj
section
variable {H : Type} {enc : TypeId × Value → H} {w : World} {base : Nat} {spare : Nat → Bool} {held : Bool}
theorem wf_i64 {n : Int} (h : (Lit.int .i64 n).wf = true) : -9223372036854775808 ≤ n ∧ n ≤ 9223372036854775807 := by
  simpa [Lit.wf, show IntKind.i64.min = -9223372036854775808 by decide] using h

theorem open_beat {n : Nat} {cs : List Value} {x : DataW H × List MemPlace} (h : DataW.trod enc Try.prog w base spare held n 57 cs = some x) :
    ∃ b : Bt, cs = b.cells ∧ (Lit.int .i64 b.seq).wf = true ∧ (Lit.int .i64 b.at_).wf = true := by
  have h1 := trod_leaves 2 _ _ _ _ _ h (by kernel_rfl : leaves Try.prog 2 57 = some [3, 3])
  match cs, h1 with
  | [c0, c1], ⟨h0, h1, _⟩ =>
    obtain ⟨a, rfl, wa⟩ := leaf_int Try.underlying3 h0
    obtain ⟨b, rfl, wb⟩ := leaf_int Try.underlying3 h1
    exact ⟨⟨a, b⟩, rfl, wa, wb⟩

theorem open_bts {fuel : Nat} {p : Option Addr} {len cap : Nat} {x : DataW H × List MemPlace} (h : DataW.trod enc Try.prog w base spare held fuel 27 [.slice p len cap] = some x) :
    ∃ l : List Bt, l.length = len ∧ Bts w (.slice p len cap) l ∧ ∀ b ∈ l, (Lit.int .i64 b.seq).wf = true ∧ (Lit.int .i64 b.at_).wf = true := by
  obtain ⟨l, hl, hs, hq⟩ := open_sl (enc' := Bt.cells) (sz := 2) Try.underlying27 (by kernel_rfl) (by decide) bt_two (fun n cs y h => open_beat h) h
  exact ⟨l, hl, by unfold Bts; rw [hl]; exact hs, hq⟩

theorem open_fl {n : Nat} {cs : List Value} {x : DataW H × List MemPlace} (h : DataW.trod enc Try.prog w base spare held n 85 cs = some x) :
    ∃ b : Fl, cs = b.cells ∧ True := by
  have h1 := trod_leaves 3 _ _ _ _ _ h (by kernel_rfl : leaves Try.prog 3 85 = some [3, 3, 3, 3, 3, 3, 3])
  match cs, h1 with
  | [c0, c1, c2, c3, c4, c5, c6], ⟨h0, h1, h2, h3, h4, h5, h6, _⟩ =>
    obtain ⟨a0, rfl, _⟩ := leaf_int Try.underlying3 h0
    obtain ⟨a1, rfl, _⟩ := leaf_int Try.underlying3 h1
    obtain ⟨a2, rfl, _⟩ := leaf_int Try.underlying3 h2
    obtain ⟨a3, rfl, _⟩ := leaf_int Try.underlying3 h3
    obtain ⟨a4, rfl, _⟩ := leaf_int Try.underlying3 h4
    obtain ⟨a5, rfl, _⟩ := leaf_int Try.underlying3 h5
    obtain ⟨a6, rfl, _⟩ := leaf_int Try.underlying3 h6
    exact ⟨⟨a0, ⟨a1, a2, a3, a4⟩, a5, a6⟩, rfl, trivial⟩

theorem open_fls {n : Nat} {p : Option Addr} {len cap : Nat} {x : DataW H × List MemPlace} (h : DataW.trod enc Try.prog w base spare held n 30 [.slice p len cap] = some x) :
    ∃ l : List Fl, l.length = len ∧ Fls w (.slice p len cap) l := by
  obtain ⟨l, hl, hs, hq⟩ := open_sl (enc' := Fl.cells) (sz := 7) Try.underlying30 (by kernel_rfl) (by decide) fl_seven (fun n cs y h => open_fl h) h
  exact ⟨l, hl, by unfold Fls; rw [hl]; exact hs⟩


theorem open_cells {cs : List Value} (h1 : Nj.Leaves enc Try.prog w base spare held [3, 3, 3, 3, 5, 5, 5, 5, 5, 5, 5, 5, 5, 5, 5, 5, 5, 5, 5, 5, 3, 3, 3, 27, 3, 3, 3, 30, 3, 3, 3, 3, 3, 3, 4] cs) : ∃ y : Sv, cs = y.cells ∧ Sok w y := by
  match cs, h1 with
  | c0 :: c1 :: c2 :: c3 :: c4 :: c5 :: c6 :: c7 :: c8 :: c9 :: c10 :: c11 :: c12 :: c13 :: c14 :: c15 :: c16 :: c17 :: c18 :: c19 :: c20 :: c21 :: c22 :: c23 :: c24 :: c25 :: c26 :: c27 :: c28 :: c29 :: c30 :: c31 :: c32 :: c33 :: c34 :: [], ⟨h0, h1, h2, h3, h4, h5, h6, h7, h8, h9, h10, h11, h12, h13, h14, h15, h16, h17, h18, h19, h20, h21, h22, h23, h24, h25, h26, h27, h28, h29, h30, h31, h32, h33, h34, _⟩ =>
    obtain ⟨e0, rfl, w0⟩ := leaf_int Try.underlying3 h0
    obtain ⟨e1, rfl, w1⟩ := leaf_int Try.underlying3 h1
    obtain ⟨e2, rfl, w2⟩ := leaf_int Try.underlying3 h2
    obtain ⟨e3, rfl, w3⟩ := leaf_int Try.underlying3 h3
    obtain ⟨e4, rfl, w4⟩ := leaf_int Try.underlying5 h4
    obtain ⟨e5, rfl, w5⟩ := leaf_int Try.underlying5 h5
    obtain ⟨e6, rfl, w6⟩ := leaf_int Try.underlying5 h6
    obtain ⟨e7, rfl, w7⟩ := leaf_int Try.underlying5 h7
    obtain ⟨e8, rfl, w8⟩ := leaf_int Try.underlying5 h8
    obtain ⟨e9, rfl, w9⟩ := leaf_int Try.underlying5 h9
    obtain ⟨e10, rfl, w10⟩ := leaf_int Try.underlying5 h10
    obtain ⟨e11, rfl, w11⟩ := leaf_int Try.underlying5 h11
    obtain ⟨e12, rfl, w12⟩ := leaf_int Try.underlying5 h12
    obtain ⟨e13, rfl, w13⟩ := leaf_int Try.underlying5 h13
    obtain ⟨e14, rfl, w14⟩ := leaf_int Try.underlying5 h14
    obtain ⟨e15, rfl, w15⟩ := leaf_int Try.underlying5 h15
    obtain ⟨e16, rfl, w16⟩ := leaf_int Try.underlying5 h16
    obtain ⟨e17, rfl, w17⟩ := leaf_int Try.underlying5 h17
    obtain ⟨e18, rfl, w18⟩ := leaf_int Try.underlying5 h18
    obtain ⟨e19, rfl, w19⟩ := leaf_int Try.underlying5 h19
    obtain ⟨e20, rfl, w20⟩ := leaf_int Try.underlying3 h20
    obtain ⟨e21, rfl, w21⟩ := leaf_int Try.underlying3 h21
    obtain ⟨e22, rfl, w22⟩ := leaf_int Try.underlying3 h22
    obtain ⟨pb, nb, cb, mb, yb, rfl, hbs⟩ := leaf_slice Try.underlying27 h23
    obtain ⟨e24, rfl, w24⟩ := leaf_int Try.underlying3 h24
    obtain ⟨e25, rfl, w25⟩ := leaf_int Try.underlying3 h25
    obtain ⟨e26, rfl, w26⟩ := leaf_int Try.underlying3 h26
    obtain ⟨pf, nf, cf, mf, yf, rfl, hfs⟩ := leaf_slice Try.underlying30 h27
    obtain ⟨e28, rfl, w28⟩ := leaf_int Try.underlying3 h28
    obtain ⟨e29, rfl, w29⟩ := leaf_int Try.underlying3 h29
    obtain ⟨e30, rfl, w30⟩ := leaf_int Try.underlying3 h30
    obtain ⟨e31, rfl, w31⟩ := leaf_int Try.underlying3 h31
    obtain ⟨e32, rfl, w32⟩ := leaf_int Try.underlying3 h32
    obtain ⟨e33, rfl, w33⟩ := leaf_int Try.underlying3 h33
    obtain ⟨e34, rfl⟩ := leaf_bool Try.underlying4 h34
    obtain ⟨lb, hlb, hb, _⟩ := open_bts hbs
    obtain ⟨lf, hlf, hf⟩ := open_fls hfs
    subst hlb hlf
    have hw := w26
    simp only [Lit.wf, decide_eq_true_eq] at hw
    exact ⟨⟨⟨e0, e1, e2, e3, ⟨e4, e5, e6, e7, e8, e9, e10, e11, e12, e13, e14, e15, e16, e17, e18, e19⟩, e20, e21, e22, lb, e24, e25, ⟨⟨e26, lf, e28, e29⟩, ⟨e30, e31, e32, e33, e34⟩⟩⟩, pb, cb, pf, cf⟩, rfl, ⟨hb, hf, (wf_i64 w26).2⟩⟩
theorem open_ses {n : Nat} {cs : List Value} {x : DataW H × List MemPlace} (h : DataW.trod enc Try.prog w base spare held n 38 cs = some x) : ∃ y : Sv, cs = y.cells ∧ Sok w y :=
  open_cells (trod_leaves 4 _ _ _ _ _ h (by kernel_rfl : leaves Try.prog 4 38 = some [3, 3, 3, 3, 5, 5, 5, 5, 5, 5, 5, 5, 5, 5, 5, 5, 5, 5, 5, 5, 3, 3, 3, 27, 3, 3, 3, 30, 3, 3, 3, 3, 3, 3, 4]))
theorem open_sess {fuel : Nat} {p : Option Addr} {len cap : Nat} {x : DataW H × List MemPlace} (h : DataW.trod enc Try.prog w base spare held fuel 22 [.slice p len cap] = some x) :
    ∃ l : List Sv, l.length = len ∧ Sess w (.slice p len cap) l := by
  obtain ⟨l, hl, hs, hq⟩ := open_sl (enc' := Sv.cells) (sz := 35) (Q := fun y => Sok w y) Try.underlying22 (by kernel_rfl) (by decide) sv_len (fun n cs y h => open_ses h) h
  exact ⟨l, hl, by rw [← hl] at hs; exact ⟨by rw [← hl]; exact hs, hq⟩⟩
theorem open_act {n : Nat} {cs : List Value} {x : DataW H × List MemPlace} (h : DataW.trod enc Try.prog w base spare held n 40 cs = some x) : ∃ a : Sa, cs = a.cells ∧ Sok w a.x := by
  have h1 := trod_leaves 5 _ _ _ _ _ h (by kernel_rfl : leaves Try.prog 5 40 = some [3, 3, 3, 3, 3, 3, 5, 5, 5, 5, 5, 5, 5, 5, 5, 5, 5, 5, 5, 5, 5, 5, 3, 3, 3, 27, 3, 3, 3, 30, 3, 3, 3, 3, 3, 3, 4])
  match cs, h1 with
  | a :: b :: cs, ⟨ha, hb, h2⟩ =>
    obtain ⟨d, rfl, _⟩ := leaf_int Try.underlying3 ha
    obtain ⟨i, rfl, _⟩ := leaf_int Try.underlying3 hb
    obtain ⟨y, rfl, hy⟩ := open_cells h2
    exact ⟨⟨d, i, y⟩, rfl, hy⟩
theorem open_sas {fuel : Nat} {p : Option Addr} {len cap : Nat} {x : DataW H × List MemPlace} (h : DataW.trod enc Try.prog w base spare held fuel 23 [.slice p len cap] = some x) :
    ∃ l : List Sa, l.length = len ∧ Sas w (.slice p len cap) l := by
  obtain ⟨l, hl, hs, hq⟩ := open_sl (enc' := Sa.cells) (sz := 37) (Q := fun a => Sok w a.x) Try.underlying23 (by kernel_rfl) (by decide) sa_len (fun n cs y h => open_act h) h
  exact ⟨l, hl, by rw [← hl] at hs; exact ⟨by rw [← hl]; exact hs, hq⟩⟩
open Go.ChangeShapes Go.WideShapes in
theorem open_ses_arg {r : Reach} {b0 : Nat} {v : Value} {d : DataW H} {p : List MemPlace} (hv : Value.okWide Try.prog w r b0 38 v) (h : DataW.Trod enc Try.prog w base spare held 38 v d p) :
    ∃ y : Sv, v = .agg y.cells.toArray ∧ Sok w y := by
  obtain ⟨cs, rfl, hsz⟩ := okWide_struct Try.underlying38 hv
  obtain ⟨fuel, hf⟩ := h
  obtain ⟨y, e, h1⟩ := open_ses hf
  refine ⟨y, ?_, h1⟩
  obtain ⟨cs⟩ := cs
  simp only [Value.cells] at e
  rw [show cs = _ from e]
end
end Go.Proofs.Ytlmkkfigmoefdaa.K

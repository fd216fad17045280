/-
  READING what is on its way, notes and acts that come in; contracts of package send with their results named. No condition.
-/
import Derived.Test.YteilgibfmljoeaaRead
import Derived.Test.YteilgibfmljoeaaSend10
import Derived.Test.YteilgibfmljoeaaReg
set_option linter.unusedVariables false
set_option linter.unusedSimpArgs false
namespace Nj
open Go Go.RowKit
section
variable {H : Type} {enc : TypeId × Value → H} {P : Program} {w : World} {base : Nat} {spare : Nat → Bool} {held : Bool}
theorem leaf_int {t : TypeId} {k : IntKind} {c : Value} (ht : P.underlying t = some (.int k)) (h : Leaf enc P w base spare held t c) : ∃ n, c = .int k n ∧ (Lit.int k n).wf = true := by
  obtain ⟨n, y, h⟩ := h
  obtain ⟨a, e, _, hw⟩ := DataW.trod_int ht h
  simp at e
  exact ⟨a, e, hw⟩
/-- a slice, as a cell -/
theorem leaf_slice {t e : TypeId} {c : Value} (ht : P.underlying t = some (.slice e)) (h : Leaf enc P w base spare held t c) : ∃ p len cap n y, c = .slice p len cap ∧ DataW.trod enc P w base spare held n t [.slice p len cap] = some y := by
  obtain ⟨n, y, h⟩ := h
  rcases Go.Deep.open_slice ht h with ⟨hcs, _⟩ | ⟨a, len', cap', m, n', D, Pl, hcs, _⟩
  · simp at hcs
    subst hcs
    exact ⟨_, _, _, n, y, rfl, h⟩
  · simp at hcs
    subst hcs
    exact ⟨_, _, _, n, y, rfl, h⟩
end
/-- an act -/
structure Ac where
  do_ : Int
  n : Int
  m : Int
  now : Int
  note : Nt
  deriving DecidableEq
def Ac.cells (a : Ac) : List Value := [.int .i64 a.do_, .int .i64 a.n, .int .i64 a.m, .int .i64 a.now, .int .i64 a.note.user, .int .i64 a.note.ver, .int .i64 a.note.stat, .int .i64 a.note.cnt]
theorem ac_eight (a : Ac) : a.cells.length = 8 := rfl
/-- v is a slice of these acts -/
def Acs (w : World) (v : Value) (l : List Ac) : Prop := Sl 8 w v l.length (flat Ac.cells l)
theorem acs_shape {w : World} {v : Value} {l : List Ac} (h : Acs w v l) : ∃ p cap, v = .slice p l.length cap ∧ l.length ≤ cap := by
  obtain ⟨_, _, p, cap, rfl, hcap, _⟩ := h
  exact ⟨p, cap, rfl, hcap⟩
theorem acs_at {w w' : World} {b o cap : Nat} {l : List Ac} {n : Nat} (h : Hid (Acs w (.slice (some ⟨b, o, none⟩) n cap) l)) (hb : Below w.heap.size w w') (i : Nat) (hi : i < l.length) (j : Nat) (u : Value) (hu : l[i].cells[j]? = some u) :
    w'.cell? ⟨b, o + (i * 8 + j), none⟩ = some u := by
  have hj : j < 8 := by
    rcases Nat.lt_or_ge j 8 with h | h
    · exact h
    · rw [List.getElem?_eq_none (by rw [ac_eight]; exact h)] at hu; cases hu
  exact Sl.elem ac_eight (h.out.keep (by decide) hb) i j hi hj u hu
/-- all eight cells of act i -/
theorem acs_row {w w' : World} {b o cap : Nat} {l : List Ac} {n : Nat} (h : Hid (Acs w (.slice (some ⟨b, o, none⟩) n cap) l)) (hb : Below w.heap.size w w') (i : Nat) (hi : i < l.length) (a : Ac) (ha : a = l[i]) :
    w'.cell? ⟨b, o + i * 8, none⟩ = some (.int .i64 a.do_) ∧ w'.cell? ⟨b, o + i * 8 + 1, none⟩ = some (.int .i64 a.n) ∧ w'.cell? ⟨b, o + i * 8 + 2, none⟩ = some (.int .i64 a.m) ∧ w'.cell? ⟨b, o + i * 8 + 3, none⟩ = some (.int .i64 a.now) ∧
      w'.cell? ⟨b, o + i * 8 + 4, none⟩ = some (.int .i64 a.note.user) ∧ w'.cell? ⟨b, o + i * 8 + 5, none⟩ = some (.int .i64 a.note.ver) ∧ w'.cell? ⟨b, o + i * 8 + 6, none⟩ = some (.int .i64 a.note.stat) ∧ w'.cell? ⟨b, o + i * 8 + 7, none⟩ = some (.int .i64 a.note.cnt) := by
  subst ha
  exact ⟨acs_at h hb i hi 0 _ rfl, acs_at h hb i hi 1 _ rfl, acs_at h hb i hi 2 _ rfl, acs_at h hb i hi 3 _ rfl, acs_at h hb i hi 4 _ rfl, acs_at h hb i hi 5 _ rfl, acs_at h hb i hi 6 _ rfl, acs_at h hb i hi 7 _ rfl⟩
end Nj
namespace Go.Proofs.Yteilgibfmljoeaa.K
open Go Go.RowKit Nj
section
variable {H : Type} {enc : TypeId × Value → H} {w : World} {base : Nat} {spare : Nat → Bool} {held : Bool}
theorem open_note {n : Nat} {cs : List Value} {x : DataW H × List MemPlace} (h : DataW.trod enc Try.prog w base spare held n 38 cs = some x) :
    ∃ b : Nt, cs = b.cells ∧ True := by
  have h1 := trod_leaves 2 _ _ _ _ _ h (by kernel_rfl : leaves Try.prog 2 38 = some [3, 3, 3, 3])
  match cs, h1 with
  | [c0, c1, c2, c3], ⟨h0, h1, h2, h3, _⟩ =>
    obtain ⟨a, rfl, _⟩ := leaf_int Try.underlying3 h0
    obtain ⟨b, rfl, _⟩ := leaf_int Try.underlying3 h1
    obtain ⟨c, rfl, _⟩ := leaf_int Try.underlying3 h2
    obtain ⟨d, rfl, _⟩ := leaf_int Try.underlying3 h3
    exact ⟨⟨a, b, c, d⟩, rfl, trivial⟩
theorem open_fl {n : Nat} {cs : List Value} {x : DataW H × List MemPlace} (h : DataW.trod enc Try.prog w base spare held n 40 cs = some x) :
    ∃ b : Fl, cs = b.cells ∧ True := by
  have h1 := trod_leaves 3 _ _ _ _ _ h (by kernel_rfl : leaves Try.prog 3 40 = some [3, 3, 3, 3, 3, 3, 3])
  match cs, h1 with
  | [c0, c1, c2, c3, c4, c5, c6], ⟨h0, h1, h2, h3, h4, h5, h6, _⟩ =>
    obtain ⟨a0, rfl, _⟩ := leaf_int Try.underlying3 h0
    obtain ⟨a1, rfl, _⟩ := leaf_int Try.underlying3 h1
    obtain ⟨a2, rfl, _⟩ := leaf_int Try.underlying3 h2
    obtain ⟨a3, rfl, _⟩ := leaf_int Try.underlying3 h3
    obtain ⟨a4, rfl, _⟩ := leaf_int Try.underlying3 h4
    obtain ⟨a5, rfl, _⟩ := leaf_int Try.underlying3 h5
    obtain ⟨a6, rfl, _⟩ := leaf_int Try.underlying3 h6
    exact ⟨⟨a0, ⟨a1, a2, a3, a4⟩, a5, a6⟩, rfl, trivial⟩
theorem open_fls {n : Nat} {p : Option Addr} {len cap : Nat} {x : DataW H × List MemPlace} (h : DataW.trod enc Try.prog w base spare held n 22 [.slice p len cap] = some x) :
    ∃ l : List Fl, l.length = len ∧ Fls w (.slice p len cap) l := by
  obtain ⟨l, hl, hs, hq⟩ := open_sl (enc' := Fl.cells) (sz := 7) Try.underlying22 (by kernel_rfl) (by decide) fl_seven (fun n cs y h => open_fl h) h
  exact ⟨l, hl, by unfold Fls; rw [hl]; exact hs⟩
theorem open_sd {n : Nat} {cs : List Value} {x : DataW H × List MemPlace} (h : DataW.trod enc Try.prog w base spare held n 24 cs = some x) :
    ∃ (next : Int) (v : Value) (cwnd acc : Int) (l : List Fl), cs = [.int .i64 next, v, .int .i64 cwnd, .int .i64 acc] ∧ Fls w v l ∧ (Lit.int .i64 next).wf = true ∧ (Lit.int .i64 cwnd).wf = true ∧ (Lit.int .i64 acc).wf = true := by
  have h1 := trod_leaves 2 _ _ _ _ _ h (by kernel_rfl : leaves Try.prog 2 24 = some [3, 22, 3, 3])
  match cs, h1 with
  | [c0, c1, c2, c3], ⟨h0, h1, h2, h3, _⟩ =>
    obtain ⟨a, rfl, wa⟩ := leaf_int Try.underlying3 h0
    obtain ⟨p, len, cap, m, y, rfl, hs⟩ := leaf_slice Try.underlying22 h1
    obtain ⟨c, rfl, wc⟩ := leaf_int Try.underlying3 h2
    obtain ⟨d, rfl, wd⟩ := leaf_int Try.underlying3 h3
    obtain ⟨l, hl, hf⟩ := open_fls hs
    exact ⟨a, _, c, d, l, rfl, hf, wa, wc, wd⟩
open Go.ChangeShapes Go.WideShapes in
theorem open_sd_arg {r : Reach} {b0 : Nat} {v : Value} {d : DataW H} {p : List MemPlace} (hv : Value.okWide Try.prog w r b0 24 v) (h : DataW.Trod enc Try.prog w base spare held 24 v d p) :
    ∃ (next : Int) (u : Value) (cwnd acc : Int) (l : List Fl), v = .agg #[.int .i64 next, u, .int .i64 cwnd, .int .i64 acc] ∧ Fls w u l ∧ (Lit.int .i64 next).wf = true ∧ (Lit.int .i64 cwnd).wf = true ∧ (Lit.int .i64 acc).wf = true := by
  obtain ⟨cs, rfl, hsz⟩ := okWide_struct Try.underlying24 hv
  obtain ⟨fuel, hf⟩ := h
  obtain ⟨n, u, c, a, l, e, h1, h2⟩ := open_sd hf
  refine ⟨n, u, c, a, l, ?_, h1, h2⟩
  obtain ⟨cs⟩ := cs
  simp only [Value.cells] at e
  rw [show cs = _ from e]
open Go.ChangeShapes Go.WideShapes in
theorem open_note_arg {r : Reach} {b0 : Nat} {v : Value} {d : DataW H} {p : List MemPlace} (hv : Value.okWide Try.prog w r b0 38 v) (h : DataW.Trod enc Try.prog w base spare held 38 v d p) :
    ∃ b : Nt, v = .agg #[.int .i64 b.user, .int .i64 b.ver, .int .i64 b.stat, .int .i64 b.cnt] := by
  obtain ⟨cs, rfl, hsz⟩ := okWide_struct Try.underlying38 hv
  obtain ⟨fuel, hf⟩ := h
  obtain ⟨b, e, -⟩ := open_note hf
  refine ⟨b, ?_⟩
  obtain ⟨cs⟩ := cs
  simp only [Value.cells] at e
  rw [show cs = _ from e]; rfl
theorem open_ac {n : Nat} {cs : List Value} {x : DataW H × List MemPlace} (h : DataW.trod enc Try.prog w base spare held n 47 cs = some x) :
    ∃ b : Ac, cs = b.cells ∧ True := by
  have h1 := trod_leaves 3 _ _ _ _ _ h (by kernel_rfl : leaves Try.prog 3 47 = some [3, 3, 3, 3, 3, 3, 3, 3])
  match cs, h1 with
  | [c0, c1, c2, c3, c4, c5, c6, c7], ⟨h0, h1, h2, h3, h4, h5, h6, h7, _⟩ =>
    obtain ⟨a0, rfl, _⟩ := leaf_int Try.underlying3 h0
    obtain ⟨a1, rfl, _⟩ := leaf_int Try.underlying3 h1
    obtain ⟨a2, rfl, _⟩ := leaf_int Try.underlying3 h2
    obtain ⟨a3, rfl, _⟩ := leaf_int Try.underlying3 h3
    obtain ⟨a4, rfl, _⟩ := leaf_int Try.underlying3 h4
    obtain ⟨a5, rfl, _⟩ := leaf_int Try.underlying3 h5
    obtain ⟨a6, rfl, _⟩ := leaf_int Try.underlying3 h6
    obtain ⟨a7, rfl, _⟩ := leaf_int Try.underlying3 h7
    exact ⟨⟨a0, a1, a2, a3, ⟨a4, a5, a6, a7⟩⟩, rfl, trivial⟩
theorem open_acs {n : Nat} {p : Option Addr} {len cap : Nat} {x : DataW H × List MemPlace} (h : DataW.trod enc Try.prog w base spare held n 45 [.slice p len cap] = some x) :
    ∃ l : List Ac, l.length = len ∧ Acs w (.slice p len cap) l := by
  obtain ⟨l, hl, hs, hq⟩ := open_sl (enc' := Ac.cells) (sz := 8) Try.underlying45 (by kernel_rfl) (by decide) ac_eight (fun n cs y h => open_ac h) h
  exact ⟨l, hl, by unfold Acs; rw [hl]; exact hs⟩
theorem open_acw {n : Nat} {cs : List Value} {x : DataW H × List MemPlace} (h : DataW.trod enc Try.prog w base spare held n 47 cs = some x) :
    ∃ b : Ac, cs = b.cells ∧ (Lit.int .i64 b.n).wf = true := by
  have h1 := trod_leaves 3 _ _ _ _ _ h (by kernel_rfl : leaves Try.prog 3 47 = some [3, 3, 3, 3, 3, 3, 3, 3])
  match cs, h1 with
  | [c0, c1, c2, c3, c4, c5, c6, c7], ⟨h0, h1, h2, h3, h4, h5, h6, h7, _⟩ =>
    obtain ⟨a0, rfl, _⟩ := leaf_int Try.underlying3 h0
    obtain ⟨a1, rfl, ha1⟩ := leaf_int Try.underlying3 h1
    obtain ⟨a2, rfl, _⟩ := leaf_int Try.underlying3 h2
    obtain ⟨a3, rfl, _⟩ := leaf_int Try.underlying3 h3
    obtain ⟨a4, rfl, _⟩ := leaf_int Try.underlying3 h4
    obtain ⟨a5, rfl, _⟩ := leaf_int Try.underlying3 h5
    obtain ⟨a6, rfl, _⟩ := leaf_int Try.underlying3 h6
    obtain ⟨a7, rfl, _⟩ := leaf_int Try.underlying3 h7
    exact ⟨⟨a0, a1, a2, a3, ⟨a4, a5, a6, a7⟩⟩, rfl, ha1⟩
theorem open_acws {n : Nat} {p : Option Addr} {len cap : Nat} {x : DataW H × List MemPlace} (h : DataW.trod enc Try.prog w base spare held n 45 [.slice p len cap] = some x) :
    ∃ l : List Ac, l.length = len ∧ Acs w (.slice p len cap) l ∧ ∀ a ∈ l, (Lit.int .i64 a.n).wf = true := by
  obtain ⟨l, hl, hs, hq⟩ := open_sl (enc' := Ac.cells) (sz := 8) Try.underlying45 (by kernel_rfl) (by decide) ac_eight (fun n cs y h => open_acw h) h
  exact ⟨l, hl, by unfold Acs; rw [hl]; exact hs, hq⟩
end
theorem sright_at (n : Int) (v : Value) (c a : Int) (l : List Fl) (b : Bool) (w : World) (h : Fls w v l) (hn : n ≤ 9223372036854775807) (hb : sdRight ⟨n, l, c, a⟩ = b) :
    Calls Try.prog 24 #[.agg #[.int .i64 n, v, .int .i64 c, .int .i64 a]] w fun e w' => e = .returned (.bool b) ∧ Hid (Below w.heap.size w w') := by
  subst hb; exact sright_any n v c a l w h hn
theorem sroom_at (n : Int) (v : Value) (c a : Int) (l : List Fl) (r : Int) (w : World) (h : Fls w v l) (hR : sdRight ⟨n, l, c, a⟩ = true) (hr : sdRoom ⟨n, l, c, a⟩ = r) :
    Calls Try.prog 34 #[.agg #[.int .i64 n, v, .int .i64 c, .int .i64 a]] w fun e w' => e = .returned (.int .i64 r) ∧ Hid (Below w.heap.size w w') := by
  subst hr
  have R := rightSd hR
  exact sroom_any n v c a l w h ⟨by have := R.n0; simp only at this; omega, R.n1⟩ ⟨by have := R.c0; simp only at this; omega, R.c1⟩ (by have := R.len; simp only at this; omega) (fun f hf => by have := R.fl f hf; have := R.n1; simp only at *; omega)
theorem ssame_at (n : Int) (v : Value) (c a : Int) (l : List Fl) (n' : Int) (v' : Value) (c' a' : Int) (l' : List Fl) (b : Bool) (w : World) (h : Fls w v l) (h' : Fls w v' l') (hb : decide (Sd.mk n l c a = Sd.mk n' l' c' a') = b) :
    Calls Try.prog 33 #[.agg #[.int .i64 n, v, .int .i64 c, .int .i64 a], .agg #[.int .i64 n', v', .int .i64 c', .int .i64 a']] w fun e w' => e = .returned (.bool b) ∧ Hid (Below w.heap.size w w') := by
  subst hb; exact ssame_any n v c a l n' v' c' a' l' w h h'
theorem slost_at (s : Sd) (p : Option Addr) (cap : Nat) (w : World) (h : Fls w (.slice p s.fl.length cap) s.fl) (hR : sdRight s = true) :
    Calls Try.prog 30 #[.agg #[.int .i64 s.next, .slice p s.fl.length cap, .int .i64 s.cwnd, .int .i64 s.acc]] w (RetSd w (sdLost s)) := by
  have R := rightSd hR
  exact (slost_any s.next _ s.cwnd s.acc s.fl w h (by have := R.len; omega) ⟨by have := R.c0; omega, R.c1⟩).mono fun _ _ ⟨p, cap, e, o, b⟩ => ⟨p, cap, e, o, b⟩
theorem wf_i64 {n : Int} (h : (Lit.int .i64 n).wf = true) : -9223372036854775808 ≤ n ∧ n ≤ 9223372036854775807 := by
  simpa [Lit.wf, show IntKind.i64.min = -9223372036854775808 by decide] using h
end Go.Proofs.Yteilgibfmljoeaa.K

/-
  THE PROGRAM's NET AND THE DOCUMENT's, side by side, each in blocks of its own. No condition.
-/
import Derived.Test.YtkgngfjlmkclcaaNetWrap
set_option linter.unusedVariables false
set_option linter.unusedSimpArgs false
namespace Go.Proofs.Ytkgngfjlmkclcaa.K
open Go Go.RowKit Nj

/-- the program's net at block na holds n, the document's at nb holds m; all their blocks are of P, from B on -/
def TwoS (B na nb : Nat) (P : Nat → Prop) (n m : Nw) (w : World) : Prop :=
  ∃ (pa : Option Addr) (ca : Nat) (da : List Dv) (pb : Option Addr) (cb : Nat) (db : List Dv), da.map Dv.con = n.l ∧ db.map Dv.con = m.l ∧ NetN B na pa ca da n.g w ∧ NetM B nb pb cb db m.g w ∧
    (∀ b, (Value.slice pa da.length ca).ownBlock = some b → (Value.slice pb db.length cb).ownBlock ≠ some b) ∧ B ≤ na ∧ B ≤ nb ∧ P na ∧ P nb ∧
    (∀ b, (Value.slice pa da.length ca).ownBlock = some b → P b) ∧ (∀ b, (Value.slice pb db.length cb).ownBlock = some b → P b) ∧ (∀ e ∈ da, ∀ b, e.sl.ownBlock = some b → P b) ∧ (∀ e ∈ db, ∀ b, e.sl.ownBlock = some b → P b)

theorem TwoS.keep {B na nb : Nat} {P : Nat → Prop} {n m : Nw} {w w' : World} (h : TwoS B na nb P n m w) (hb : Below w.heap.size w w') : TwoS B na nb P n m w' := by
  obtain ⟨pa, ca, da, pb, cb, db, h1, h2, h3, h4, h5⟩ := h
  exact ⟨pa, ca, da, pb, cb, db, h1, h2, h3.keep hb, h4.keep hb, h5⟩
theorem TwoS.mono {B na nb : Nat} {P P' : Nat → Prop} {n m : Nw} {w : World} (h : TwoS B na nb P n m w) (hp : ∀ b, P b → P' b) : TwoS B na nb P' n m w := by
  obtain ⟨pa, ca, da, pb, cb, db, h1, h2, h3, h4, h5, h6, h7, h8, h9, h10, h11, h12, h13⟩ := h
  exact ⟨pa, ca, da, pb, cb, db, h1, h2, h3, h4, h5, h6, h7, hp _ h8, hp _ h9, fun b hb => hp _ (h10 b hb), fun b hb => hp _ (h11 b hb), fun e he b hb => hp _ (h12 e he b hb), fun e he b hb => hp _ (h13 e he b hb)⟩
theorem TwoS.lt {B na nb : Nat} {P : Nat → Prop} {n m : Nw} {w : World} (h : TwoS B na nb P n m w) : TwoS B na nb (fun b => b < w.heap.size) n m w := by
  obtain ⟨pa, ca, da, pb, cb, db, h1, h2, h3, h4, h5, h6, h7, h8, h9, h10, h11, h12, h13⟩ := h
  exact ⟨pa, ca, da, pb, cb, db, h1, h2, h3, h4, h5, h6, h7, block_lt h3.box, block_lt h4.box, fun b hb => Own.lt h3.row b hb, fun b hb => Own.lt h4.row b hb, fun e he b hb => Own.lt (h3.bts e he) b hb, fun e he b hb => Own.lt (h4.bts e he) b hb⟩
/-- writes elsewhere -/
theorem TwoS.mod {B na nb : Nat} {P R : Nat → Prop} {n m : Nw} {w w' : World} (h : TwoS B na nb P n m w) (hm : Mod R w w') (hr : ∀ b, P b → ¬ R b) : TwoS B na nb P n m w' := by
  obtain ⟨pa, ca, da, pb, cb, db, h1, h2, h3, h4, h5, h6, h7, h8, h9, h10, h11, h12, h13⟩ := h
  exact ⟨pa, ca, da, pb, cb, db, h1, h2, h3.mod hm (hr _ h8) (fun b hb => hr _ (h10 b hb)) (fun e he b hb => hr _ (h12 e he b hb)), h4.mod hm (hr _ h9) (fun b hb => hr _ (h11 b hb)) (fun e he b hb => hr _ (h13 e he b hb)), h5, h6, h7, h8, h9, h10, h11, h12, h13⟩
theorem box_ne {na nb : Nat} {w : World} {c c' : Array Value} {T T' : TypeId} (h : w.heap[na]? = some (.cells c T)) (h' : w.heap[nb]? = some (.cells c' T')) (hT : T ≠ T') : na ≠ nb := by
  intro e
  subst e
  rw [h] at h'
  simp only [Option.some.injEq, Obj.cells.injEq] at h'
  exact hT h'.2.1
/-- the program's net turns -/
theorem TwoS.a {B na nb : Nat} {P : Nat → Prop} {n m : Nw} {w : World} (h : TwoS B na nb P n m w) : ∃ S T : Nat → Prop, NetR B na S T n w ∧ (∀ b, S b ∨ b = na → P b ∧ B ≤ b ∧ b < w.heap.size) ∧ (∀ b, T b → P b ∧ b < w.heap.size) ∧ (∀ (B' : Nat) (d : Dv), OwnB 5 B' w d → ∀ b, d.sl.ownBlock = some b → ¬ (S b ∨ b = na)) ∧
    ∀ (n' : Nw) (w' : World), NetR B na (fun b => S b ∨ w.heap.size ≤ b) (fun b => T b ∨ w.heap.size ≤ b) n' w' → Mod (fun b => S b ∨ b = na) w w' → TwoS B na nb (fun b => P b ∨ w.heap.size ≤ b) n' m w' := by
  obtain ⟨pa, ca, da, pb, cb, db, h1, h2, h3, h4, h5, h6, h7, h8, h9, h10, h11, h12, h13⟩ := h
  have hne : na ≠ nb := box_ne h3.box h4.box (by decide)
  refine ⟨fun b => (Value.slice pa da.length ca).ownBlock = some b, fun b => ∃ e ∈ da, e.sl.ownBlock = some b, ⟨pa, ca, da, h1, h3, fun b hb => hb, fun e he b hb => ⟨e, he, hb⟩⟩, fun b hb => ?_, fun b ⟨e, he, hb⟩ => ⟨h12 e he b hb, Own.lt (h3.bts e he) b hb⟩, fun B' d hd b hb h => h.elim (fun h => own_apart h3.row hd (by decide) b h hb) (fun h => by subst h; exact own_box hd h3.box (by decide) hb), fun n' w' hn hm => ?_⟩
  · rcases hb with hb | hb
    · exact ⟨h10 b hb, Own.block h3.row b hb, Own.lt h3.row b hb⟩
    · subst hb; exact ⟨h8, h6, block_lt h3.box⟩
  · obtain ⟨pa', ca', da', e1, e2, e3, e4⟩ := hn
    refine ⟨pa', ca', da', pb, cb, db, e1, h2, e2, h4.mod hm ?_ ?_ ?_, fun b hb hb' => ?_, h6, h7, .inl h8, .inl h9, fun b hb => ?_, fun b hb => .inl (h11 b hb), fun e he b hb => ?_, fun e he b hb => .inl (h13 e he b hb)⟩
    · rintro (h | h)
      · exact own_box h3.row h4.box (by decide) h
      · exact hne h.symm
    · rintro b hb (h | h)
      · exact h5 b h hb
      · subst h; exact own_box h4.row h3.box (by decide) hb
    · rintro e he b hb (h | h)
      · exact own_apart h3.row (h4.bts e he) (by decide) b h hb
      · subst h; exact own_box (h4.bts e he) h3.box (by decide) hb
    · rcases e3 b hb with h | h
      · exact h5 b h hb'
      · have := Own.lt h4.row b hb'; omega
    · exact (e3 b hb).elim (fun h => .inl (h10 b h)) .inr
    · exact (e4 e he b hb).elim (fun ⟨x, hx, h⟩ => .inl (h12 x hx b h)) .inr
/-- the document's net turns -/
theorem TwoS.b {B na nb : Nat} {P : Nat → Prop} {n m : Nw} {w : World} (h : TwoS B na nb P n m w) : ∃ S T : Nat → Prop, NetQ B nb S T m w ∧ (∀ b, S b ∨ b = nb → P b ∧ B ≤ b ∧ b < w.heap.size) ∧ (∀ b, T b → P b ∧ b < w.heap.size) ∧ (∀ (B' : Nat) (d : Dv), OwnB 5 B' w d → ∀ b, d.sl.ownBlock = some b → ¬ (S b ∨ b = nb)) ∧
    ∀ (m' : Nw) (w' : World), NetQ B nb (fun b => S b ∨ w.heap.size ≤ b) (fun b => T b ∨ w.heap.size ≤ b) m' w' → Mod (fun b => S b ∨ b = nb) w w' → TwoS B na nb (fun b => P b ∨ w.heap.size ≤ b) n m' w' := by
  obtain ⟨pa, ca, da, pb, cb, db, h1, h2, h3, h4, h5, h6, h7, h8, h9, h10, h11, h12, h13⟩ := h
  have hne : na ≠ nb := box_ne h3.box h4.box (by decide)
  refine ⟨fun b => (Value.slice pb db.length cb).ownBlock = some b, fun b => ∃ e ∈ db, e.sl.ownBlock = some b, ⟨pb, cb, db, h2, h4, fun b hb => hb, fun e he b hb => ⟨e, he, hb⟩⟩, fun b hb => ?_, fun b ⟨e, he, hb⟩ => ⟨h13 e he b hb, Own.lt (h4.bts e he) b hb⟩, fun B' d hd b hb h => h.elim (fun h => own_apart h4.row hd (by decide) b h hb) (fun h => by subst h; exact own_box hd h4.box (by decide) hb), fun m' w' hn hm => ?_⟩
  · rcases hb with hb | hb
    · exact ⟨h11 b hb, Own.block h4.row b hb, Own.lt h4.row b hb⟩
    · subst hb; exact ⟨h9, h7, block_lt h4.box⟩
  · obtain ⟨pb', cb', db', e1, e2, e3, e4⟩ := hn
    refine ⟨pa, ca, da, pb', cb', db', h1, e1, h3.mod hm ?_ ?_ ?_, e2, fun b hb hb' => ?_, h6, h7, .inl h8, .inl h9, fun b hb => .inl (h10 b hb), fun b hb => ?_, fun e he b hb => .inl (h12 e he b hb), fun e he b hb => ?_⟩
    · rintro (h | h)
      · exact own_box h4.row h3.box (by decide) h
      · exact hne h
    · rintro b hb (h | h)
      · exact h5 b hb h
      · subst h; exact own_box h3.row h4.box (by decide) hb
    · rintro e he b hb (h | h)
      · exact own_apart h4.row (h3.bts e he) (by decide) b h hb
      · subst h; exact own_box (h3.bts e he) h4.box (by decide) hb
    · rcases e3 b hb' with h | h
      · exact h5 b hb h
      · have := Own.lt h3.row b hb; omega
    · exact (e3 b hb).elim (fun h => .inl (h11 b h)) .inr
    · exact (e4 e he b hb).elim (fun ⟨x, hx, h⟩ => .inl (h13 x hx b h)) .inr
/-- both, as they lie: for what only reads them -/
theorem TwoS.get {B na nb : Nat} {P : Nat → Prop} {n m : Nw} {w : World} (h : TwoS B na nb P n m w) : (∃ S T, NetR B na S T n w) ∧ ∃ S T, NetQ B nb S T m w := by
  obtain ⟨S, T, h1, -⟩ := h.a
  obtain ⟨S', T', h2, -⟩ := h.b
  exact ⟨⟨S, T, h1⟩, ⟨S', T', h2⟩⟩

/-- what Lose, Twice make of a net -/
def ntLose (n : Nw) (k : Int) : Nw := if n.l.length = 0 then n else ⟨(ntTake n k).l, n.g + 1⟩
def ntTwice (n : Nw) (k : Int) : Nw := match n.l[ntPlace k n.l.length]? with
  | some d => ntSend1 n d
  | none => n
theorem take_none {n : Nw} (h : n.l.length = 0) (k : Int) : ntTake n k = n := by
  obtain ⟨l, g⟩ := n
  have : l = [] := List.length_eq_zero_iff.1 h
  subst this
  rfl
/-- behind a call on one of the two nets: what it told, both nets, and that no bytes were written -/
def TwoP (B na nb : Nat) (P : Nat → Prop) (n m : Nw) (w w' : World) : Prop :=
  TwoS B na nb (fun b => P b ∨ w.heap.size ≤ b) n m w' ∧ Below B w w' ∧ (∀ (B' : Nat) (d : Dv), OwnB 5 B' w d → OwnB 5 B' w' d) ∧ Mod P w w'
theorem twoP_below {B na nb : Nat} {P : Nat → Prop} {n m : Nw} {w w' : World} (h : TwoS B na nb P n m w) (hB : B ≤ w.heap.size) (hb : Below w.heap.size w w') : TwoP B na nb P n m w w' :=
  ⟨(h.keep hb).mono (fun b h => .inl h), hb.mono hB, fun B' d hd => Own.keep hd hb, Mod.of_below _ hb⟩
theorem bel_of_mod {B : Nat} {S : Nat → Prop} {w w' : World} (hm : Mod S w w') (hB : B ≤ w.heap.size) (hs : ∀ b, S b → B ≤ b) : Below B w w' := hm.below (Below.refl _ _) hB hs
section
variable {B na nb : Nat} {P : Nat → Prop} {n m : Nw} {w : World}
theorem two_take_a (h : TwoS B na nb P n m w) (hB : B ≤ w.heap.size) (k : Int) (hl : n.l.length ≤ 64) (hk : -9223372036854775808 ≤ k ∧ k ≤ 9223372036854775807) :
    Calls Try.prog 12 #[.pointer (some ⟨na, 0, none⟩), .int .i64 k] w fun e w' => ∃ d : Dv, (if n.l.length = 0 then d.con = ⟨0, 0, []⟩ else n.l[ntPlace k n.l.length]? = some d.con) ∧
      e = .returned (.tuple #[.agg #[.int .i64 d.fr, .int .i64 d.tt, .slice d.p d.bs.length d.cap], .bool (decide (0 < n.l.length))]) ∧ Hid (OwnB 5 B w' d) ∧ Hid (TwoP B na nb P (ntTake n k) m w w') := by
  obtain ⟨S, T, NA, hS, hT, hU, res⟩ := h.a
  refine (ntake_r B na S T n k w NA hl hk).mono fun e w' he => ?_
  rcases he with ⟨h0, he, hb⟩ | ⟨h0, d, hd, he, hN, hO, hTd, hM⟩
  · refine ⟨⟨0, 0, none, 0, []⟩, by rw [if_pos h0]; rfl, by rw [he, decide_eq_false (by omega)]; rfl, Lib.hid (own_nil _ _ _ _), Lib.hid ?_⟩
    rw [take_none h0]
    exact twoP_below h hB hb.out
  · refine ⟨d, by rw [if_neg (by omega)]; exact hd, by rw [he, decide_eq_true h0], hO, Lib.hid ⟨res _ _ (netr_mono hN.out (fun _ h => h) (fun _ h => .inl h)) hM.out, bel_of_mod hM.out hB (fun b h => (hS b h).2.1), fun B' x hx => Own.mod hx hM.out (hU B' x hx), hM.out.mono (fun b h => (hS b h).1)⟩⟩
theorem two_take_b (h : TwoS B na nb P n m w) (hB : B ≤ w.heap.size) (k : Int) (hl : m.l.length ≤ 64) (hk : -9223372036854775808 ≤ k ∧ k ≤ 9223372036854775807) :
    Calls Try.prog 13 #[.pointer (some ⟨nb, 0, none⟩), .int .i64 k] w fun e w' => ∃ d : Dv, (if m.l.length = 0 then d.con = ⟨0, 0, []⟩ else m.l[ntPlace k m.l.length]? = some d.con) ∧
      e = .returned (.tuple #[.agg #[.int .i64 d.fr, .int .i64 d.tt, .slice d.p d.bs.length d.cap], .bool (decide (0 < m.l.length))]) ∧ Hid (OwnB 5 B w' d) ∧ Hid (TwoP B na nb P n (ntTake m k) w w') := by
  obtain ⟨S, T, NB, hS, hT, hU, res⟩ := h.b
  refine (qtake_r B nb S T m k w NB hB hl hk).mono fun e w' he => ?_
  rcases he with ⟨h0, he, hb⟩ | ⟨h0, d, hd, he, hN, hO, hTd, hM⟩
  · refine ⟨⟨0, 0, none, 0, []⟩, by rw [if_pos h0]; rfl, by rw [he, decide_eq_false (by omega)]; rfl, Lib.hid (own_nil _ _ _ _), Lib.hid ?_⟩
    rw [take_none h0]
    exact twoP_below h hB hb.out
  · refine ⟨d, by rw [if_neg (by omega)]; exact hd, by rw [he, decide_eq_true h0], hO, Lib.hid ⟨res _ _ (netr_mono hN.out (fun _ h => h) (fun _ h => .inl h)) hM.out, bel_of_mod hM.out hB (fun b h => (hS b h).2.1), fun B' x hx => Own.mod hx hM.out (hU B' x hx), hM.out.mono (fun b h => (hS b h).1)⟩⟩
theorem two_lose_a (h : TwoS B na nb P n m w) (hB : B ≤ w.heap.size) (k : Int) (hl : n.l.length ≤ 64) (hk : -9223372036854775808 ≤ k ∧ k ≤ 9223372036854775807) (hg : 0 ≤ n.g ∧ n.g ≤ 1099511627776) :
    Calls Try.prog 15 #[.pointer (some ⟨na, 0, none⟩), .int .i64 k] w fun e w' => e = .returned (.bool (decide (0 < n.l.length))) ∧ Hid (TwoP B na nb P (ntLose n k) m w w') := by
  obtain ⟨S, T, NA, hS, hT, hU, res⟩ := h.a
  refine (nlose_r B na S T n k w NA hl hk hg).mono fun e w' he => ?_
  rcases he with ⟨h0, he, hb⟩ | ⟨h0, he, hN, hM⟩
  · refine ⟨by rw [he, decide_eq_false (by omega)], Lib.hid ?_⟩
    unfold ntLose
    rw [if_pos h0]
    exact twoP_below h hB hb.out
  · refine ⟨by rw [he, decide_eq_true h0], Lib.hid ?_⟩
    unfold ntLose
    rw [if_neg (by omega)]
    exact ⟨res _ _ (netr_mono hN.out (fun _ h => h) (fun _ h => .inl h)) hM.out, bel_of_mod hM.out hB (fun b h => (hS b h).2.1), fun B' x hx => Own.mod hx hM.out (hU B' x hx), hM.out.mono (fun b h => (hS b h).1)⟩
theorem two_lose_b (h : TwoS B na nb P n m w) (hB : B ≤ w.heap.size) (k : Int) (hl : m.l.length ≤ 64) (hk : -9223372036854775808 ≤ k ∧ k ≤ 9223372036854775807) (hg : 0 ≤ m.g ∧ m.g ≤ 1099511627776) :
    Calls Try.prog 16 #[.pointer (some ⟨nb, 0, none⟩), .int .i64 k] w fun e w' => e = .returned (.bool (decide (0 < m.l.length))) ∧ Hid (TwoP B na nb P n (ntLose m k) w w') := by
  obtain ⟨S, T, NB, hS, hT, hU, res⟩ := h.b
  refine (qlose_r B nb S T m k w NB hB hl hk hg).mono fun e w' he => ?_
  rcases he with ⟨h0, he, hb⟩ | ⟨h0, he, hN, hM⟩
  · refine ⟨by rw [he, decide_eq_false (by omega)], Lib.hid ?_⟩
    unfold ntLose
    rw [if_pos h0]
    exact twoP_below h hB hb.out
  · refine ⟨by rw [he, decide_eq_true h0], Lib.hid ?_⟩
    unfold ntLose
    rw [if_neg (by omega)]
    exact ⟨res _ _ (netr_mono hN.out (fun _ h => h) (fun _ h => .inl h)) hM.out, bel_of_mod hM.out hB (fun b h => (hS b h).2.1), fun B' x hx => Own.mod hx hM.out (hU B' x hx), hM.out.mono (fun b h => (hS b h).1)⟩
theorem two_twice_a (h : TwoS B na nb P n m w) (hB : B ≤ w.heap.size) (k : Int) (hl : n.l.length ≤ 64) (hk : -9223372036854775808 ≤ k ∧ k ≤ 9223372036854775807) (hle : ∀ d ∈ n.l, d.bs.length ≤ 140737488355328) (hg : 0 ≤ n.g ∧ n.g + 1 ≤ 1099511627776) :
    Calls Try.prog 17 #[.pointer (some ⟨na, 0, none⟩), .int .i64 k] w fun e w' => e = .returned (.bool (decide (0 < n.l.length))) ∧ Hid (TwoP B na nb P (ntTwice n k) m w w') := by
  obtain ⟨S, T, NA, hS, hT, hU, res⟩ := h.a
  refine (ntwice_any B na S T n k w NA hB hl hk hle hg).mono fun e w' he => ?_
  rcases he with ⟨h0, he, rfl⟩ | ⟨i, d, hi, hd, he, hN, hM⟩
  · refine ⟨by rw [he, decide_eq_false (by omega)], Lib.hid ?_⟩
    unfold ntTwice
    rw [List.getElem?_eq_none (by omega)]
    exact twoP_below h hB (Below.refl _ _)
  · have h0 : 0 < n.l.length := by have := (List.getElem?_eq_some_iff.1 hd).1; omega
    refine ⟨by rw [he, decide_eq_true h0], Lib.hid ?_⟩
    unfold ntTwice
    rw [← hi, hd]
    exact ⟨res _ _ hN.out hM.out, bel_of_mod hM.out hB (fun b h => (hS b h).2.1), fun B' x hx => Own.mod hx hM.out (hU B' x hx), hM.out.mono (fun b h => (hS b h).1)⟩
theorem two_twice_b (h : TwoS B na nb P n m w) (hB : B ≤ w.heap.size) (k : Int) (hl : m.l.length ≤ 64) (hk : -9223372036854775808 ≤ k ∧ k ≤ 9223372036854775807) (hle : ∀ d ∈ m.l, d.bs.length ≤ 140737488355328) (hg : 0 ≤ m.g ∧ m.g + 1 ≤ 1099511627776) :
    Calls Try.prog 18 #[.pointer (some ⟨nb, 0, none⟩), .int .i64 k] w fun e w' => e = .returned (.bool (decide (0 < m.l.length))) ∧ Hid (TwoP B na nb P n (ntTwice m k) w w') := by
  obtain ⟨S, T, NB, hS, hT, hU, res⟩ := h.b
  refine (qtwice_any B nb S T m k w NB hB hl hk hle hg).mono fun e w' he => ?_
  rcases he with ⟨h0, he, rfl⟩ | ⟨i, d, hi, hd, he, hN, hM⟩
  · refine ⟨by rw [he, decide_eq_false (by omega)], Lib.hid ?_⟩
    unfold ntTwice
    rw [List.getElem?_eq_none (by omega)]
    exact twoP_below h hB (Below.refl _ _)
  · have h0 : 0 < m.l.length := by have := (List.getElem?_eq_some_iff.1 hd).1; omega
    refine ⟨by rw [he, decide_eq_true h0], Lib.hid ?_⟩
    unfold ntTwice
    rw [← hi, hd]
    exact ⟨res _ _ hN.out hM.out, bel_of_mod hM.out hB (fun b h => (hS b h).2.1), fun B' x hx => Own.mod hx hM.out (hU B' x hx), hM.out.mono (fun b h => (hS b h).1)⟩
end
end Go.Proofs.Ytkgngfjlmkclcaa.K

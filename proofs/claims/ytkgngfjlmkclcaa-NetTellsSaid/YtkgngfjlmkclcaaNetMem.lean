/-
  DATAGRAMS IN MEMORY: slices of datagrams, each with its bytes; a net's box. No program. No condition.
-/
import Derived.Test.YtkgngfjlmkclcaaSl
import Derived.Test.YtkgngfjlmkclcaaReg
import Derived.Test.YtkgngfjlmkclcaaNetFns
set_option linter.unusedVariables false
set_option linter.unusedSimpArgs false
namespace Nj
open Go Go.RowKit
/-- a datagram as it lies: from, to, where its bytes lie, and what they are -/
structure Dv where
  fr : Int
  tt : Int
  p : Option Addr
  cap : Nat
  bs : List Int
def Dv.sl (d : Dv) : Value := .slice d.p d.bs.length d.cap
def Dv.cells (d : Dv) : List Value := [.int .i64 d.fr, .int .i64 d.tt, .slice d.p d.bs.length d.cap]
def Dv.con (d : Dv) : Dg := ⟨d.fr, d.tt, d.bs⟩
def u8s (l : List Int) : List Value := l.map (Value.int .u8)
theorem u8s_len (l : List Int) : (u8s l).length = l.length := by simp [u8s]
theorem dv_three (d : Dv) : d.cells.length = 3 := rfl
theorem dv_cells_one (l : List Dv) : ∀ u ∈ flat Dv.cells l, u.oneCell' = true := by
  intro u hu
  simp only [flat, List.mem_flatMap, Dv.cells, List.mem_cons, List.not_mem_nil, or_false] at hu
  obtain ⟨b, _, rfl | rfl | rfl⟩ := hu <;> rfl
theorem u8s_one (l : List Int) : ∀ u ∈ u8s l, u.oneCell' = true := by
  intro u hu
  simp only [u8s, List.mem_map] at hu
  obtain ⟨x, _, rfl⟩ := hu
  rfl
/-- these bytes lie there -/
def Bts (w : World) (d : Dv) : Prop := Sl 1 w d.sl d.bs.length (u8s d.bs)
/-- v is a slice of these datagrams -/
def Dgs (w : World) (v : Value) (l : List Dv) : Prop := Sl 3 w v l.length (flat Dv.cells l) ∧ ∀ d ∈ l, Bts w d
theorem Bts.keep {w w' : World} {d : Dv} (h : Bts w d) (hb : Below w.heap.size w w') : Bts w' d := Sl.keep (by decide) h hb
theorem Dgs.keep {w w' : World} {v : Value} {l : List Dv} (h : Dgs w v l) (hb : Below w.heap.size w w') : Dgs w' v l := ⟨h.1.keep (by decide) hb, fun d hd => (h.2 d hd).keep hb⟩
theorem dgs_keep {w w' : World} {v : Value} {l : List Dv} (h : Hid (Dgs w v l)) (hb : Hid (Below w.heap.size w w')) : Hid (Dgs w' v l) := Lib.hid (h.out.keep hb.out)
theorem dgs_shape {w : World} {v : Value} {l : List Dv} (h : Dgs w v l) : ∃ p cap, v = .slice p l.length cap ∧ l.length ≤ cap := by
  obtain ⟨⟨_, _, p, cap, rfl, hcap, _⟩, _⟩ := h
  exact ⟨p, cap, rfl, hcap⟩
/-- the three cells of datagram i, as the walk spells their addresses -/
theorem dsl_row {w : World} {b o cap n m : Nat} {l : List Dv} (h : Sl 3 w (.slice (some ⟨b, o, none⟩) n cap) m (flat Dv.cells l)) (i : Nat) (hi : i < l.length) (d : Dv) (hd : d = l[i]) :
    w.cell? ⟨b, o + i * 3, none⟩ = some (.int .i64 d.fr) ∧ w.cell? ⟨b, o + i * 3 + 1, none⟩ = some (.int .i64 d.tt) ∧ w.cell? ⟨b, o + i * 3 + 2, none⟩ = some (.slice d.p d.bs.length d.cap) := by
  subst hd
  exact ⟨by simpa using Sl.elem dv_three h i 0 hi (by decide) _ rfl, by simpa [Nat.add_assoc] using Sl.elem dv_three h i 1 hi (by decide) _ rfl, by simpa [Nat.add_assoc] using Sl.elem dv_three h i 2 hi (by decide) _ rfl⟩
/-- bytes of the call's own -/
def OwnB (Eb : TypeId) (B : Nat) (w : World) (d : Dv) : Prop := Own Eb 1 B w d.sl d.bs.length (u8s d.bs)
theorem OwnB.bts {Eb : TypeId} {B : Nat} {w : World} {d : Dv} (h : OwnB Eb B w d) : Bts w d := Own.sl h
/-- a net's box: those that wait, each with bytes of the net's own -/
structure NetS (Tn E Eb : TypeId) (B nb : Nat) (p : Option Addr) (cap : Nat) (ds : List Dv) (g : Int) (w : World) : Prop where
  box : w.heap[nb]? = some (.cells #[.slice p ds.length cap, .int .i64 g] Tn)
  row : Own E 3 B w (.slice p ds.length cap) ds.length (flat Dv.cells ds)
  bts : ∀ d ∈ ds, OwnB Eb B w d
theorem NetS.keep {Tn E Eb : TypeId} {B nb : Nat} {p : Option Addr} {cap : Nat} {ds : List Dv} {g : Int} {w w' : World} (h : NetS Tn E Eb B nb p cap ds g w) (hb : Below w.heap.size w w') : NetS Tn E Eb B nb p cap ds g w' :=
  ⟨keepb h.box hb, h.row.keep hb, fun d hd => Own.keep (h.bts d hd) hb⟩
theorem NetS.mod {Tn E Eb : TypeId} {B nb : Nat} {p : Option Addr} {cap : Nat} {ds : List Dv} {g : Int} {w w' : World} {S : Nat → Prop} (h : NetS Tn E Eb B nb p cap ds g w) (hm : Mod S w w') (h1 : ¬ S nb) (h2 : ∀ k, (Value.slice p ds.length cap).ownBlock = some k → ¬ S k) (h3 : ∀ d ∈ ds, ∀ k, d.sl.ownBlock = some k → ¬ S k) : NetS Tn E Eb B nb p cap ds g w' :=
  ⟨hm.keep h.box h1, h.row.mod hm h2, fun d hd => Own.mod (h.bts d hd) hm (h3 d hd)⟩
/-- two slices of elements of different types lie in different blocks -/
theorem own_apart {E E' : TypeId} {sz sz' B B' : Nat} {w : World} {v v' : Value} {n n' : Nat} {cs cs' : List Value} (h : Own E sz B w v n cs) (h' : Own E' sz' B' w v' n' cs') (hE : E ≠ E') : ∀ k, v.ownBlock = some k → v'.ownBlock ≠ some k := by
  obtain ⟨_, h | ⟨g, cap, cur, rfl, _, hh, _⟩⟩ := h
  · obtain ⟨rfl, _⟩ := h; intro k hk; cases hk
  · obtain ⟨_, h' | ⟨g', cap', cur', rfl, _, hh', _⟩⟩ := h'
    · obtain ⟨rfl, _⟩ := h'; intro k _ hk; cases hk
    · intro k hk hk'
      cases hk; cases hk'
      rw [hh] at hh'
      simp only [Option.some.injEq, Obj.cells.injEq] at hh'
      exact hE hh'.2.1
theorem own_box {E T : TypeId} {sz B b : Nat} {w : World} {v : Value} {n : Nat} {cs : List Value} {c : Array Value} (h : Own E sz B w v n cs) (hb : w.heap[b]? = some (.cells c T)) (hE : E ≠ T) : v.ownBlock ≠ some b := by
  obtain ⟨_, h | ⟨g, cap, cur, rfl, _, hh, _⟩⟩ := h
  · obtain ⟨rfl, _⟩ := h; intro hk; cases hk
  · intro hk
    cases hk
    rw [hh] at hb
    simp only [Option.some.injEq, Obj.cells.injEq] at hb
    exact hE hb.2.1
/-- where an own slice lies: at the head of a block, or it is nil -/
theorem own_head {E : TypeId} {sz B : Nat} {w : World} {p : Option Addr} {n m cap : Nat} {cs : List Value} (h : Own E sz B w (.slice p n cap) m cs) : p = none ∨ ∃ g, p = some ⟨g, 0, none⟩ := by
  obtain ⟨_, ⟨h, _⟩ | ⟨g, cap', cur, h, _⟩⟩ := h
  · cases h; exact .inl rfl
  · cases h; exact .inr ⟨g, rfl⟩
end Nj

/-
  MEMORY: what it says that a value is a slice of integers in a world; small lemmas for walks. No program. No condition.
-/
import Derived.WalkKit
import Derived.WalkLawsBesides
import Derived.WalkSpells
import Derived.Outline
import Derived.IntWalk
import Derived.Lib.Hide
import Derived.Lib.QuietBelow
import Derived.BigQuiet
import Derived.ProofKit
import Derived.OpenShut
namespace Nj
open Go Go.RowKit

theorem ret_int {k : IntKind} {a b : Int} (h : a = b) : Ending.returned (.int k a) = .returned (.int k b) := by rw [h]
theorem ret_bool {a b : Bool} (h : a = b) : Ending.returned (.bool a) = .returned (.bool b) := by rw [h]

/-- v is a slice of the integers xs in w -/
def Ints (w : World) (v : Value) (xs : List Int) : Prop :=
  xs.length ≤ 9223372036854775807 ∧ ∃ a cap, v = .slice a xs.length cap ∧ xs.length ≤ cap ∧
    (0 < xs.length → ∃ b o, a = some ⟨b, o, none⟩ ∧ ∀ i (h : i < xs.length), w.cell? ⟨b, o + i, none⟩ = some (.int .i64 xs[i]))

theorem ints_nil (w : World) : Ints w (.slice none 0 0) [] := ⟨by decide, none, 0, rfl, Nat.le_refl _, fun h => by cases h⟩
theorem ints_alloc (w : World) (b : Nat) (vs : Array Value) (T : TypeId) (f : Nat × Nat) (xs : List Int) (n cap : Nat) (hb : b = w.heap.size) (h : vs.toList = xs.map (Value.int .i64)) (hn : n = xs.length) (hl : n ≤ 9223372036854775807) (hcap : n ≤ cap) :
    Ints (w.alloc (.cells vs T f)) (.slice (some ⟨b, 0, none⟩) n cap) xs := by
  subst hn; subst hb
  refine ⟨hl, _, _, rfl, hcap, fun _ => ⟨_, 0, rfl, fun i hi => ?_⟩⟩
  have hs : i < vs.size := by rw [← Array.length_toList, h]; simpa using hi
  have e : vs[i] = Value.int .i64 xs[i] := by
    have : vs.toList[i]'(by simpa using hs) = (xs.map (Value.int .i64))[i]'(by simpa using hi) := by congr 1
    simpa using this
  rw [Nat.zero_add, World.cell?_alloc_mark, Array.getElem?_eq_getElem hs, e]
/-- a slice in memory below B, kept -/
theorem Ints.below {w w' : World} {v : Value} {xs : List Int} {B : Nat} (h : Ints w v xs) (hb : Below B w w') (hB : ∀ a n c, v = .slice (some a) n c → 0 < n → a.block < B) : Ints w' v xs := by
  obtain ⟨hm, a, cap, rfl, hcap, hc⟩ := h
  refine ⟨hm, a, cap, rfl, hcap, fun h0 => ?_⟩
  obtain ⟨b, o, rfl, hd⟩ := hc h0
  refine ⟨b, o, rfl, fun i hi => ?_⟩
  have hlt : b < B := hB ⟨b, o, none⟩ _ _ rfl h0
  rw [hb.cell (p := ⟨b, o + i, none⟩) hlt]
  exact hd i hi
/-- cells that exist lie below the heap's size -/
theorem cell_lt {w : World} {a : Addr} {v : Value} (h : w.cell? a = some v) : a.block < w.heap.size := by
  by_cases hlt : a.block < w.heap.size
  · exact hlt
  · simp [World.cell?, Array.getElem?_eq_none (Nat.le_of_not_lt hlt)] at h
theorem Ints.lt {w : World} {v : Value} {xs : List Int} (h : Ints w v xs) : ∀ a n c, v = .slice (some a) n c → 0 < n → a.block < w.heap.size := by
  obtain ⟨hm, a, cap, rfl, hcap, hc⟩ := h
  intro a' n c e h0
  simp only [Value.slice.injEq] at e
  obtain ⟨rfl, rfl, rfl⟩ := e
  obtain ⟨b, o, e, hd⟩ := hc h0
  cases e
  exact cell_lt (a := ⟨b, o + 0, none⟩) (hd 0 h0)
theorem Ints.keep {w w' : World} {v : Value} {xs : List Int} (h : Ints w v xs) (hb : Below w.heap.size w w') : Ints w' v xs := h.below hb h.lt
theorem Ints.take {w : World} {p : Option Addr} {len cap : Nat} {xs : List Int} (h : Ints w (.slice p len cap) xs) (n : Nat) (hn : n ≤ xs.length) : Ints w (.slice p n cap) (xs.take n) := by
  obtain ⟨hm, a, c, e, hcap, hc⟩ := h
  simp only [Value.slice.injEq] at e
  obtain ⟨rfl, rfl, rfl⟩ := e
  have hl : (xs.take n).length = n := by rw [List.length_take]; omega
  refine ⟨by omega, p, cap, by rw [hl], by omega, fun h0 => ?_⟩
  obtain ⟨b, o, rfl, hd⟩ := hc (by omega)
  refine ⟨b, o, rfl, fun i hi => ?_⟩
  rw [hd i (by omega)]; simp
theorem Ints.drop {w : World} {p : Option Addr} {len cap : Nat} {xs : List Int} (h : Ints w (.slice p len cap) xs) (n : Nat) (hn : n ≤ xs.length) :
    Ints w (.slice (if cap = n then p else p.map (·.add n)) (len - n) (cap - n)) (xs.drop n) := by
  obtain ⟨hm, a, c, e, hcap, hc⟩ := h
  simp only [Value.slice.injEq] at e
  obtain ⟨rfl, rfl, rfl⟩ := e
  have hl : (xs.drop n).length = xs.length - n := by rw [List.length_drop]
  refine ⟨by omega, _, _, by rw [hl], by omega, fun h0 => ?_⟩
  obtain ⟨b, o, rfl, hd⟩ := hc (by omega)
  rw [if_neg (by omega)]
  refine ⟨b, o + n, ?_, fun i hi => ?_⟩
  · simp [Addr.add]
  · rw [show o + n + i = o + (n + i) by omega, hd (n + i) (by omega)]; simp
end Nj
namespace Nj
open Go Go.RowKit Go.ChangeShapes Go.WideShapes
/-- a slice of integers that came in, as the reader gives it -/
theorem ints_of_open {H : Type} {enc : TypeId × Value → H} {P : Program} {w : World} {base : Nat} {spare : Nat → Bool} {held : Bool} {t e : TypeId} {fuel : Nat} {a : Option Addr} {len cap : Nat} {x : DataW H × List MemPlace}
    (ht : P.underlying t = some (.slice e)) (he : P.underlying e = some (.int .i64)) (hc : P.cellsOf e = 1) (h : DataW.trod enc P w base spare held fuel t [.slice a len cap] = some x) :
    ∃ xs : List Int, Ints w (.slice a len cap) xs ∧ ∀ n ∈ xs, (Lit.int .i64 n).wf = true := by
  rcases open_ints ht he hc h with ⟨hcs, _⟩ | ⟨x, l, c, zs, hcs, _, hl, hm, hz, _, hcell, hwz⟩
  · simp at hcs
    obtain ⟨rfl, rfl, rfl⟩ := hcs
    exact ⟨[], ints_nil w, by simp⟩
  · simp at hcs
    obtain ⟨rfl, rfl, rfl⟩ := hcs
    have hlz : len ≤ zs.length := by rw [hz]; split <;> omega
    refine ⟨zs.take len, ⟨?_, some x, cap, ?_, ?_, ?_⟩, fun n hn => hwz n (List.mem_of_mem_take hn)⟩
    · unfold maxLen at hm
      simp
      omega
    · rw [List.length_take, Nat.min_eq_left hlz]
    · rw [List.length_take]; omega
    · intro h0
      rw [List.length_take, Nat.min_eq_left hlz] at h0
      obtain ⟨b, off, rfl, hd⟩ := Go.ints_at hcell (by omega)
      refine ⟨b, off, rfl, fun i hi => ?_⟩
      have hi' : i < len := by rw [List.length_take, Nat.min_eq_left hlz] at hi; exact hi
      rw [hd i (by omega)]
      simp [List.getD_eq_getElem?_getD, List.getElem?_eq_getElem (show i < zs.length by omega)]
end Nj
namespace Nj
open Go Go.RowKit Go.Sort
/-- a contract 'the world is left alone', met in a world of the class -/
theorem same_regrown {P : Program} {f : FuncId} {args : Array Value} {w : World} {d : Nat} {os : Array Obj} {v : Value}
    (h : Calls P f args (grow (redrawn w d) os) fun e w' => e = .returned v ∧ grow (redrawn w d) os = w') : Calls P f args (grow (redrawn w d) os) fun e w'' => e = .returned v ∧ ∃ p : Regrown, w'' = grow (redrawn w p.d) p.os :=
  h.mono fun _ _ ⟨he, hm⟩ => ⟨he, ⟨d, os⟩, hm.symm⟩
/-- the cell of an element -/
theorem Ints.at {w : World} {b n cap : Nat} {xs : List Int} (h : Ints w (.slice (some ⟨b, 0, none⟩) n cap) xs) (k : Nat) (hk : k < xs.length) : w.cell? ⟨b, k, none⟩ = some (.int .i64 xs[k]) := by
  obtain ⟨hm, a, c, e, hcap, hc⟩ := h
  simp only [Value.slice.injEq] at e
  obtain ⟨e1, rfl, rfl⟩ := e
  obtain ⟨b', o, e2, hd⟩ := hc (by omega)
  rw [e2] at e1
  simp only [Option.some.injEq, Addr.mk.injEq] at e1
  obtain ⟨rfl, rfl, _⟩ := e1
  simpa using hd k hk
theorem Ints.atp {w : World} {p : Option Addr} {n cap : Nat} {xs : List Int} (h : Ints w (.slice p n cap) xs) (k : Nat) (hk : k < xs.length) : ∃ b o, p = some ⟨b, o, none⟩ ∧ w.cell? ⟨b, o + k, none⟩ = some (.int .i64 xs[k]) := by
  obtain ⟨hm, a, c, e, hcap, hc⟩ := h
  simp only [Value.slice.injEq] at e
  obtain ⟨rfl, rfl, rfl⟩ := e
  obtain ⟨b', o, rfl, hd⟩ := hc (by omega)
  exact ⟨b', o, rfl, hd k hk⟩
theorem Ints.regrown {w : World} {v : Value} {xs : List Int} (h : Ints w v xs) (d : Nat) (os : Array Obj) : Ints (grow (redrawn w d) os) v xs := h.keep (below_regrown w d os)
end Nj
namespace Nj
open Go Go.RowKit
/-- v is a slice of the call's own (from block B on), elements of type E, that holds the integers xs -/
def OwnI (E : TypeId) (B : Nat) (w : World) (v : Value) (xs : List Int) : Prop := w.ownsRow B E 1 v xs.length (xs.map (Value.int .i64))
theorem ownI_nil (E : TypeId) (B : Nat) (w : World) : OwnI E B w (.slice none 0 0) [] := ⟨rfl, .inl ⟨rfl, rfl⟩⟩
theorem OwnI.ints {E : TypeId} {B : Nat} {w : World} {v : Value} {xs : List Int} (h : OwnI E B w v xs) : Ints w v xs := by
  obtain ⟨hl, h | ⟨g, cap, cur, rfl, hg, hh, hn, hm, hc, ht⟩⟩ := h
  · obtain ⟨rfl, h0⟩ := h
    obtain rfl := List.length_eq_zero_iff.1 h0
    exact ints_nil w
  · unfold maxLen at hm
    refine ⟨by omega, _, _, rfl, hn, fun h0 => ⟨g, 0, rfl, fun i hi => ?_⟩⟩
    have hi2 : i < cur.size := by omega
    have e : cur[i] = Value.int .i64 xs[i] := by
      have h1 : (cur.toList.take (xs.length * 1))[i]? = (xs.map (Value.int .i64))[i]? := by rw [ht]
      rw [List.getElem?_take_of_lt (by omega), List.getElem?_eq_getElem (by simpa using hi2), List.getElem?_eq_getElem (by simpa using hi)] at h1
      simpa using h1
    simp [World.cell?, hh, Array.getElem?_eq_getElem hi2, e]
/-- append of one more, unguarded or guarded (the guard is met) -/
theorem wpList_append_int {P : Program} {w : World} {ops : Array Oper} {rest : List Oper} {o : Oper} {a : Act} {Q : Exit → Act → World → Prop} (hgd : Region.wanted o (yielded ops a.tmps) = true) (s x : Operand) (t : TypeId)
    (ho : o.op = .call { callee := .builtin .append, args := #[s, x], argTypes := #[t, t] })
    (base : Nat) (e : TypeId) (ht : P.underlying t = some (.slice e)) (hi : (P.info? e).map (fun i => (i.zero, i.size, i.bytes)) = some (some (.int .i64 0), 1, 8))
    (v : Value) (xs : List Int) (hs : a.eval s = v) (hown : OwnI e base w v xs)
    (b off c : Nat) (n : Int) (hx : a.eval x = .slice (some ⟨b, off, none⟩) 1 c) (hcell : w.cell? ⟨b, off, none⟩ = some (.int .i64 n))
    (h63 : xs.length ≤ 1048576) (hbase : base ≤ w.heap.size)
    (h : ∀ v' w', OwnI e base w' v' (xs ++ [n]) → w.grownBy w' v.ownBlock → wpList P ops Q rest (a.put o.dst v') w') : wpList P ops Q (o :: rest) a w := by
  obtain ⟨i, hi, hz, hsize, hby⟩ := info_parts hi
  refine wpList_step fun K hK => ?_
  rw [if_pos hgd]
  refine wp_append_own w s x t ho base e i _ 1 8 ht hi hz hsize hby rfl (by decide) v xs.length (xs.map (Value.int .i64)) hs hown ⟨b, off, none⟩ 1 c [.int .i64 n] hx rfl ?_ ?_ ?_ ?_ hbase fun v' w' h2 h3 _ => hK _ _ (h v' w' ?_ h3)
  · intro j u hj
    cases j with
    | zero => simp at hj; subst hj; exact hcell
    | succ j => simp at hj
  · intro u hu; simp at hu; subst hu; rfl
  · unfold maxLen; omega
  · omega
  · have : (xs ++ [n]).length = xs.length + 1 := by simp
    unfold OwnI
    rw [this, List.map_append]; exact h2
theorem OwnI.alloc {E : TypeId} {B : Nat} {w : World} {v : Value} {xs : List Int} (h : OwnI E B w v xs) (o : Obj) : OwnI E B (w.alloc o) v xs := World.ownsRow.alloc h o
theorem OwnI.block {E : TypeId} {B : Nat} {w : World} {v : Value} {xs : List Int} (h : OwnI E B w v xs) : ∀ k, v.ownBlock = some k → B ≤ k := by
  obtain ⟨hl, h | ⟨g, cap, cur, rfl, hg, _⟩⟩ := h
  · obtain ⟨rfl, _⟩ := h; intro k hk; cases hk
  · intro k hk; simp [Value.ownBlock] at hk; omega
end Nj

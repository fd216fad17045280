/-
  MEMORY: what it says that a value is a slice of integers in a world; small lemmas for walks. No program. No condition.
-/
import Derived.WalkKit
import Derived.WalkLawsBesides
import Derived.WalkSpells
import Derived.Outline
import Derived.IntWalk
import Derived.Lib.Hide
import Derived.Lib.QuietBelow
import Derived.BigQuiet
import Derived.Deep.DeepCutAuto
import Derived.ProofKit
import Derived.OpenShut
set_option linter.unusedVariables false
set_option linter.unusedSimpArgs false
namespace Nj
open Go Go.RowKit

theorem ret_int {k : IntKind} {a b : Int} (h : a = b) : Ending.returned (.int k a) = .returned (.int k b) := by rw [h]
theorem ret_bool {a b : Bool} (h : a = b) : Ending.returned (.bool a) = .returned (.bool b) := by rw [h]

/-- v is a slice of the integers xs in w -/
def Ints (w : World) (v : Value) (xs : List Int) : Prop :=
  xs.length ≤ 9223372036854775807 ∧ ∃ a cap, v = .slice a xs.length cap ∧ xs.length ≤ cap ∧
    (0 < xs.length → ∃ b o, a = some ⟨b, o, none⟩ ∧ ∀ i (h : i < xs.length), w.cell? ⟨b, o + i, none⟩ = some (.int .i64 xs[i]))

theorem ints_nil (w : World) : Ints w (.slice none 0 0) [] := ⟨by decide, none, 0, rfl, Nat.le_refl _, fun h => by cases h⟩
theorem ints_alloc (w : World) (b : Nat) (vs : Array Value) (T : TypeId) (f : Nat × Nat) (xs : List Int) (n cap : Nat) (hb : b = w.heap.size) (h : vs.toList = xs.map (Value.int .i64)) (hn : n = xs.length) (hl : n ≤ 9223372036854775807) (hcap : n ≤ cap) :
    Ints (w.alloc (.cells vs T f)) (.slice (some ⟨b, 0, none⟩) n cap) xs := by
  subst hn; subst hb
  refine ⟨hl, _, _, rfl, hcap, fun _ => ⟨_, 0, rfl, fun i hi => ?_⟩⟩
  have hs : i < vs.size := by rw [← Array.length_toList, h]; simpa using hi
  have e : vs[i] = Value.int .i64 xs[i] := by
    have : vs.toList[i]'(by simpa using hs) = (xs.map (Value.int .i64))[i]'(by simpa using hi) := by congr 1
    simpa using this
  rw [Nat.zero_add, World.cell?_alloc_mark, Array.getElem?_eq_getElem hs, e]
/-- a slice in memory below B, kept -/
theorem Ints.below {w w' : World} {v : Value} {xs : List Int} {B : Nat} (h : Ints w v xs) (hb : Below B w w') (hB : ∀ a n c, v = .slice (some a) n c → 0 < n → a.block < B) : Ints w' v xs := by
  obtain ⟨hm, a, cap, rfl, hcap, hc⟩ := h
  refine ⟨hm, a, cap, rfl, hcap, fun h0 => ?_⟩
  obtain ⟨b, o, rfl, hd⟩ := hc h0
  refine ⟨b, o, rfl, fun i hi => ?_⟩
  have hlt : b < B := hB ⟨b, o, none⟩ _ _ rfl h0
  rw [hb.cell (p := ⟨b, o + i, none⟩) hlt]
  exact hd i hi
/-- cells that exist lie below the heap's size -/
theorem cell_lt {w : World} {a : Addr} {v : Value} (h : w.cell? a = some v) : a.block < w.heap.size := by
  by_cases hlt : a.block < w.heap.size
  · exact hlt
  · simp [World.cell?, Array.getElem?_eq_none (Nat.le_of_not_lt hlt)] at h
theorem Ints.lt {w : World} {v : Value} {xs : List Int} (h : Ints w v xs) : ∀ a n c, v = .slice (some a) n c → 0 < n → a.block < w.heap.size := by
  obtain ⟨hm, a, cap, rfl, hcap, hc⟩ := h
  intro a' n c e h0
  simp only [Value.slice.injEq] at e
  obtain ⟨rfl, rfl, rfl⟩ := e
  obtain ⟨b, o, e, hd⟩ := hc h0
  cases e
  exact cell_lt (a := ⟨b, o + 0, none⟩) (hd 0 h0)
theorem Ints.keep {w w' : World} {v : Value} {xs : List Int} (h : Ints w v xs) (hb : Below w.heap.size w w') : Ints w' v xs := h.below hb h.lt
theorem Ints.take {w : World} {p : Option Addr} {len cap : Nat} {xs : List Int} (h : Ints w (.slice p len cap) xs) (n : Nat) (hn : n ≤ xs.length) : Ints w (.slice p n cap) (xs.take n) := by
  obtain ⟨hm, a, c, e, hcap, hc⟩ := h
  simp only [Value.slice.injEq] at e
  obtain ⟨rfl, rfl, rfl⟩ := e
  have hl : (xs.take n).length = n := by rw [List.length_take]; omega
  refine ⟨by omega, p, cap, by rw [hl], by omega, fun h0 => ?_⟩
  obtain ⟨b, o, rfl, hd⟩ := hc (by omega)
  refine ⟨b, o, rfl, fun i hi => ?_⟩
  rw [hd i (by omega)]; simp
theorem Ints.drop {w : World} {p : Option Addr} {len cap : Nat} {xs : List Int} (h : Ints w (.slice p len cap) xs) (n : Nat) (hn : n ≤ xs.length) :
    Ints w (.slice (if cap = n then p else p.map (·.add n)) (len - n) (cap - n)) (xs.drop n) := by
  obtain ⟨hm, a, c, e, hcap, hc⟩ := h
  simp only [Value.slice.injEq] at e
  obtain ⟨rfl, rfl, rfl⟩ := e
  have hl : (xs.drop n).length = xs.length - n := by rw [List.length_drop]
  refine ⟨by omega, _, _, by rw [hl], by omega, fun h0 => ?_⟩
  obtain ⟨b, o, rfl, hd⟩ := hc (by omega)
  rw [if_neg (by omega)]
  refine ⟨b, o + n, ?_, fun i hi => ?_⟩
  · simp [Addr.add]
  · rw [show o + n + i = o + (n + i) by omega, hd (n + i) (by omega)]; simp
end Nj
namespace Nj
open Go Go.RowKit Go.ChangeShapes Go.WideShapes
/-- a slice of integers that came in, as the reader gives it -/
theorem ints_of_open {H : Type} {enc : TypeId × Value → H} {P : Program} {w : World} {base : Nat} {spare : Nat → Bool} {held : Bool} {t e : TypeId} {fuel : Nat} {a : Option Addr} {len cap : Nat} {x : DataW H × List MemPlace}
    (ht : P.underlying t = some (.slice e)) (he : P.underlying e = some (.int .i64)) (hc : P.cellsOf e = 1) (h : DataW.trod enc P w base spare held fuel t [.slice a len cap] = some x) :
    ∃ xs : List Int, Ints w (.slice a len cap) xs ∧ ∀ n ∈ xs, (Lit.int .i64 n).wf = true := by
  rcases open_ints ht he hc h with ⟨hcs, _⟩ | ⟨x, l, c, zs, hcs, _, hl, hm, hz, _, hcell, hwz⟩
  · simp at hcs
    obtain ⟨rfl, rfl, rfl⟩ := hcs
    exact ⟨[], ints_nil w, by simp⟩
  · simp at hcs
    obtain ⟨rfl, rfl, rfl⟩ := hcs
    have hlz : len ≤ zs.length := by rw [hz]; split <;> omega
    refine ⟨zs.take len, ⟨?_, some x, cap, ?_, ?_, ?_⟩, fun n hn => hwz n (List.mem_of_mem_take hn)⟩
    · unfold maxLen at hm
      simp
      omega
    · rw [List.length_take, Nat.min_eq_left hlz]
    · rw [List.length_take]; omega
    · intro h0
      rw [List.length_take, Nat.min_eq_left hlz] at h0
      obtain ⟨b, off, rfl, hd⟩ := Go.ints_at hcell (by omega)
      refine ⟨b, off, rfl, fun i hi => ?_⟩
      have hi' : i < len := by rw [List.length_take, Nat.min_eq_left hlz] at hi; exact hi
      rw [hd i (by omega)]
      simp [List.getD_eq_getElem?_getD, List.getElem?_eq_getElem (show i < zs.length by omega)]
end Nj
namespace Nj
open Go Go.RowKit Go.Sort
/-- a contract 'the world is left alone', met in a world of the class -/
theorem same_regrown {P : Program} {f : FuncId} {args : Array Value} {w : World} {d : Nat} {os : Array Obj} {v : Value}
    (h : Calls P f args (grow (redrawn w d) os) fun e w' => e = .returned v ∧ grow (redrawn w d) os = w') : Calls P f args (grow (redrawn w d) os) fun e w'' => e = .returned v ∧ ∃ p : Regrown, w'' = grow (redrawn w p.d) p.os :=
  h.mono fun _ _ ⟨he, hm⟩ => ⟨he, ⟨d, os⟩, hm.symm⟩
/-- the cell of an element -/
theorem Ints.at {w : World} {b n cap : Nat} {xs : List Int} (h : Ints w (.slice (some ⟨b, 0, none⟩) n cap) xs) (k : Nat) (hk : k < xs.length) : w.cell? ⟨b, k, none⟩ = some (.int .i64 xs[k]) := by
  obtain ⟨hm, a, c, e, hcap, hc⟩ := h
  simp only [Value.slice.injEq] at e
  obtain ⟨e1, rfl, rfl⟩ := e
  obtain ⟨b', o, e2, hd⟩ := hc (by omega)
  rw [e2] at e1
  simp only [Option.some.injEq, Addr.mk.injEq] at e1
  obtain ⟨rfl, rfl, _⟩ := e1
  simpa using hd k hk
theorem Ints.atp {w : World} {p : Option Addr} {n cap : Nat} {xs : List Int} (h : Ints w (.slice p n cap) xs) (k : Nat) (hk : k < xs.length) : ∃ b o, p = some ⟨b, o, none⟩ ∧ w.cell? ⟨b, o + k, none⟩ = some (.int .i64 xs[k]) := by
  obtain ⟨hm, a, c, e, hcap, hc⟩ := h
  simp only [Value.slice.injEq] at e
  obtain ⟨rfl, rfl, rfl⟩ := e
  obtain ⟨b', o, rfl, hd⟩ := hc (by omega)
  exact ⟨b', o, rfl, hd k hk⟩
theorem Ints.regrown {w : World} {v : Value} {xs : List Int} (h : Ints w v xs) (d : Nat) (os : Array Obj) : Ints (grow (redrawn w d) os) v xs := h.keep (below_regrown w d os)
end Nj
namespace Nj
open Go Go.RowKit
/-- v is a slice of the call's own (from block B on), elements of type E, that holds the integers xs -/
def OwnI (E : TypeId) (B : Nat) (w : World) (v : Value) (xs : List Int) : Prop := w.ownsRow B E 1 v xs.length (xs.map (Value.int .i64))
theorem ownI_nil (E : TypeId) (B : Nat) (w : World) : OwnI E B w (.slice none 0 0) [] := ⟨rfl, .inl ⟨rfl, rfl⟩⟩
theorem OwnI.ints {E : TypeId} {B : Nat} {w : World} {v : Value} {xs : List Int} (h : OwnI E B w v xs) : Ints w v xs := by
  obtain ⟨hl, h | ⟨g, cap, cur, rfl, hg, hh, hn, hm, hc, ht⟩⟩ := h
  · obtain ⟨rfl, h0⟩ := h
    obtain rfl := List.length_eq_zero_iff.1 h0
    exact ints_nil w
  · unfold maxLen at hm
    refine ⟨by omega, _, _, rfl, hn, fun h0 => ⟨g, 0, rfl, fun i hi => ?_⟩⟩
    have hi2 : i < cur.size := by omega
    have e : cur[i] = Value.int .i64 xs[i] := by
      have h1 : (cur.toList.take (xs.length * 1))[i]? = (xs.map (Value.int .i64))[i]? := by rw [ht]
      rw [List.getElem?_take_of_lt (by omega), List.getElem?_eq_getElem (by simpa using hi2), List.getElem?_eq_getElem (by simpa using hi)] at h1
      simpa using h1
    simp [World.cell?, hh, Array.getElem?_eq_getElem hi2, e]
/-- append of one more, unguarded or guarded (the guard is met) -/
theorem wpList_append_int {P : Program} {w : World} {ops : Array Oper} {rest : List Oper} {o : Oper} {a : Act} {Q : Exit → Act → World → Prop} (hgd : Region.wanted o (yielded ops a.tmps) = true) (s x : Operand) (t : TypeId)
    (ho : o.op = .call { callee := .builtin .append, args := #[s, x], argTypes := #[t, t] })
    (base : Nat) (e : TypeId) (ht : P.underlying t = some (.slice e)) (hi : (P.info? e).map (fun i => (i.zero, i.size, i.bytes)) = some (some (.int .i64 0), 1, 8))
    (v : Value) (xs : List Int) (hs : a.eval s = v) (hown : OwnI e base w v xs)
    (b off c : Nat) (n : Int) (hx : a.eval x = .slice (some ⟨b, off, none⟩) 1 c) (hcell : w.cell? ⟨b, off, none⟩ = some (.int .i64 n))
    (h63 : xs.length ≤ 1048576) (hbase : base ≤ w.heap.size)
    (h : ∀ v' w', OwnI e base w' v' (xs ++ [n]) → w.grownBy w' v.ownBlock → wpList P ops Q rest (a.put o.dst v') w') : wpList P ops Q (o :: rest) a w := by
  obtain ⟨i, hi, hz, hsize, hby⟩ := info_parts hi
  refine wpList_step fun K hK => ?_
  rw [if_pos hgd]
  refine wp_append_own w s x t ho base e i _ 1 8 ht hi hz hsize hby rfl (by decide) v xs.length (xs.map (Value.int .i64)) hs hown ⟨b, off, none⟩ 1 c [.int .i64 n] hx rfl ?_ ?_ ?_ ?_ hbase fun v' w' h2 h3 _ => hK _ _ (h v' w' ?_ h3)
  · intro j u hj
    cases j with
    | zero => simp at hj; subst hj; exact hcell
    | succ j => simp at hj
  · intro u hu; simp at hu; subst hu; rfl
  · unfold maxLen; omega
  · omega
  · have : (xs ++ [n]).length = xs.length + 1 := by simp
    unfold OwnI
    rw [this, List.map_append]; exact h2
theorem OwnI.alloc {E : TypeId} {B : Nat} {w : World} {v : Value} {xs : List Int} (h : OwnI E B w v xs) (o : Obj) : OwnI E B (w.alloc o) v xs := World.ownsRow.alloc h o
theorem OwnI.block {E : TypeId} {B : Nat} {w : World} {v : Value} {xs : List Int} (h : OwnI E B w v xs) : ∀ k, v.ownBlock = some k → B ≤ k := by
  obtain ⟨hl, h | ⟨g, cap, cur, rfl, hg, _⟩⟩ := h
  · obtain ⟨rfl, _⟩ := h; intro k hk; cases hk
  · intro k hk; simp [Value.ownBlock] at hk; omega
end Nj
namespace Nj
open Go Go.RowKit
/-- all old cells and all old marks read as before (two rules for the walk) -/
theorem bcell {W w1 : World} (hb : Below W.heap.size W w1) : (∀ b o, b < W.heap.size → w1.cell? ⟨b, o, none⟩ = W.cell? ⟨b, o, none⟩) ∧ (∀ b o, b < W.heap.size → w1.frozen? ⟨b, o, none⟩ = W.frozen? ⟨b, o, none⟩) :=
  ⟨fun b o h => hb.cell (p := ⟨b, o, none⟩) h, fun b o h => hb.frozen (p := ⟨b, o, none⟩) h⟩
end Nj
namespace Nj
open Go Go.RowKit
theorem heap_new (w : World) (o : Obj) (k : Nat) (hk : k = w.heap.size) : (w.alloc o).heap[k]? = some o := by
  show (w.heap.push o)[k]? = some o
  subst hk; simp
theorem heap_old (w : World) (o : Obj) (k : Nat) (hk : k < w.heap.size) : (w.alloc o).heap[k]? = w.heap[k]? := Below.heap_alloc w o k hk
theorem cell_of_block {w : World} {b : Nat} {c : Array Value} {T : TypeId} (h : w.heap[b]? = some (.cells c T)) (i : Nat) : w.cell? ⟨b, i, none⟩ = c[i]? := by simp [World.cell?, h]
theorem frozen_of_block {w : World} {b : Nat} {c : Array Value} {T : TypeId} (h : w.heap[b]? = some (.cells c T)) (i : Nat) : w.frozen? ⟨b, i, none⟩ = false := by simp [World.frozen?, h]
/-- one block laid, then whatever leaves what was there alone: its cells and marks (two rules for the walk, without conditions) -/
theorem kept1 {w w1 : World} {c1 : Array Value} {T1 : TypeId} (hb : Below (w.heap.size + 1) (w.alloc (.cells c1 T1)) w1) :
    (∀ i, w1.cell? ⟨w.heap.size, i, none⟩ = c1[i]?) ∧ (∀ i, w1.frozen? ⟨w.heap.size, i, none⟩ = false) := by
  have h : w1.heap[w.heap.size]? = some (.cells c1 T1) := by rw [hb.block _ (by omega), heap_new _ _ _ rfl]
  exact ⟨cell_of_block h, frozen_of_block h⟩
/-- two blocks laid, then whatever leaves what was there alone -/
theorem kept2 {w w1 : World} {c1 c2 : Array Value} {T1 T2 : TypeId} (hb : Below (w.heap.size + 2) ((w.alloc (.cells c1 T1)).alloc (.cells c2 T2)) w1) :
    (∀ i, w1.cell? ⟨w.heap.size, i, none⟩ = c1[i]?) ∧ (∀ i, w1.frozen? ⟨w.heap.size, i, none⟩ = false) ∧ (∀ i, w1.cell? ⟨w.heap.size + 1, i, none⟩ = c2[i]?) ∧ (∀ i, w1.frozen? ⟨w.heap.size + 1, i, none⟩ = false) := by
  have h1 : w1.heap[w.heap.size]? = some (.cells c1 T1) := by rw [hb.block _ (by omega), heap_old _ _ _ (by simp), heap_new _ _ _ rfl]
  have h2 : w1.heap[w.heap.size + 1]? = some (.cells c2 T2) := by rw [hb.block _ (by omega), heap_new _ _ _ (by simp)]
  exact ⟨cell_of_block h1, frozen_of_block h1, cell_of_block h2, frozen_of_block h2⟩
theorem size1 (w : World) (o : Obj) : (w.alloc o).heap.size = w.heap.size + 1 := by simp
theorem size2 (w : World) (o o' : Obj) : ((w.alloc o).alloc o').heap.size = w.heap.size + 2 := by simp
end Nj
namespace Nj
open Go
@[simp] theorem setCell_size (w : World) (a : Addr) (v : Value) : (w.setCell a v).heap.size = w.heap.size := by simp [World.setCell]
end Nj
namespace Nj
open Go Go.RowKit
theorem bel_set {B : Nat} {a w : World} {p : Addr} {u : Value} (hp : B ≤ p.block) (h : Below B a w) : Below B a (w.setCell p u) := h.setCell hp u
theorem bel_alloc {B : Nat} {a w : World} {o : Obj} (hB : B ≤ w.heap.size) (h : Below B a w) : Below B a (w.alloc o) := h.alloc hB o
end Nj
namespace Nj
open Go Go.RowKit
theorem heap_set_same {w : World} {b : Nat} {c : Array Value} {T : TypeId} {fr : Nat × Nat} (h : w.heap[b]? = some (.cells c T fr)) (k : Nat) (v : Value) : (w.setCell ⟨b, k, none⟩ v).heap[b]? = some (.cells (c.setIfInBounds k v) T fr) := by
  simp [World.setCell, Array.getElem?_modify, h]
theorem heap_set_other {w : World} {b b' : Nat} {k : Nat} {v : Value} (hne : b ≠ b') : (w.setCell ⟨b', k, none⟩ v).heap[b]? = w.heap[b]? := Below.heap_setCell _ _ _ _ hne
/-- two blocks laid, then whatever leaves them alone -/
theorem blocks2 {w w1 : World} {o1 o2 : Obj} (hb : Below ((w.alloc o1).alloc o2).heap.size ((w.alloc o1).alloc o2) w1) : w1.heap[w.heap.size]? = some o1 ∧ w1.heap[w.heap.size + 1]? = some o2 ∧ w.heap.size + 1 < w1.heap.size ∧ Below w.heap.size w w1 := by
  rw [size2] at hb
  refine ⟨?_, ?_, ?_, (((Below.refl _ _).alloc (Nat.le_refl _) o1).alloc (by simp) o2).trans (hb.mono (by omega))⟩
  · rw [hb.block _ (by omega), heap_old _ _ _ (by simp), heap_new _ _ _ rfl]
  · rw [hb.block _ (by omega), heap_new _ _ _ (by simp)]
  · have := hb.size; rw [size2] at this; omega
theorem blocks1 {w w1 : World} {o1 : Obj} (hb : Below (w.alloc o1).heap.size (w.alloc o1) w1) : w1.heap[w.heap.size]? = some o1 ∧ w.heap.size < w1.heap.size ∧ Below w.heap.size w w1 := by
  rw [size1] at hb
  refine ⟨?_, ?_, ((Below.refl _ _).alloc (Nat.le_refl _) o1).trans (hb.mono (by omega))⟩
  · rw [hb.block _ (by omega), heap_new _ _ _ rfl]
  · have := hb.size; rw [size1] at this; omega
end Nj
namespace Nj
open Go
/-- an equation between numbers as a rule for the walk alone (omega does not see it) -/
theorem int_rule {a b : Int} (h : a = b) : ∀ k, Value.int k a = Value.int k b := fun k => by rw [h]
end Nj
namespace Nj
open Go Go.RowKit
theorem block_lt {w : World} {b : Nat} {o : Obj} (h : w.heap[b]? = some o) : b < w.heap.size := by
  by_cases hlt : b < w.heap.size
  · exact hlt
  · rw [Array.getElem?_eq_none (Nat.le_of_not_lt hlt)] at h; cases h
theorem keepb {w w' : World} {b : Nat} {o : Obj} (h : w.heap[b]? = some o) (hb : Below w.heap.size w w') : w'.heap[b]? = some o := by rw [hb.block _ (block_lt h)]; exact h
theorem keepa {w : World} {b : Nat} {o : Obj} (h : w.heap[b]? = some o) (o' : Obj) : (w.alloc o').heap[b]? = some o := by rw [heap_old _ _ _ (block_lt h)]; exact h
/-- w' came out of w, whose first blocks are w0's: a chain of 'Below' from the first world on -/
theorem chain {w0 w w' : World} (h : Below w0.heap.size w0 w) (hb : Below w.heap.size w w') : Below w0.heap.size w0 w' := h.trans (hb.mono h.size)
theorem chaina {w0 w : World} (h : Below w0.heap.size w0 w) (o : Obj) : Below w0.heap.size w0 (w.alloc o) := h.alloc h.size o
end Nj
namespace Nj
open Go Go.RowKit Go.ChangeShapes Go.WideShapes
section
variable {H : Type} {enc : TypeId × Value → H} {P : Program} {w : World} {base : Nat} {spare : Nat → Bool} {held : Bool}
/-- a field that is an int, out of a struct's reading -/
theorem field_int {t : TypeId} {fs : Array Field} {fuel : Nat} {cs : List Value} {x : DataW H × List MemPlace} (ht : P.underlying t = some (.struct fs)) (h : DataW.trod enc P w base spare held fuel t cs = some x)
    (i : Nat) (o : Nat) (ft : TypeId) (hf : (fs[i]?).map (fun f => (f.offset, f.type)) = some (o, ft)) (hk : P.underlying ft = some (.int .i64)) (hc : P.cellsOf ft = 1) :
    ∃ n, (cs.drop o).take 1 = [.int .i64 n] ∧ (Lit.int .i64 n).wf = true := by
  obtain ⟨xs, n, rfl, hx, hl, hlen, hg⟩ := DataW.trod_struct ht h
  obtain ⟨f, hfi, hfe⟩ := Option.map_eq_some_iff.1 hf
  simp only [Prod.mk.injEq] at hfe
  obtain ⟨rfl, rfl⟩ := hfe
  have hg' := hg i f hfi
  rw [hc] at hg'
  cases hxi : xs[i]? with
  | none =>
    have h1 := List.getElem?_eq_none_iff.1 hxi
    have h2 := (Array.getElem?_eq_some_iff.1 hfi).1
    omega
  | some y =>
    rw [hxi] at hg'
    obtain ⟨m, h1, _, h3⟩ := DataW.trod_int hk hg'
    exact ⟨m, h1, h3⟩
theorem field_bool {t : TypeId} {fs : Array Field} {fuel : Nat} {cs : List Value} {x : DataW H × List MemPlace} (ht : P.underlying t = some (.struct fs)) (h : DataW.trod enc P w base spare held fuel t cs = some x)
    (i : Nat) (o : Nat) (ft : TypeId) (hf : (fs[i]?).map (fun f => (f.offset, f.type)) = some (o, ft)) (hk : P.underlying ft = some .bool) (hc : P.cellsOf ft = 1) :
    ∃ b, (cs.drop o).take 1 = [.bool b] := by
  obtain ⟨xs, n, rfl, hx, hl, hlen, hg⟩ := DataW.trod_struct ht h
  obtain ⟨f, hfi, hfe⟩ := Option.map_eq_some_iff.1 hf
  simp only [Prod.mk.injEq] at hfe
  obtain ⟨rfl, rfl⟩ := hfe
  have hg' := hg i f hfi
  rw [hc] at hg'
  cases hxi : xs[i]? with
  | none =>
    have h1 := List.getElem?_eq_none_iff.1 hxi
    have h2 := (Array.getElem?_eq_some_iff.1 hfi).1
    omega
  | some y =>
    rw [hxi] at hg'
    obtain ⟨m, h1, _⟩ := DataW.trod_bool hk hg'
    exact ⟨m, h1⟩
end
end Nj
namespace Nj
open Go Go.RowKit
theorem store5 {w : World} {b : Nat} {T : TypeId} {x0 x1 x2 x3 x4 : Value} (h : w.heap[b]? = some (.cells #[x0, x1, x2, x3, x4] T)) (y0 y1 y2 y3 y4 : Value) :
    (((((w.setCell ⟨b, 0, none⟩ y0).setCell ⟨b, 1, none⟩ y1).setCell ⟨b, 2, none⟩ y2).setCell ⟨b, 3, none⟩ y3).setCell ⟨b, 4, none⟩ y4).heap[b]? = some (.cells #[y0, y1, y2, y3, y4] T) := by
  rw [heap_set_same (heap_set_same (heap_set_same (heap_set_same (heap_set_same h 0 _) 1 _) 2 _) 3 _) 4 _]; rfl
theorem store5_other {w : World} {b b' : Nat} (hne : b ≠ b') (y0 y1 y2 y3 y4 : Value) :
    (((((w.setCell ⟨b', 0, none⟩ y0).setCell ⟨b', 1, none⟩ y1).setCell ⟨b', 2, none⟩ y2).setCell ⟨b', 3, none⟩ y3).setCell ⟨b', 4, none⟩ y4).heap[b]? = w.heap[b]? := by
  rw [heap_set_other hne, heap_set_other hne, heap_set_other hne, heap_set_other hne, heap_set_other hne]
theorem store5_below {B : Nat} {a w : World} {b : Nat} (h : Below B a w) (hb : B ≤ b) (y0 y1 y2 y3 y4 : Value) :
    Below B a (((((w.setCell ⟨b, 0, none⟩ y0).setCell ⟨b, 1, none⟩ y1).setCell ⟨b, 2, none⟩ y2).setCell ⟨b, 3, none⟩ y3).setCell ⟨b, 4, none⟩ y4) :=
  ((((h.setCell hb _).setCell hb _).setCell hb _).setCell hb _).setCell hb _
end Nj
namespace Nj
theorem dec_t {p : Prop} [Decidable p] (h : p) : decide p = true := by simpa using h
theorem dec_f {p : Prop} [Decidable p] (h : ¬ p) : decide p = false := by simpa using h
end Nj

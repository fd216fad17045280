/-
  SLICES OF ELEMENTS OF SEVERAL CELLS: what it says that a value is a slice whose elements hold these cells; kept, cut, appended to. No program. No condition.
-/
import Derived.Test.YtlmkkfigmoefdaaMem
import Derived.Lib.SliceRun
set_option linter.unusedVariables false
set_option linter.unusedSimpArgs false
namespace Nj
open Go Go.RowKit

/-- v is a slice of n elements of sz cells each, which are 'cells', one behind the other -/
def Sl (sz : Nat) (w : World) (v : Value) (n : Nat) (cells : List Value) : Prop :=
  n ≤ 9223372036854775807 ∧ cells.length = n * sz ∧ ∃ a cap, v = .slice a n cap ∧ n ≤ cap ∧
    (0 < n → ∃ b o, a = some ⟨b, o, none⟩ ∧ ∀ i (h : i < cells.length), w.cell? ⟨b, o + i, none⟩ = some cells[i])

theorem sl_nil (sz : Nat) (w : World) : Sl sz w (.slice none 0 0) 0 [] := ⟨by decide, by simp, none, 0, rfl, Nat.le_refl _, fun h => by cases h⟩
/-- the address of a slice that is not empty, and that its cells lie there -/
theorem Sl.open {sz : Nat} {w : World} {p : Option Addr} {n m cap : Nat} {cells : List Value} (h : Sl sz w (.slice p n cap) m cells) (h0 : 0 < n) :
    ∃ b o, p = some ⟨b, o, none⟩ ∧ ∀ i (h : i < cells.length), w.cell? ⟨b, o + i, none⟩ = some cells[i] := by
  obtain ⟨hm, hl, a, c, e, hcap, hc⟩ := h
  simp only [Value.slice.injEq] at e
  obtain ⟨rfl, rfl, rfl⟩ := e
  exact hc h0
theorem Sl.keep {sz : Nat} {w w' : World} {v : Value} {n : Nat} {cells : List Value} (hz : 0 < sz) (h : Sl sz w v n cells) (hb : Below w.heap.size w w') : Sl sz w' v n cells := by
  obtain ⟨hm, hl, a, cap, rfl, hcap, hc⟩ := h
  refine ⟨hm, hl, a, cap, rfl, hcap, fun h0 => ?_⟩
  obtain ⟨b, o, rfl, hd⟩ := hc h0
  have hlt : b < w.heap.size := by
    have hp : 0 < cells.length := by rw [hl]; exact Nat.mul_pos h0 hz
    exact cell_lt (a := ⟨b, o + 0, none⟩) (hd 0 hp)
  refine ⟨b, o, rfl, fun i hi => ?_⟩
  rw [hb.cell (p := ⟨b, o + i, none⟩) hlt]
  exact hd i hi
theorem Sl.regrown {sz : Nat} {w : World} {v : Value} {n : Nat} {cells : List Value} (hz : 0 < sz) (h : Sl sz w v n cells) (d : Nat) (os : Array Obj) : Sl sz (Go.Sort.grow (redrawn w d) os) v n cells := h.keep hz (below_regrown w d os)

/-- a list of elements, cell by cell -/
def flat {α : Type} (enc : α → List Value) (xs : List α) : List Value := xs.flatMap enc
theorem flat_length {α : Type} {enc : α → List Value} {sz : Nat} (he : ∀ x, (enc x).length = sz) (xs : List α) : (flat enc xs).length = xs.length * sz := by
  induction xs with
  | nil => simp [flat]
  | cons x xs ih =>
    have : (flat enc (x :: xs)).length = (enc x).length + (flat enc xs).length := by simp [flat]
    rw [this, ih, he, List.length_cons, Nat.succ_mul, Nat.add_comm]
theorem flat_append {α : Type} (enc : α → List Value) (xs ys : List α) : flat enc (xs ++ ys) = flat enc xs ++ flat enc ys := by simp [flat]
theorem flat_get {α : Type} {enc : α → List Value} {sz : Nat} (he : ∀ x, (enc x).length = sz) (xs : List α) (i j : Nat) (hi : i < xs.length) (hj : j < sz) :
    (flat enc xs)[i * sz + j]? = (enc xs[i])[j]? := by
  induction xs generalizing i with
  | nil => simp at hi
  | cons x xs ih =>
    have e : flat enc (x :: xs) = enc x ++ flat enc xs := by simp [flat]
    rw [e]
    cases i with
    | zero => rw [Nat.zero_mul, Nat.zero_add, List.getElem?_append_left (by rw [he]; exact hj)]; rfl
    | succ i =>
      rw [List.getElem?_append_right (by rw [he, Nat.succ_mul]; omega), he, show (i + 1) * sz + j - sz = i * sz + j by rw [Nat.succ_mul]; omega]
      have := ih i (by simpa using hi)
      simpa using this
/-- element i's cell j, at its address -/
theorem Sl.elem {α : Type} {enc : α → List Value} {sz : Nat} (he : ∀ x, (enc x).length = sz) {w : World} {b o n cap m : Nat} {xs : List α} (h : Sl sz w (.slice (some ⟨b, o, none⟩) n cap) m (flat enc xs)) (i j : Nat) (hi : i < xs.length) (hj : j < sz) (u : Value) (hu : (enc xs[i])[j]? = some u) :
    w.cell? ⟨b, o + (i * sz + j), none⟩ = some u := by
  have hl := flat_length he xs
  obtain ⟨hm, hln, a, c, e, hcap, hc⟩ := h
  simp only [Value.slice.injEq] at e
  obtain ⟨e1, e2, e3⟩ := e
  have hn : m = xs.length := by
    rw [hl] at hln
    exact (Nat.eq_of_mul_eq_mul_right (by omega) hln).symm
  obtain ⟨b', o', e4, hd⟩ := hc (by omega)
  rw [e4] at e1
  simp only [Option.some.injEq, Addr.mk.injEq] at e1
  obtain ⟨rfl, rfl, _⟩ := e1
  have hlt : i * sz + j < (flat enc xs).length := by
    rw [hl]
    have : (i + 1) * sz ≤ xs.length * sz := Nat.mul_le_mul_right _ hi
    rw [Nat.succ_mul] at this
    omega
  rw [hd _ hlt]
  have := flat_get he xs i j hi hj
  rw [List.getElem?_eq_getElem hlt, hu] at this
  exact this

/-- a slice of the call's own, from block B on -/
def Own (E : TypeId) (sz B : Nat) (w : World) (v : Value) (n : Nat) (cells : List Value) : Prop := w.ownsRow B E sz v n cells
theorem own_nil (E : TypeId) (sz B : Nat) (w : World) : Own E sz B w (.slice none 0 0) 0 [] := World.ownsRow_nil w B E sz
/-- 'T{}': an empty slice that is not nil, in a block of its own -/
theorem own_empty (E : TypeId) (sz B : Nat) (w : World) (b : Nat) (hb : b = w.heap.size) (hB : B ≤ w.heap.size) : Own E sz B (w.alloc (.cells #[] E)) (.slice (some ⟨b, 0, none⟩) 0 0) 0 [] := by
  subst hb
  exact ⟨by simp, .inr ⟨w.heap.size, 0, #[], rfl, hB, heap_new _ _ _ rfl, Nat.le_refl _, by unfold maxLen; omega, by simp, by simp⟩⟩
/-- a slice literal, in a block of its own -/
theorem own_lit (E : TypeId) (sz B : Nat) (w : World) (b : Nat) (cs : Array Value) (n : Nat) (hb : b = w.heap.size) (hB : B ≤ w.heap.size) (hm : n ≤ 9223372036854775807) (hs : cs.size = n * sz) (l : List Value) (hl : cs.toList = l) :
    Own E sz B (w.alloc (.cells cs E)) (.slice (some ⟨b, 0, none⟩) n n) n l := by
  subst hb; subst hl
  refine ⟨by simpa using hs, .inr ⟨w.heap.size, n, cs, rfl, hB, heap_new _ _ _ rfl, Nat.le_refl _, by unfold maxLen; omega, hs, ?_⟩⟩
  rw [List.take_of_length_le (by simp [hs])]
theorem Own.sl {E : TypeId} {sz B : Nat} {w : World} {v : Value} {n : Nat} {cells : List Value} (h : Own E sz B w v n cells) : Sl sz w v n cells := by
  obtain ⟨hl, h | ⟨g, cap, cur, rfl, hg, hh, hn, hm, hc, ht⟩⟩ := h
  · obtain ⟨rfl, rfl⟩ := h
    have : cells = [] := List.length_eq_zero_iff.1 (by simpa using hl)
    subst this
    exact sl_nil sz w
  · unfold maxLen at hm
    refine ⟨by omega, hl, _, _, rfl, hn, fun h0 => ⟨g, 0, rfl, fun i hi => ?_⟩⟩
    have hle : n * sz ≤ cap * sz := Nat.mul_le_mul_right _ hn
    have hi2 : i < cur.size := by omega
    have e : cur[i] = cells[i] := by
      have h1 : (cur.toList.take (n * sz))[i]? = cells[i]? := by rw [ht]
      rw [List.getElem?_take_of_lt (by omega), List.getElem?_eq_getElem (by simpa using hi2), List.getElem?_eq_getElem hi] at h1
      simpa using h1
    simp [World.cell?, hh, Array.getElem?_eq_getElem hi2, e]
theorem Own.alloc {E : TypeId} {sz B : Nat} {w : World} {v : Value} {n : Nat} {cells : List Value} (h : Own E sz B w v n cells) (o : Obj) : Own E sz B (w.alloc o) v n cells := World.ownsRow.alloc h o
theorem Own.block {E : TypeId} {sz B : Nat} {w : World} {v : Value} {n : Nat} {cells : List Value} (h : Own E sz B w v n cells) : ∀ k, v.ownBlock = some k → B ≤ k := by
  obtain ⟨hl, h | ⟨g, cap, cur, rfl, hg, _⟩⟩ := h
  · obtain ⟨rfl, _⟩ := h; intro k hk; cases hk
  · intro k hk; simp [Value.ownBlock] at hk; omega
theorem Own.lt {E : TypeId} {sz B : Nat} {w : World} {v : Value} {n : Nat} {cells : List Value} (h : Own E sz B w v n cells) : ∀ k, v.ownBlock = some k → k < w.heap.size := by
  obtain ⟨hl, h | ⟨g, cap, cur, rfl, hg, hh, _⟩⟩ := h
  · obtain ⟨rfl, _⟩ := h; intro k hk; cases hk
  · intro k hk; simp [Value.ownBlock] at hk; have := block_lt hh; omega
/-- kept where nothing that was there turns -/
theorem Own.keep {E : TypeId} {sz B : Nat} {w w' : World} {v : Value} {n : Nat} {cells : List Value} (h : Own E sz B w v n cells) (hb : Below w.heap.size w w') : Own E sz B w' v n cells := by
  obtain ⟨hl, h | ⟨g, cap, cur, rfl, hg, hh, r⟩⟩ := h
  · exact ⟨hl, .inl h⟩
  · exact ⟨hl, .inr ⟨g, cap, cur, rfl, hg, keepb hh hb, r⟩⟩

theorem Own.mono {E : TypeId} {sz B B' : Nat} {w : World} {v : Value} {n : Nat} {cells : List Value} (h : Own E sz B w v n cells) (hb : B' ≤ B) : Own E sz B' w v n cells := by
  obtain ⟨hl, h | ⟨g, cap, cur, e, hg, r⟩⟩ := h
  · exact ⟨hl, .inl h⟩
  · exact ⟨hl, .inr ⟨g, cap, cur, e, Nat.le_trans hb hg, r⟩⟩

/-- a slice in memory from block B on that may be written -/
def Fresh (sz B : Nat) (w : World) (v : Value) (n : Nat) (cells : List Value) : Prop :=
  Sl sz w v n cells ∧ ∀ b o m c, v = .slice (some ⟨b, o, none⟩) m c → B ≤ b ∧ ∀ i, w.frozen? ⟨b, i, none⟩ = false
theorem Own.fresh {E : TypeId} {sz B : Nat} {w : World} {v : Value} {n : Nat} {cells : List Value} (h : Own E sz B w v n cells) : Fresh sz B w v n cells := by
  refine ⟨h.sl, ?_⟩
  obtain ⟨hl, h | ⟨g, cap, cur, rfl, hg, hh, r⟩⟩ := h
  · obtain ⟨rfl, _⟩ := h; intro b o m c e; cases e
  · intro b o m c e
    cases e
    exact ⟨hg, frozen_of_block hh⟩
theorem Sl.drop {sz : Nat} {w : World} {p : Option Addr} {n cap : Nat} {cells : List Value} (h : Sl sz w (.slice p n cap) n cells) (k : Nat) (hk : k ≤ n) :
    Sl sz w (.slice (if cap = k then p else p.map (·.add (k * sz))) (n - k) (cap - k)) (n - k) (cells.drop (k * sz)) := by
  obtain ⟨hm, hl, a, c, e, hcap, hc⟩ := h
  simp only [Value.slice.injEq, true_and] at e
  obtain ⟨rfl, rfl⟩ := e
  refine ⟨by omega, by rw [List.length_drop, hl, Nat.sub_mul], _, _, rfl, by omega, fun h0 => ?_⟩
  obtain ⟨b, o, rfl, hd⟩ := hc (by omega)
  rw [if_neg (by omega)]
  refine ⟨b, o + k * sz, by simp [Addr.add], fun i hi => ?_⟩
  rw [List.length_drop] at hi
  rw [show o + k * sz + i = o + (k * sz + i) by omega, hd (k * sz + i) (by omega)]
  simp
/-- a slice of the call's own, cut ahead -/
theorem Own.cut {E : TypeId} {sz B : Nat} {w : World} {p : Option Addr} {n cap : Nat} {cells : List Value} (h : Own E sz B w (.slice p n cap) n cells) (k : Nat) (hk : k < n) :
    Fresh sz B w (.slice (p.map (·.add (k * sz))) (n - k) (cap - k)) (n - k) (cells.drop (k * sz)) := by
  have hf := h.fresh
  have hs := h.sl.drop k (by omega)
  have hcap : n ≤ cap := by
    obtain ⟨_, _, a, c, e, hc, _⟩ := h.sl
    simp only [Value.slice.injEq, true_and] at e
    omega
  obtain ⟨b, o, rfl, _⟩ := h.sl.open (by omega)
  rw [if_neg (by omega)] at hs
  refine ⟨hs, fun b' o' m c e => ?_⟩
  simp only [Option.map_some, Addr.add_lit, Value.slice.injEq, Option.some.injEq, Addr.mk.injEq] at e
  obtain ⟨⟨rfl, _⟩, _⟩ := e
  exact hf.2 _ _ _ _ rfl
theorem Fresh.mono {sz B B' : Nat} {w : World} {v : Value} {n : Nat} {cells : List Value} (h : Fresh sz B w v n cells) (hb : B' ≤ B) : Fresh sz B' w v n cells :=
  ⟨h.1, fun b o m c e => ⟨Nat.le_trans hb (h.2 b o m c e).1, (h.2 b o m c e).2⟩⟩
/-- append of a whole slice behind a slice of the call's own: unguarded, or the guard is met -/
theorem wpList_append_sl {P : Program} {w : World} {ops : Array Oper} {rest : List Oper} {o : Oper} {a : Act} {Q : Exit → Act → World → Prop} (hgd : Region.wanted o (yielded ops a.tmps) = true) (s x : Operand) (t : TypeId)
    (ho : o.op = .call { callee := .builtin .append, args := #[s, x], argTypes := #[t, t] })
    (base : Nat) (e : TypeId) (z : Value) (sz bytes : Nat) (ht : P.underlying t = some (.slice e)) (hi : (P.info? e).map (fun i => (i.zero, i.size, i.bytes)) = some (some z, sz, bytes)) (hzs : z.cells.size = sz) (hsz : 0 < sz)
    (v : Value) (n : Nat) (cells : List Value) (hs : a.eval s = v) (hown : Own e sz base w v n cells)
    (ad : Addr) (m c : Nat) (hx : a.eval x = .slice (some ad) m c) (news : List Value) (hl : news.length = m * sz) (hcell : ∀ j u, news[j]? = some u → w.cell? (ad.add j) = some u) (h1 : ∀ u ∈ news, u.oneCell' = true)
    (hbytes : (n + m) * bytes ≤ 140737488355328) (h63 : n + m ≤ 9223372036854775807) (hbase : base ≤ w.heap.size)
    (h : ∀ v' w', Own e sz base w' v' (n + m) (cells ++ news) → w.grownBy w' v.ownBlock → wpList P ops Q rest (a.put o.dst v') w') : wpList P ops Q (o :: rest) a w := by
  obtain ⟨i, hi, hz, hsize, hby⟩ := info_parts hi
  refine wpList_step fun K hK => ?_
  rw [if_pos hgd]
  refine wp_append_own w s x t ho base e i _ sz bytes ht hi hz hsize hby hzs hsz v n cells hs hown ad m c news hx hl hcell h1 ?_ hbytes hbase fun v' w' h2 h3 _ => hK _ _ (h v' w' h2 h3)
  unfold maxLen; omega
/-- the same at a step of a region that draws its order (go_region_law, go_region_held3) -/
theorem step_append_sl {P : Program} {w : World} {ops : Array Oper} {o : Oper} {a : Act} {K : Act → World → Prop} {Q : Exit → Act → World → Prop} {F : Prop} (hgd : o.guard = none) (s x : Operand) (t : TypeId)
    (ho : o.op = .call { callee := .builtin .append, args := #[s, x], argTypes := #[t, t] })
    (base : Nat) (e : TypeId) (z : Value) (sz bytes : Nat) (ht : P.underlying t = some (.slice e)) (hi : (P.info? e).map (fun i => (i.zero, i.size, i.bytes)) = some (some z, sz, bytes)) (hzs : z.cells.size = sz) (hsz : 0 < sz)
    (v : Value) (n : Nat) (cells : List Value) (hs : a.eval s = v) (hown : Own e sz base w v n cells)
    (ad : Addr) (m c : Nat) (hx : a.eval x = .slice (some ad) m c) (news : List Value) (hl : news.length = m * sz) (hcell : ∀ j u, news[j]? = some u → w.cell? (ad.add j) = some u) (h1 : ∀ u ∈ news, u.oneCell' = true)
    (hbytes : (n + m) * bytes ≤ 140737488355328) (h63 : n + m ≤ 9223372036854775807) (hbase : base ≤ w.heap.size)
    (h : ∀ v' w', Own e sz base w' v' (n + m) (cells ++ news) → w.grownBy w' v.ownBlock → K (a.put o.dst v') w') :
    if Region.wanted o (yielded ops a.tmps) = true then Oper.wp P o a w K Q else F := by
  obtain ⟨i, hi, hz, hsize, hby⟩ := info_parts hi
  have hw : Region.wanted o (yielded ops a.tmps) = true := by simp [Region.wanted, hgd]
  rw [if_pos hw]
  refine wp_append_own w s x t ho base e i _ sz bytes ht hi hz hsize hby hzs hsz v n cells hs hown ad m c news hx hl hcell h1 ?_ hbytes hbase fun v' w' h2 h3 _ => h v' w' h2 h3
  unfold maxLen; omega
/-- the cells of a new block -/
theorem news_new {w : World} {b : Nat} {cs : Array Value} {T : TypeId} (hb : w.heap[b]? = some (.cells cs T)) : ∀ j u, cs.toList[j]? = some u → w.cell? ((⟨b, 0, none⟩ : Addr).add j) = some u := fun j u hu => by
  rw [Addr.add_lit, Nat.zero_add, cell_of_block hb]; simpa using hu
theorem keepn {w w' : World} {b : Nat} {o : Obj} {row : Option Nat} (h : w.heap[b]? = some o) (hg : w.grownBy w' row) (hne : ∀ k, row = some k → b ≠ k) : w'.heap[b]? = some o := by
  rw [hg.block _ (block_lt h) (fun e => hne b e.symm rfl)]; exact h
/-- an old block, behind an append that may have written one of the call's own -/
theorem keepg {w w' : World} {b : Nat} {o : Obj} {row : Option Nat} (h : w.heap[b]? = some o) (hg : w.grownBy w' row) (hne : ∀ k, row = some k → b < k) : w'.heap[b]? = some o := by
  rw [hg.block _ (block_lt h) (fun e => by have := hne b e.symm; omega)]; exact h
theorem Own.shape {E : TypeId} {sz B : Nat} {w : World} {v : Value} {n : Nat} {cells : List Value} (h : Own E sz B w v n cells) : ∃ p cap, v = .slice p n cap ∧ n ≤ cap := by
  obtain ⟨_, _, p, cap, rfl, hc, _⟩ := h.sl
  exact ⟨p, cap, rfl, hc⟩
/-- 'wpList_append_sl' with hidden facts: what was below B0 stays, and each block but the row's own -/
theorem wpList_app {P : Program} {w : World} {ops : Array Oper} {rest : List Oper} {o : Oper} {a : Act} {Q : Exit → Act → World → Prop} (hgd : Region.wanted o (yielded ops a.tmps) = true) (s x : Operand) (t : TypeId)
    (ho : o.op = .call { callee := .builtin .append, args := #[s, x], argTypes := #[t, t] })
    (base : Nat) (e : TypeId) (z : Value) (sz bytes : Nat) (ht : P.underlying t = some (.slice e)) (hi : (P.info? e).map (fun i => (i.zero, i.size, i.bytes)) = some (some z, sz, bytes)) (hzs : z.cells.size = sz) (hsz : 0 < sz)
    (B0 : Nat) (w0 : World) (HB0 : Hid (Below B0 w0 w)) (hB0 : B0 ≤ base)
    {v : Value} {n : Nat} {cells : List Value} (HO : Hid (Own e sz base w v n cells)) (hs : a.eval s = v)
    (ad : Addr) (m c : Nat) (hx : a.eval x = .slice (some ad) m c) (news : List Value) (hl : news.length = m * sz) (HC : Hid (∀ j u, news[j]? = some u → w.cell? (ad.add j) = some u)) (h1 : ∀ u ∈ news, u.oneCell' = true)
    (hbytes : (n + m) * bytes ≤ 140737488355328) (h63 : n + m ≤ 9223372036854775807) (hbase : base ≤ w.heap.size)
    (h : ∀ p' cap' w', n + m ≤ cap' → Hid (Own e sz base w' (.slice p' (n + m) cap') (n + m) (cells ++ news)) → Hid (Below B0 w0 w') → Hid (∀ b o, w.heap[b]? = some o → (∀ k, v.ownBlock = some k → b ≠ k) → w'.heap[b]? = some o) → wpList P ops Q rest (a.put o.dst (.slice p' (n + m) cap')) w') : wpList P ops Q (o :: rest) a w :=
  wpList_append_sl hgd s x t ho base e z sz bytes ht hi hzs hsz v n cells hs HO.out ad m c hx news hl HC.out h1 hbytes h63 hbase fun v' w' h2 h3 => by
    obtain ⟨p', cap', rfl, hc'⟩ := h2.shape
    exact h p' cap' w' hc' (Lib.hid h2) (Lib.hid (HB0.out.grown (by subst hs; exact h3) (Nat.le_trans hB0 hbase) (fun k hk => Nat.le_trans hB0 (HO.out.block k (by subst hs; exact hk))))) (Lib.hid fun b o hb hk => keepn hb h3 hk)
theorem step_app {P : Program} {w : World} {ops : Array Oper} {o : Oper} {a : Act} {K : Act → World → Prop} {Q : Exit → Act → World → Prop} {F : Prop} (hgd : o.guard = none) (s x : Operand) (t : TypeId)
    (ho : o.op = .call { callee := .builtin .append, args := #[s, x], argTypes := #[t, t] })
    (base : Nat) (e : TypeId) (z : Value) (sz bytes : Nat) (ht : P.underlying t = some (.slice e)) (hi : (P.info? e).map (fun i => (i.zero, i.size, i.bytes)) = some (some z, sz, bytes)) (hzs : z.cells.size = sz) (hsz : 0 < sz)
    (B0 : Nat) (w0 : World) (HB0 : Hid (Below B0 w0 w)) (hB0 : B0 ≤ base)
    {v : Value} {n : Nat} {cells : List Value} (HO : Hid (Own e sz base w v n cells)) (hs : a.eval s = v)
    (ad : Addr) (m c : Nat) (hx : a.eval x = .slice (some ad) m c) (news : List Value) (hl : news.length = m * sz) (HC : Hid (∀ j u, news[j]? = some u → w.cell? (ad.add j) = some u)) (h1 : ∀ u ∈ news, u.oneCell' = true)
    (hbytes : (n + m) * bytes ≤ 140737488355328) (h63 : n + m ≤ 9223372036854775807) (hbase : base ≤ w.heap.size)
    (h : ∀ p' cap' w', n + m ≤ cap' → Hid (Own e sz base w' (.slice p' (n + m) cap') (n + m) (cells ++ news)) → Hid (Below B0 w0 w') → Hid (∀ b o, w.heap[b]? = some o → (∀ k, v.ownBlock = some k → b ≠ k) → w'.heap[b]? = some o) → K (a.put o.dst (.slice p' (n + m) cap')) w') :
    if Region.wanted o (yielded ops a.tmps) = true then Oper.wp P o a w K Q else F :=
  step_append_sl hgd s x t ho base e z sz bytes ht hi hzs hsz v n cells hs HO.out ad m c hx news hl HC.out h1 hbytes h63 hbase fun v' w' h2 h3 => by
    obtain ⟨p', cap', rfl, hc'⟩ := h2.shape
    exact h p' cap' w' hc' (Lib.hid h2) (Lib.hid (HB0.out.grown (by subst hs; exact h3) (Nat.le_trans hB0 hbase) (fun k hk => Nat.le_trans hB0 (HO.out.block k (by subst hs; exact hk))))) (Lib.hid fun b o hb hk => keepn hb h3 hk)
/-- the cells of a slice, as append asks for them -/
theorem Sl.news {sz : Nat} {w : World} {ad : Addr} {n cap : Nat} {cells : List Value} (hz : 0 < sz) (h : Sl sz w (.slice (some ad) n cap) n cells) : ∀ j u, cells[j]? = some u → w.cell? (ad.add j) = some u := by
  intro j u hj
  have hlt : j < cells.length := by
    by_cases hh : j < cells.length
    · exact hh
    · rw [List.getElem?_eq_none (by omega)] at hj; cases hj
  have hn : 0 < n := by
    have := h.2.1
    rcases Nat.eq_zero_or_pos n with e | e
    · subst e; omega
    · exact e
  obtain ⟨b, o, e, hd⟩ := h.open hn
  cases e
  have := hd j hlt
  rw [List.getElem?_eq_getElem hlt] at hj
  simp only [Option.some.injEq] at hj
  subst hj
  rw [Addr.add_lit]
  exact this
theorem bel_drewN {B : Nat} {a w : World} (h : Below B a w) (n : Nat) : Below B a (w.drewN n) := ⟨h.os, h.tape, h.output, h.size, h.block⟩
end Nj
namespace Nj
open Go Go.RowKit
/-- a store: whatever was a cell is one, the marks stay -/
theorem set_cell (w : World) (pb po : Nat) (u : Value) (b i : Nat) (h : ∃ v, w.cell? ⟨b, i, none⟩ = some v) : ∃ v, (w.setCell ⟨pb, po, none⟩ u).cell? ⟨b, i, none⟩ = some v := by
  obtain ⟨v, h⟩ := h
  unfold World.cell? at h ⊢
  simp only [World.setCell, Array.getElem?_modify]
  by_cases e : pb = b
  · subst e
    cases hx : w.heap[pb]? with
    | none => simp [hx] at h
    | some ob =>
      cases ob with
      | cells c t fr =>
        simp only [hx] at h
        simp only [if_true, Option.map_some]
        by_cases hi : po = i
        · subst hi
          have hlt : po < c.size := by
            rcases Nat.lt_or_ge po c.size with hh | hh
            · exact hh
            · rw [Array.getElem?_eq_none hh] at h; cases h
          exact ⟨u, by simp [Array.getElem?_setIfInBounds, hlt]⟩
        · exact ⟨v, by simpa [Array.getElem?_setIfInBounds_ne hi] using h⟩
      | _ => simp [hx] at h
  · exact ⟨v, by rw [if_neg e]; exact h⟩
theorem set_frozen (w : World) (p : Addr) (u : Value) (b i : Nat) : (w.setCell p u).frozen? ⟨b, i, none⟩ = w.frozen? ⟨b, i, none⟩ := by
  unfold World.frozen?
  simp only [World.setCell, Array.getElem?_modify]
  by_cases e : p.block = b
  · subst e
    cases hx : w.heap[p.block]? with
    | none => simp
    | some ob => cases ob <;> simp
  · rw [if_neg e]
theorem Own.set {E : TypeId} {sz B : Nat} {w : World} {v : Value} {n : Nat} {cells : List Value} (h : Own E sz B w v n cells) (p : Addr) (u : Value) (hp : p.block < B) : Own E sz B (w.setCell p u) v n cells := by
  obtain ⟨hl, h | ⟨g, cap, cur, rfl, hg, hh, r⟩⟩ := h
  · exact ⟨hl, .inl h⟩
  · exact ⟨hl, .inr ⟨g, cap, cur, rfl, hg, by rw [Below.heap_setCell _ _ _ _ (by omega)]; exact hh, r⟩⟩
end Nj
namespace Nj
open Go
/-- the world becomes a variable of which some facts are known -/
theorem gen_wp {P : Program} {c : Code} {Q : Exit → Act → World → Prop} {a : Act} {W : World} (Φ : World → Prop) (h1 : Φ W) (h2 : ∀ w, Φ w → c.wp P Q a w) : c.wp P Q a W := h2 W h1
end Nj
namespace Nj
open Go Go.RowKit
theorem Own.drew {E : TypeId} {sz B : Nat} {w : World} {v : Value} {n : Nat} {cells : List Value} (h : Own E sz B w v n cells) : Own E sz B w.drew v n cells := h
theorem Own.drewN {E : TypeId} {sz B : Nat} {w : World} {v : Value} {n : Nat} {cells : List Value} (h : Own E sz B w v n cells) (k : Nat) : Own E sz B (w.drewN k) v n cells := h
theorem bel_drew {B : Nat} {a w : World} (h : Below B a w) : Below B a w.drew := h.drew
end Nj
namespace Nj
open Go Go.RowKit
/-- a store into a slice of the call's own -/
theorem Own.store {E : TypeId} {sz B : Nat} {w : World} {g o n cap : Nat} {cells : List Value} (h : Own E sz B w (.slice (some ⟨g, o, none⟩) n cap) n cells) (j : Nat) (u : Value) :
    o = 0 ∧ Own E sz B (w.setCell ⟨g, j, none⟩ u) (.slice (some ⟨g, o, none⟩) n cap) n (cells.set j u) := by
  obtain ⟨hl, h | ⟨g', cap', cur, e, hg, hh, hn, hm, hc, ht⟩⟩ := h
  · obtain ⟨h, _⟩ := h; cases h
  · cases e
    refine ⟨rfl, by simpa using hl, .inr ⟨g, cap, cur.setIfInBounds j u, rfl, hg, heap_set_same hh j u, hn, hm, by simpa using hc, ?_⟩⟩
    rw [Array.toList_setIfInBounds, ← ht, List.take_set]
theorem Own.frozen {E : TypeId} {sz B : Nat} {w : World} {g o n cap : Nat} {cells : List Value} (h : Own E sz B w (.slice (some ⟨g, o, none⟩) n cap) n cells) (i : Nat) : o = 0 ∧ B ≤ g ∧ w.frozen? ⟨g, i, none⟩ = false := by
  obtain ⟨hl, h | ⟨g', cap', cur, e, hg, hh, r⟩⟩ := h
  · obtain ⟨h, _⟩ := h; cases h
  · cases e; exact ⟨rfl, hg, frozen_of_block hh i⟩
/-- one element's cells have turned -/
theorem flat_set {α : Type} {enc : α → List Value} {sz : Nat} (he : ∀ x, (enc x).length = sz) (hz : 0 < sz) (L : List α) (k : Nat) (hk : k < L.length) (x' : α) (X : List Value) (hlen : X.length = (flat enc L).length)
    (hother : ∀ i, (i < k * sz ∨ (k + 1) * sz ≤ i) → X[i]? = (flat enc L)[i]?) (hin : ∀ j, j < sz → X[k * sz + j]? = (enc x')[j]?) : X = flat enc (L.set k x') := by
  refine List.ext_getElem? fun i => ?_
  have e : i / sz * sz + i % sz = i := Nat.div_add_mod' i sz
  have hr : i % sz < sz := Nat.mod_lt _ hz
  by_cases hi : i < L.length * sz
  · have hq : i / sz < L.length := (Nat.div_lt_iff_lt_mul hz).2 hi
    have hY := flat_get he (L.set k x') (i / sz) (i % sz) (by simpa using hq) hr
    have hX := flat_get he L (i / sz) (i % sz) hq hr
    rw [e] at hY hX
    by_cases hqk : i / sz = k
    · have h1 := hin (i % sz) hr
      rw [← hqk, e] at h1
      rw [hY, h1]
      subst hqk
      simp
    · rw [hother i (by
        rcases Nat.lt_or_gt_of_ne hqk with h | h
        · left
          have := Nat.mul_le_mul_right sz (show i / sz + 1 ≤ k from h)
          rw [Nat.succ_mul] at this; omega
        · right
          have := Nat.mul_le_mul_right sz (show k + 1 ≤ i / sz from h)
          omega), hX, hY, List.getElem_set_ne (Ne.symm hqk)]
  · rw [List.getElem?_eq_none (by rw [hlen, flat_length he]; omega), List.getElem?_eq_none (by rw [flat_length he]; simp; omega)]
end Nj
namespace Nj
open Go Go.RowKit
/-- w' is w with new blocks, and with writes to blocks of S alone -/
structure Mod (S : Nat → Prop) (w w' : World) : Prop where
  os : w'.os = w.os
  tape : w'.tape = w.tape
  output : w'.output = w.output
  size : w.heap.size ≤ w'.heap.size
  block : ∀ k, k < w.heap.size → ¬ S k → w'.heap[k]? = w.heap[k]?
section
variable {S : Nat → Prop} {w w' w'' : World}
theorem Mod.refl (S : Nat → Prop) (w : World) : Mod S w w := ⟨rfl, rfl, rfl, Nat.le_refl _, fun _ _ _ => rfl⟩
theorem Mod.trans (h : Mod S w w') (h' : Mod S w' w'') : Mod S w w'' :=
  ⟨h'.os.trans h.os, h'.tape.trans h.tape, h'.output.trans h.output, Nat.le_trans h.size h'.size, fun k hk hs => (h'.block k (Nat.lt_of_lt_of_le hk h.size) hs).trans (h.block k hk hs)⟩
theorem Mod.of_below (S : Nat → Prop) (h : Below w.heap.size w w') : Mod S w w' := ⟨h.os, h.tape, h.output, h.size, fun k hk _ => h.block k hk⟩
theorem Mod.chain (h : Mod S w w') (hb : Below w'.heap.size w' w'') : Mod S w w'' := h.trans (.of_below S hb)
theorem Mod.alloc (h : Mod S w w') (o : Obj) : Mod S w (w'.alloc o) := h.chain ((Below.refl _ _).alloc (Nat.le_refl _) o)
theorem Mod.drew (h : Mod S w w') : Mod S w w'.drew := ⟨h.os, h.tape, h.output, h.size, h.block⟩
theorem Mod.drewN (h : Mod S w w') (n : Nat) : Mod S w (w'.drewN n) := ⟨h.os, h.tape, h.output, h.size, h.block⟩
theorem Mod.set (h : Mod S w w') (p : Addr) (u : Value) (hp : S p.block ∨ w.heap.size ≤ p.block) : Mod S w (w'.setCell p u) :=
  ⟨h.os, h.tape, h.output, by simpa using h.size, fun k hk hs => (Below.heap_setCell w' p u k (by
    rintro rfl
    rcases hp with hp | hp
    · exact hs hp
    · omega)).trans (h.block k hk hs)⟩
theorem Mod.mono {S' : Nat → Prop} (h : Mod S w w') (hs : ∀ k, S k → S' k) : Mod S' w w' := ⟨h.os, h.tape, h.output, h.size, fun k hk hn => h.block k hk (fun hh => hn (hs k hh))⟩
/-- what may turn need not have been there -/
theorem Mod.shrink {S' : Nat → Prop} (h : Mod S w w') (hs : ∀ k, k < w.heap.size → S k → S' k) : Mod S' w w' := ⟨h.os, h.tape, h.output, h.size, fun k hk hn => h.block k hk (fun hh => hn (hs k hk hh))⟩
theorem Mod.below {B : Nat} {a : World} (h : Mod S w w') (hb : Below B a w) (hB : B ≤ w.heap.size) (hs : ∀ k, S k → B ≤ k) : Below B a w' :=
  ⟨h.os.trans hb.os, h.tape.trans hb.tape, h.output.trans hb.output, Nat.le_trans hb.size h.size, fun k hk => (h.block k (Nat.lt_of_lt_of_le hk hB) (fun hh => by have := hs k hh; omega)).trans (hb.block k hk)⟩
theorem Mod.keep {b : Nat} {o : Obj} (h : Mod S w w') (hb : w.heap[b]? = some o) (hs : ¬ S b) : w'.heap[b]? = some o := (h.block b (block_lt hb) hs).trans hb
theorem Own.mod {E : TypeId} {sz B : Nat} {v : Value} {n : Nat} {cells : List Value} (h : Own E sz B w v n cells) (hm : Mod S w w') (hs : ∀ k, v.ownBlock = some k → ¬ S k) : Own E sz B w' v n cells := by
  obtain ⟨hl, h | ⟨g, cap, cur, rfl, hg, hh, r⟩⟩ := h
  · exact ⟨hl, .inl h⟩
  · exact ⟨hl, .inr ⟨g, cap, cur, rfl, hg, hm.keep hh (hs g rfl), r⟩⟩
end
/-- stores into one block, one behind the other -/
theorem heap_setCells {g : Nat} {T : TypeId} : ∀ (vs : List Value) (o : Nat) (w : World) (c : Array Value), w.heap[g]? = some (.cells c T (0, 0)) →
    ∃ c', (w.setCells g o vs).heap[g]? = some (.cells c' T (0, 0)) ∧ c'.size = c.size ∧ ∀ i, i < o → c'[i]? = c[i]?
  | [], o, w, c, h => ⟨c, h, rfl, fun _ _ => rfl⟩
  | v :: vs, o, w, c, h => by
    obtain ⟨c', h1, h2, h3⟩ := heap_setCells vs (o + 1) (w.setCell ⟨g, o, none⟩ v) _ (heap_set_same h o v)
    exact ⟨c', h1, by simpa using h2, fun i hi => by rw [h3 i (by omega), Array.getElem?_setIfInBounds_ne (by omega)]⟩
theorem mod_setCells {S : Nat → Prop} {g : Nat} {w : World} : ∀ (vs : List Value) (o : Nat) (w' : World), Mod S w w' → S g → Mod S w (w'.setCells g o vs)
  | [], _, _, h, _ => h
  | v :: vs, o, w', h, hg => mod_setCells vs (o + 1) _ (h.set ⟨g, o, none⟩ v (.inl hg)) hg
/-- the end of a row is emptied and cut off -/
theorem Own.cutback {E : TypeId} {sz B : Nat} {w : World} {g n cap : Nat} {cells : List Value} (h : Own E sz B w (.slice (some ⟨g, 0, none⟩) n cap) n cells) (k : Nat) (hk : k ≤ n) (vs : List Value) :
    Own E sz B (w.setCells g (k * sz) vs) (.slice (some ⟨g, 0, none⟩) k cap) k (cells.take (k * sz)) := by
  obtain ⟨hl, h | ⟨g', cap', cur, e, hg, hh, hn, hm, hc, ht⟩⟩ := h
  · obtain ⟨h, _⟩ := h; cases h
  · cases e
    obtain ⟨c', h1, h2, h3⟩ := heap_setCells vs (k * sz) w cur hh
    have hks : k * sz ≤ n * sz := Nat.mul_le_mul_right _ hk
    refine ⟨by rw [List.length_take]; omega, .inr ⟨g, cap, c', rfl, hg, h1, by omega, hm, by omega, ?_⟩⟩
    rw [← ht, List.take_take, Nat.min_eq_left hks]
    refine List.ext_getElem? fun i => ?_
    by_cases hi : i < k * sz
    · rw [List.getElem?_take_of_lt hi, List.getElem?_take_of_lt hi]
      have := h3 i hi
      simpa using this
    · rw [List.getElem?_eq_none (by rw [List.length_take]; omega), List.getElem?_eq_none (by rw [List.length_take]; omega)]
theorem run_clear_any {P : Program} (w : World) (t e ty : TypeId) (z : Value) (zs : List Value) (ht : P.underlying t = some (.slice e)) (hv : ∀ w, (zeroValue e).run P w = .ok z w) (b o n c : Nat) (hn : 0 < n) (hz : (Builtin.zeroCells z.cells n).toList = zs)
    (h1 : ∀ v ∈ zs, v.oneCell' = true) (hc : ∀ j, j < zs.length → (w.cell? ⟨b, o + j, none⟩).isSome = true) (hf : ∀ j, j < zs.length → w.frozen? ⟨b, o + j, none⟩ = false) :
    (Builtin.clear_ #[t] ty #[.slice (some ⟨b, o, none⟩) n c]).run P w = .ok (.tuple #[]) (w.setCells b o zs) := by
  have hst := run_storeCells_cells (P := P) b o zs 0 w (by simpa using hc) (by simpa using hf) h1
  simp only [Nat.add_zero] at hst
  obtain ⟨m, rfl⟩ : ∃ m, n = m + 1 := ⟨n - 1, by omega⟩
  simp [Builtin.clear_, run_underlying ht, hv, hz, hst]
end Nj

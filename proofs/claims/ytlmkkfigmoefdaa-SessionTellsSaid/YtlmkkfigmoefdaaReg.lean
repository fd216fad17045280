/-
  A REGION THAT DRAWS ITS ORDER, BY WHAT HOLDS WHICHEVER OPERATIONS HAVE COME UP: each operation is looked at once, in whatever order they come. No program. No condition.
-/
import Derived.Test.YtlmkkfigmoefdaaSl
import Derived.Orders
import Derived.RegionTactic
set_option linter.unusedVariables false
set_option linter.unusedSimpArgs false
namespace Nj
open Go
/-- those of a list of numbers have come up -/
def UpAll (l : Array Bool) : List Nat → Prop
  | [] => True
  | i :: is => l.getD i false = true ∧ UpAll l is
theorem upAll_mk {l : Array Bool} : ∀ (is : List Nat), (∀ i ∈ is, l.getD i false = true) → UpAll l is
  | [], _ => trivial
  | i :: is, h => ⟨h i (by simp), upAll_mk is fun j hj => h j (by simp [hj])⟩
/-- what an operation waits for -/
def waits (o : Oper) : List Nat := (o.after.toList.filter (Region.binds .any)).map (·.on)
/-- each operation, once: I is kept -/
def Steps (P : Program) (ops : Array Oper) (Q : Exit → Act → World → Prop) (I : Array Bool → Act → World → Prop) : Nat → List Oper → Prop
  | _, [] => True
  | i, o :: os => (∀ l a w, l.getD i true = false → UpAll l (waits o) → I l a w →
      ∀ K : Act → World → Prop, (∀ a' w', I (l.setIfInBounds i true) a' w' → K a' w') → if Region.wanted o (yielded ops a.tmps) = true then Oper.wp P o a w K Q else K (a.put o.dst undef) w) ∧ Steps P ops Q I (i + 1) os
theorem steps_at {P : Program} {ops : Array Oper} {Q : Exit → Act → World → Prop} {I : Array Bool → Act → World → Prop} : ∀ {n : Nat} {os : List Oper}, Steps P ops Q I n os → ∀ k o, os[k]? = some o → ∀ l a w, l.getD (n + k) true = false → UpAll l (waits o) → I l a w →
      ∀ K : Act → World → Prop, (∀ a' w', I (l.setIfInBounds (n + k) true) a' w' → K a' w') → if Region.wanted o (yielded ops a.tmps) = true then Oper.wp P o a w K Q else K (a.put o.dst undef) w
  | _, [], _, k, o, h => by simp at h
  | n, o' :: os, hs, 0, o, h => by
    simp only [List.getElem?_cons_zero, Option.some.injEq] at h
    subst h
    exact hs.1
  | n, o' :: os, hs, k + 1, o, h => by
    simp only [List.getElem?_cons_succ] at h
    have := steps_at hs.2 k o h
    rw [show n + 1 + k = n + (k + 1) by omega] at this
    exact this
/-- each operation waits for such as stand ahead of it -/
def backB : Nat → List Oper → Bool
  | _, [] => true
  | i, o :: os => (waits o).all (fun j => decide (j < i)) && backB (i + 1) os
theorem backB_at : ∀ {n : Nat} {os : List Oper}, backB n os = true → ∀ k o, os[k]? = some o → ∀ j ∈ waits o, j < n + k
  | _, [], _, k, o, h => by simp at h
  | n, o' :: os, hs, 0, o, h => by
    simp only [List.getElem?_cons_zero, Option.some.injEq] at h
    subst h
    simp only [backB, Bool.and_eq_true, List.all_eq_true, decide_eq_true_eq] at hs
    exact hs.1
  | n, o' :: os, hs, k + 1, o, h => by
    simp only [List.getElem?_cons_succ] at h
    simp only [backB, Bool.and_eq_true] at hs
    have := backB_at hs.2 k o h
    intro j hj
    have := this j hj
    omega
theorem waits_of {o : Oper} {e : Edge} (h : e ∈ o.after) (hb : Region.binds .any e = true) : e.on ∈ waits o := by
  unfold waits
  exact List.mem_map.2 ⟨e, List.mem_filter.2 ⟨by simpa using h, hb⟩, rfl⟩
theorem getD_two {l : Array Bool} {i : Nat} (h : ¬ l.getD i false = true) (hi : i < l.size) : l.getD i true = false := by
  simp only [Array.getD, hi, dite_true] at *
  simpa using h
theorem all_up {os : List Oper} (hb : backB 0 os = true) {l : Array Bool} (hl : l.size = os.length) (hr : Region.ready .any os.toArray l = []) : ∀ n i, i < n → i < os.length → l.getD i false = true := by
  intro n
  induction n with
  | zero => intro i h; omega
  | succ n ih =>
    intro i h hi
    by_cases hu : l.getD i false = true
    · exact hu
    · exfalso
      have : i ∈ Region.ready .any os.toArray l := mem_ready.2 ⟨getD_two hu (by omega), os[i], by simp [hi], fun e he hbd => by
        have := backB_at hb i os[i] (by simp [hi]) e.on (waits_of he hbd)
        exact ih e.on (by omega) (by omega)⟩
      rw [hr] at this
      cases this
theorem wpAny_inv {P : Program} {os : List Oper} {Q : Exit → Act → World → Prop} {I : Array Bool → Act → World → Prop} (hb : backB 0 os = true) (hs : Steps P os.toArray Q I 0 os) (he : ∀ a w, I (Array.replicate os.length true) a w → Q .normal a w) :
    ∀ fuel (l : Array Bool) a w, l.size = os.length → l.toList.count false ≤ fuel → I l a w → wpAny P .any os.toArray Q fuel l a w := by
  have hend : ∀ (l : Array Bool) a w, l.size = os.length → Region.ready .any os.toArray l = [] → I l a w → Q .normal a w := by
    intro l a w hl hr hi
    have : l = Array.replicate os.length true := by
      apply Array.ext
      · simp [hl]
      · intro i h1 h2
        have := all_up hb hl hr (i + 1) i (by omega) (by omega)
        simp only [Array.getD, h1, dite_true] at this
        simpa using this
    rw [this] at hi
    exact he _ _ hi
  intro fuel
  induction fuel with
  | zero =>
    intro l a w hl hc hi
    have hr : Region.ready .any os.toArray l = [] := by
      rw [List.eq_nil_iff_forall_not_mem]
      intro j hj
      have h0 := (mem_ready.1 hj).1
      by_cases hjl : j < l.size
      · simp only [Array.getD, hjl, dite_true] at h0
        have : false ∈ l.toList := by rw [← show l[j] = false from h0]; simp
        have := List.count_pos_iff.2 this
        omega
      · simp [Array.getD, hjl] at h0
    exact ⟨hr, hend l a w hl hr hi⟩
  | succ fuel ih =>
    intro l a w hl hc hi
    refine ⟨fun hr => hend l a w hl hr hi, fun i hir => ?_⟩
    obtain ⟨h0, o, ho, hall⟩ := mem_ready.1 hir
    have hw : UpAll l (waits o) := upAll_mk _ fun j hj => by
      unfold waits at hj
      obtain ⟨e, he', rfl⟩ := List.mem_map.1 hj
      obtain ⟨he1, he2⟩ := List.mem_filter.1 he'
      exact hall e (by simpa using he1) he2
    have hjl : i < l.size := by
      rcases Nat.lt_or_ge i l.size with h | h
      · exact h
      · simp [Array.getD, Nat.not_lt.2 h] at h0
    refine wpOp_mono (K := fun a' w' => I (l.setIfInBounds i true) a' w') (fun a' w' hi' => ih _ a' w' (by simpa using hl) ?_ hi') (wpOp_step ho ?_)
    · simp only [Array.getD, hjl, dite_true] at h0
      have h0' : l.toList[i]'(by simpa using hjl) = false := by simpa using h0
      rw [Array.toList_setIfInBounds, List.count_set (by simpa using hjl), h0']
      have : false ∈ l.toList := by rw [← h0']; simp
      have := List.count_pos_iff.2 this
      simp only [beq_self_eq_true, if_true, beq_iff_eq, Bool.true_eq_false, if_false, Nat.add_zero]
      omega
    · have := steps_at hs i o (by simpa using ho) l a w (by simpa using h0) hw hi
      simpa using this
/-- THE BEGINNING -/
theorem wp_region_inv {P : Program} {id : Nat} {os : List Oper} {Q : Exit → Act → World → Prop} {a : Act} {w : World} (I : Array Bool → Act → World → Prop) (hm : P.follows .mixedOrders = true) (hb : backB 0 os = true)
    (h0 : I (Array.replicate os.length false) a w.drew) (he : ∀ a w, I (Array.replicate os.length true) a w → Q .normal a w) (hs : Steps P os.toArray Q I 0 os) : (Code.region id os.toArray true).wp P Q a w := by
  refine wp_region_any hm (wpAny_inv hb hs he _ _ _ _ (by simp) ?_ ?_)
  · simp only [Array.toList_replicate, List.count_replicate_self, List.size_toArray]; omega
  · simpa using h0
end Nj
namespace Nj
open Go Go.RowKit
/-- block g alone has turned -/
def Only (g : Nat) (w w' : World) : Prop := w'.heap.size = w.heap.size ∧ ∀ k, k ≠ g → w'.heap[k]? = w.heap[k]?
theorem Only.refl (g : Nat) (w : World) : Only g w w := ⟨rfl, fun _ _ => rfl⟩
theorem Only.set {g : Nat} {w w' : World} (h : Only g w w') (o : Nat) (v : Value) : Only g w (w'.setCell ⟨g, o, none⟩ v) := ⟨by rw [← h.1]; simp [World.setCell], fun k hk => by rw [heap_set_other hk]; exact h.2 k hk⟩
theorem Sl.only {sz : Nat} {w w' : World} {p : Option Addr} {m cap n : Nat} {cells : List Value} {g : Nat} (h : Sl sz w (.slice p m cap) n cells) (ho : Only g w w') (hne : ∀ b o, p = some ⟨b, o, none⟩ → b ≠ g) : Sl sz w' (.slice p m cap) n cells := by
  obtain ⟨hm, hl, a, c, e, hcap, hd⟩ := h
  cases e
  refine ⟨hm, hl, _, _, rfl, hcap, fun h0 => ?_⟩
  obtain ⟨b, o, rfl, hc⟩ := hd h0
  refine ⟨b, o, rfl, fun i hi => ?_⟩
  rw [← hc i hi]
  simp only [World.cell?]
  rw [ho.2 b (hne b o rfl)]
/-- a slice, of which FP is said, in a block between H and the heap's end -/
def PV (FP : World → Option Addr → Nat → Prop) (H : Nat) (p : Option Addr) (cap : Nat) (w : World) : Prop := FP w p cap ∧ ∀ b o, p = some ⟨b, o, none⟩ → H < b ∧ b < w.heap.size
/-- a box g of the region's own, stored into or not; the slice p does not lie there -/
def Bx (H g : Nat) (zero cells : Obj) (st b2 : Bool) (p : Option Addr) (w : World) : Prop :=
  H < g ∧ g < w.heap.size ∧ (st = false → w.heap[g]? = some zero) ∧ (st = true → b2 = true ∧ w.heap[g]? = some cells) ∧ (b2 = true → ∀ b o, p = some ⟨b, o, none⟩ → b ≠ g)
section
variable {FP : World → Option Addr → Nat → Prop} {H g g' : Nat} {zero cells cells' : Obj} {st b2 : Bool} {p p' : Option Addr} {cap : Nat} {w w' : World}
theorem PV.keep (hF : FP w p cap → Below w.heap.size w w' → FP w' p cap) (h : PV FP H p cap w) (hb : Below w.heap.size w w') : PV FP H p cap w' :=
  ⟨hF h.1 hb, fun b o e => ⟨(h.2 b o e).1, Nat.lt_of_lt_of_le (h.2 b o e).2 hb.size⟩⟩
theorem PV.only (hF : FP w p cap → Only g w w' → (∀ b o, p = some ⟨b, o, none⟩ → b ≠ g) → FP w' p cap) (h : PV FP H p cap w) (ho : Only g w w') (hne : ∀ b o, p = some ⟨b, o, none⟩ → b ≠ g) : PV FP H p cap w' :=
  ⟨hF h.1 ho hne, fun b o e => ⟨(h.2 b o e).1, by rw [ho.1]; exact (h.2 b o e).2⟩⟩
theorem Bx.keep (h : Bx H g zero cells st b2 p w) (hb : Below w.heap.size w w') : Bx H g zero cells st b2 p w' := by
  obtain ⟨h1, h2, h3, h4, h5⟩ := h
  exact ⟨h1, Nat.lt_of_lt_of_le h2 hb.size, fun e => keepb (h3 e) hb, fun e => ⟨(h4 e).1, keepb (h4 e).2 hb⟩, h5⟩
theorem Bx.only (h : Bx H g zero cells st b2 p w) (ho : Only g' w w') (hne : g ≠ g') : Bx H g zero cells st b2 p w' := by
  obtain ⟨h1, h2, h3, h4, h5⟩ := h
  exact ⟨h1, by rw [ho.1]; exact h2, fun e => by rw [ho.2 g hne]; exact h3 e, fun e => ⟨(h4 e).1, by rw [ho.2 g hne]; exact (h4 e).2⟩, h5⟩
/-- the slice is born -/
theorem Bx.born (h : Bx H g zero cells st false p w) (hb : Below w.heap.size w w') (hp : ∀ b o, p' = some ⟨b, o, none⟩ → w.heap.size ≤ b) : Bx H g zero cells' st true p' w' := by
  obtain ⟨h1, h2, h3, h4, h5⟩ := h
  exact ⟨h1, Nat.lt_of_lt_of_le h2 hb.size, fun e => keepb (h3 e) hb, (fun e => by have := (h4 e).1; cases this), fun _ b o e => by have := hp b o e; omega⟩
/-- the box is born -/
theorem Bx.new (hH : H < w.heap.size) (hp : b2 = true → ∀ b o, p = some ⟨b, o, none⟩ → b < w.heap.size) : Bx H w.heap.size zero cells false b2 p (w.alloc zero) :=
  ⟨hH, by simp, fun _ => heap_new _ _ _ rfl, (fun e => by cases e), fun e b o hb => by have := hp e b o hb; omega⟩
/-- the box is filled -/
theorem Bx.fill (h : Bx H g zero cells st true p w) (ho : Only g w w') (hc : w'.heap[g]? = some cells) : Bx H g zero cells true true p w' := by
  obtain ⟨h1, h2, h3, h4, h5⟩ := h
  exact ⟨h1, by rw [ho.1]; exact h2, (fun e => by cases e), fun _ => ⟨rfl, hc⟩, h5⟩
end
/-- an own slice, over an append behind another one -/
theorem Own.kept {E : TypeId} {sz B : Nat} {w w' : World} {v : Value} {n : Nat} {cells : List Value} {row : Option Nat} (h : Own E sz B w v n cells) (hk : ∀ b o, w.heap[b]? = some o → (∀ k, row = some k → b ≠ k) → w'.heap[b]? = some o)
    (hne : ∀ g, v.ownBlock = some g → ∀ k, row = some k → g ≠ k) : Own E sz B w' v n cells := by
  obtain ⟨hl, h | ⟨g, cap, cur, rfl, hg, hh, r⟩⟩ := h
  · exact ⟨hl, .inl h⟩
  · exact ⟨hl, .inr ⟨g, cap, cur, rfl, hg, hk g _ hh (hne g rfl), r⟩⟩
theorem below_alloc (w : World) (o : Obj) : Below w.heap.size w (w.alloc o) := (Below.refl _ _).alloc (Nat.le_refl _) o
theorem reg_of {P : Program} {f : FuncId} {args : Array Value} {w : World} {d : Nat} {os : Array Obj} {v : Value}
    (h : Calls P f args (Go.Sort.grow (redrawn w d) os) fun e w' => e = .returned v ∧ Hid (Below (Go.Sort.grow (redrawn w d) os).heap.size (Go.Sort.grow (redrawn w d) os) w')) : Calls P f args (Go.Sort.grow (redrawn w d) os) fun e w'' => e = .returned v ∧ ∃ p : Regrown, w'' = Go.Sort.grow (redrawn w p.d) p.os :=
  Calls.regrown_of (h.mono fun _ _ h => ⟨h.1, h.2.out⟩)
end Nj

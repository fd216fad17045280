/-
  READING ARGUMENTS: a struct's cells, whatever is nested in it; a slice of whatever elements. No program. No condition.
-/
import Derived.Test.YtlmkkfigmoefdaaSl
import Derived.Deep.Slices
import Derived.ChangeArms
set_option linter.unusedVariables false
set_option linter.unusedSimpArgs false
namespace Nj
open Go Go.RowKit Go.ChangeShapes Go.WideShapes Go.Deep

theorem mapM_each {α β : Type} {f : α → Option β} : ∀ {l : List α} {r : List β}, l.mapM f = some r → ∀ x ∈ l, ∃ y, f x = some y
  | [], _, _, x, hx => by cases hx
  | a :: l, r, h, x, hx => by
    simp only [List.mapM_cons, Option.pure_def, Option.bind_eq_bind] at h
    rw [Option.bind_eq_some_iff] at h
    obtain ⟨y, hy, h⟩ := h
    rw [Option.bind_eq_some_iff] at h
    obtain ⟨ys, hys, _⟩ := h
    rcases List.mem_cons.1 hx with rfl | hx
    · exact ⟨y, hy⟩
    · exact mapM_each hys x hx

/-- the types of a value's cells, one by one: structs and arrays taken apart -/
def leaves (P : Program) : Nat → TypeId → Option (List TypeId)
  | 0, _ => none
  | k + 1, t => match P.underlying t with
    | some (.struct fs) =>
      (fs.toList.foldl (fun acc f => acc.bind fun x => if f.offset = x.1 then (leaves P k f.type).map fun l => (x.1 + P.cellsOf f.type, x.2 ++ l) else none) (some (0, []))).bind fun x => if x.1 = P.cellsOf t then some x.2 else none
    | some (.array n e) => if n * P.cellsOf e = P.cellsOf t then (leaves P k e).map fun l => (List.replicate n l).flatten else none
    | _ => some [t]

section
variable {H : Type} {enc : TypeId × Value → H} {P : Program} {w : World} {base : Nat} {spare : Nat → Bool} {held : Bool}
/-- one cell, of a type -/
def Leaf (enc : TypeId × Value → H) (P : Program) (w : World) (base : Nat) (spare : Nat → Bool) (held : Bool) (t : TypeId) (c : Value) : Prop := ∃ n y, DataW.trod enc P w base spare held n t [c] = some y
/-- cells, each of its type -/
def Leaves (enc : TypeId × Value → H) (P : Program) (w : World) (base : Nat) (spare : Nat → Bool) (held : Bool) : List TypeId → List Value → Prop
  | [], [] => True
  | t :: ts, c :: cs => Leaf enc P w base spare held t c ∧ Leaves enc P w base spare held ts cs
  | _, _ => False
theorem Leaves.append : ∀ {ts ts' : List TypeId} {cs cs' : List Value}, Leaves enc P w base spare held ts cs → Leaves enc P w base spare held ts' cs' → Leaves enc P w base spare held (ts ++ ts') (cs ++ cs')
  | [], _, [], _, _, h => h
  | _ :: _, _, _ :: _, _, ⟨h1, h2⟩, h => ⟨h1, h2.append h⟩
  | [], _, _ :: _, _, h, _ => h.elim
  | _ :: _, _, [], _, h, _ => h.elim
theorem leaf_single {t : TypeId} {n : Nat} {cs : List Value} {x : DataW H × List MemPlace} (hs : ∀ fs, P.underlying t ≠ some (.struct fs)) (ha : ∀ m e, P.underlying t ≠ some (.array m e)) (h : DataW.trod enc P w base spare held n t cs = some x) :
    Leaves enc P w base spare held [t] cs := by
  have hlen : ∃ c, cs = [c] := by
    cases n with
    | zero => simp [DataW.trod] at h
    | succ n =>
      unfold DataW.trod at h
      split at h
      all_goals first
        | exact ⟨_, rfl⟩
        | (rename_i e; exact absurd e (hs _))
        | (rename_i e; exact absurd e (ha _ _))
        | (cases h; done)
  obtain ⟨c, rfl⟩ := hlen
  exact ⟨⟨n, x, h⟩, trivial⟩
theorem leaves_fields {k : Nat} (ih : ∀ t n cs x ts, DataW.trod enc P w base spare held n t cs = some x → leaves P k t = some ts → Leaves enc P w base spare held ts cs)
    {n : Nat} {cs : List Value} : ∀ (fs : List Field) (off : Nat) (l : List TypeId) (r : Nat × List TypeId),
    (∀ f ∈ fs, ∃ x, DataW.trod enc P w base spare held n f.type ((cs.drop f.offset).take (P.cellsOf f.type)) = some x) →
    fs.foldl (fun acc f => acc.bind fun x => if f.offset = x.1 then (leaves P k f.type).map fun l => (x.1 + P.cellsOf f.type, x.2 ++ l) else none) (some (off, l)) = some r →
    Leaves enc P w base spare held l (cs.take off) → Leaves enc P w base spare held r.2 (cs.take r.1)
  | [], off, l, r, _, h, hl => by
    simp only [List.foldl_nil, Option.some.injEq] at h
    subst h; exact hl
  | f :: fs, off, l, r, hf, h, hl => by
    rw [List.foldl_cons] at h
    simp only [Option.bind_some] at h
    by_cases ho : f.offset = off
    · rw [if_pos ho] at h
      cases hk : leaves P k f.type with
      | none =>
        rw [hk] at h
        have : ∀ gs : List Field, gs.foldl (fun acc f => acc.bind fun x => if f.offset = x.1 then (leaves P k f.type).map fun l => (x.1 + P.cellsOf f.type, x.2 ++ l) else none) (none : Option (Nat × List TypeId)) = none := by
          intro gs; induction gs with
          | nil => rfl
          | cons g gs ih => rw [List.foldl_cons]; exact ih
        rw [Option.map_none, this] at h
        cases h
      | some lf =>
        rw [hk] at h
        simp only [Option.map_some] at h
        obtain ⟨x, hx⟩ := hf f (by simp)
        have h1 := ih f.type n _ x lf hx hk
        rw [ho] at h1
        have h2 := hl.append h1
        rw [← List.take_add] at h2
        exact leaves_fields ih fs _ _ r (fun g hg => hf g (by simp [hg])) h h2
    · rw [if_neg ho] at h
      have : ∀ gs : List Field, gs.foldl (fun acc f => acc.bind fun x => if f.offset = x.1 then (leaves P k f.type).map fun l => (x.1 + P.cellsOf f.type, x.2 ++ l) else none) (none : Option (Nat × List TypeId)) = none := by
        intro gs; induction gs with
        | nil => rfl
        | cons g gs ih => rw [List.foldl_cons]; exact ih
      rw [this] at h
      cases h
theorem leaves_rep {e : TypeId} {lf : List TypeId} {n C : Nat} {cs : List Value} (h : ∀ i, i < n → Leaves enc P w base spare held lf ((cs.drop (i * C)).take C)) :
    ∀ m, m ≤ n → Leaves enc P w base spare held (List.replicate m lf).flatten (cs.take (m * C))
  | 0, _ => by simp [Leaves]
  | m + 1, hm => by
    have ih := leaves_rep (e := e) h m (by omega)
    have h1 := ih.append (h m (by omega))
    rw [← List.take_add, ← Nat.succ_mul] at h1
    rw [List.replicate_succ', List.flatten_append]
    simpa using h1
/-- whatever reads as a value of type t: its cells, each of its type -/
theorem trod_leaves (k : Nat) : ∀ (t : TypeId) (n : Nat) (cs : List Value) (x : DataW H × List MemPlace) (ts : List TypeId), DataW.trod enc P w base spare held n t cs = some x → leaves P k t = some ts → Leaves enc P w base spare held ts cs := by
  induction k with
  | zero => intro t n cs x ts _ h; simp [leaves] at h
  | succ k ih =>
    intro t n cs x ts h hl
    unfold leaves at hl
    split at hl
    · rename_i fs hfs
      obtain ⟨xs, n', hn, hx, hcl, hxl, hf⟩ := DataW.trod_struct hfs h
      rw [Option.bind_eq_some_iff] at hl
      obtain ⟨r, hr, hr2⟩ := hl
      split at hr2
      · rename_i hr1
        simp only [Option.some.injEq] at hr2
        subst hr2
        have := leaves_fields ih fs.toList 0 [] r (fun f hfm => by
          obtain ⟨i, hi, rfl⟩ := List.getElem_of_mem hfm
          have := hf i fs[i] (by simp)
          have hi' : i < fs.size := by simpa using hi
          rw [List.getElem?_eq_getElem (by omega)] at this
          exact ⟨_, by simpa using this⟩) hr (by simp [Leaves])
        rw [hr1, ← hcl, List.take_length] at this
        exact this
      · cases hr2
    · rename_i m e hme
      split at hl
      · rename_i hC
        rw [Option.map_eq_some_iff] at hl
        obtain ⟨lf, hlf, rfl⟩ := hl
        cases n with
        | zero => simp [DataW.trod] at h
        | succ n =>
          unfold DataW.trod at h
          rw [hme] at h
          simp only at h
          split at h
          · rename_i hcl
            rw [Option.map_eq_some_iff] at h
            obtain ⟨xs, hxs, _⟩ := h
            have hall : ∀ i, i < m → ∃ y, DataW.trod enc P w base spare held n e ((cs.drop (i * P.cellsOf e)).take (P.cellsOf e)) = some y := by
              intro i hi
              exact mapM_each hxs i (by simpa using hi)
            have := leaves_rep (e := e) (lf := lf) (n := m) (C := P.cellsOf e) (cs := cs) (fun i hi => by obtain ⟨y, hy⟩ := hall i hi; exact ih e n _ y lf hy hlf) m (Nat.le_refl _)
            rw [hC, ← hcl, List.take_length] at this
            exact this
          · cases h
      · cases hl
    · rename_i hs ha
      simp only [Option.some.injEq] at hl
      subst hl
      exact leaf_single (fun fs e => hs fs e) (fun m e' e => ha m e' e) h
/-- a slice, whatever its elements: each element's cells are those of an 'a', of which Q holds -/
theorem open_sl {α : Type} {enc' : α → List Value} {sz : Nat} {Q : α → Prop} {t e : TypeId} {fuel : Nat} {p : Option Addr} {len cap : Nat} {x : DataW H × List MemPlace} (ht : P.underlying t = some (.slice e)) (hC : P.cellsOf e = sz) (hz : 0 < sz)
    (hlen : ∀ a, (enc' a).length = sz) (hE : ∀ n cs y, DataW.trod enc P w base spare held n e cs = some y → ∃ a, cs = enc' a ∧ Q a) (h : DataW.trod enc P w base spare held fuel t [.slice p len cap] = some x) :
    ∃ l : List α, l.length = len ∧ Sl sz w (.slice p len cap) len (flat enc' l) ∧ ∀ a ∈ l, Q a := by
  rcases open_slice ht h with ⟨hcs, _⟩ | ⟨a, len', cap', m, n, D, Pl, hcs, hb, hl, hm, hmm, _, hi⟩
  · simp at hcs
    obtain ⟨rfl, rfl, rfl⟩ := hcs
    exact ⟨[], rfl, sl_nil sz w, by simp⟩
  · simp at hcs
    obtain ⟨rfl, rfl, rfl⟩ := hcs
    have hlm : len ≤ m := by rw [hmm]; split <;> omega
    have hall : ∀ i, i < len → ∃ b, Q b ∧ w.cells? base (a.add (i * sz)) sz = some (enc' b) := by
      intro i hil
      obtain ⟨cs', hc, ht'⟩ := hi i (by omega)
      obtain ⟨b, rfl, hq⟩ := hE _ _ _ ht'
      exact ⟨b, hq, by rw [hC] at hc; exact hc⟩
    have hls : ∀ k, k ≤ len → ∃ l : List α, l.length = k ∧ (∀ b ∈ l, Q b) ∧ ∀ i (hi : i < l.length), w.cells? base (a.add (i * sz)) sz = some (enc' l[i]) := by
      intro k
      induction k with
      | zero => exact fun _ => ⟨[], rfl, by simp, fun i hi => by cases hi⟩
      | succ k ih =>
        intro hk
        obtain ⟨l, h1, h2, h3⟩ := ih (by omega)
        obtain ⟨b, hq, hc⟩ := hall k (by omega)
        refine ⟨l ++ [b], by simp [h1], ?_, ?_⟩
        · intro c hc'
          rcases List.mem_append.1 hc' with h | h
          · exact h2 c h
          · simp at h; subst h; exact hq
        · intro i hi
          by_cases hik : i < l.length
          · rw [List.getElem_append_left hik]; exact h3 i hik
          · have : i = k := by simp at hi; omega
            subst this
            rw [List.getElem_append_right (by omega)]
            simpa using hc
    obtain ⟨l, h1, h2, h3⟩ := hls len (Nat.le_refl _)
    refine ⟨l, h1, ⟨by unfold maxLen at hm; omega, by rw [flat_length hlen, h1], some a, cap, rfl, hl, fun h0 => ?_⟩, h2⟩
    obtain ⟨b, o, f⟩ := a
    have hat : ∀ i (hi : i < l.length) j, j < sz → w.cell? (((⟨b, o, f⟩ : Addr).add (i * sz)).add j) = (enc' l[i])[j]? := fun i hi j hj => (World.cells?_some (h3 i hi)).2.2 j hj
    have hf : f = none := by
      have h00 := hat 0 (by omega) 0 hz
      rw [List.getElem?_eq_getElem (by rw [hlen]; exact hz)] at h00
      simpa [Addr.add] using World.cell?_spot h00
    subst hf
    refine ⟨b, o, rfl, fun i hi => ?_⟩
    rw [flat_length hlen] at hi
    have hq : i / sz < l.length := (Nat.div_lt_iff_lt_mul hz).2 hi
    have hr : i % sz < sz := Nat.mod_lt _ hz
    have h1' := hat (i / sz) hq (i % sz) hr
    have h2' := flat_get hlen l (i / sz) (i % sz) hq hr
    have e : i / sz * sz + i % sz = i := Nat.div_add_mod' i sz
    rw [Addr.add_lit, Addr.add_lit, Nat.add_assoc, e] at h1'
    rw [e] at h2'
    rw [h1', ← h2']
    exact List.getElem?_eq_getElem _
end
end Nj

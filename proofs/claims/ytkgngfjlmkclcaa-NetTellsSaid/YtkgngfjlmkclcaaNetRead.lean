/-
  READING datagrams and calls that come in, each with its bytes; what is read is within the reach. No condition.
-/
import Derived.Test.YtkgngfjlmkclcaaRead
import Derived.Test.YtkgngfjlmkclcaaNetWrap
import Derived.SizedLaws
set_option linter.unusedVariables false
set_option linter.unusedSimpArgs false
namespace Nj
open Go Go.RowKit Go.ChangeShapes Go.WideShapes Go.Deep
section
variable {H : Type} {enc : TypeId × Value → H} {P : Program} {w : World} {base : Nat} {spare : Nat → Bool} {held : Bool}
/-- whatever was read is within the reach -/
def Fit (P : Program) (t : TypeId) (d : DataW H) : Prop := ∀ n ∈ d.weights P t, n ≤ reachBytes
theorem weights_all {e : TypeId} : ∀ {l : List (DataW H)} {d : DataW H}, d ∈ l → ∀ n ∈ d.weights P e, n ∈ DataW.weightsAll P e l
  | [], _, h, _, _ => by cases h
  | x :: l, d, h, n, hn => by
    simp only [DataW.weightsAll, List.mem_append]
    rcases List.mem_cons.1 h with rfl | h
    · exact .inl hn
    · exact .inr (weights_all h n hn)
theorem Fit.elem {t e : TypeId} {els sp : List (DataW H)} (h : Fit P t (.slice els sp)) (hu : P.underlying t = some (.slice e)) {d : DataW H} (hd : d ∈ els) : Fit P e d := fun n hn => h n (by simp only [DataW.weights, hu, List.mem_cons, List.mem_append]; exact .inr (.inl (weights_all hd n hn)))
theorem Fit.len {t e : TypeId} {els sp : List (DataW H)} (h : Fit P t (.slice els sp)) (hu : P.underlying t = some (.slice e)) : (els.length + sp.length) * P.bytesOf e ≤ reachBytes := h _ (by simp [DataW.weights, hu])
theorem Fit.field {t : TypeId} {fs : Array Field} {parts : List (DataW H)} (h : Fit P t (.agg parts)) (hu : P.underlying t = some (.struct fs)) {i : Nat} {f : Field} {d : DataW H} (hf : fs[i]? = some f) (hd : parts[i]? = some d) : Fit P f.type d := fun n hn =>
  h n (by simp only [DataW.weights, hu]; exact DataW.weights_mem_each (j := i) (by simp [hf]) hd n hn)
/-- a slice, whatever its elements, each within the reach -/
theorem open_slF {α : Type} {enc' : α → List Value} {sz : Nat} {Q : α → Prop} {t e : TypeId} {fuel : Nat} {p : Option Addr} {len cap : Nat} {x : DataW H × List MemPlace} (ht : P.underlying t = some (.slice e)) (hC : P.cellsOf e = sz) (hz : 0 < sz)
    (hlen : ∀ a, (enc' a).length = sz) (hF : Fit P t x.1) (hE : ∀ n cs y, DataW.trod enc P w base spare held n e cs = some y → Fit P e y.1 → ∃ a, cs = enc' a ∧ Q a) (h : DataW.trod enc P w base spare held fuel t [.slice p len cap] = some x) :
    ∃ l : List α, l.length = len ∧ Sl sz w (.slice p len cap) len (flat enc' l) ∧ (∀ a ∈ l, Q a) ∧ len * P.bytesOf e ≤ reachBytes := by
  rcases open_slice ht h with ⟨hcs, _⟩ | ⟨a, len', cap', m, n, D, Pl, hcs, hb, hl, hm, hmm, hx, hi⟩
  · simp at hcs
    obtain ⟨rfl, rfl, rfl⟩ := hcs
    exact ⟨[], rfl, sl_nil sz w, by simp, by simp⟩
  · simp at hcs
    obtain ⟨rfl, rfl, rfl⟩ := hcs
    have hlm : len ≤ m := by rw [hmm]; split <;> omega
    subst hx
    have hbytes : len * P.bytesOf e ≤ reachBytes := by
      have := hF.len ht
      simp only [List.length_map, List.length_range] at this
      exact Nat.le_trans (Nat.mul_le_mul_right _ (by omega)) this
    have hall : ∀ i, i < len → ∃ b, Q b ∧ w.cells? base (a.add (i * sz)) sz = some (enc' b) := by
      intro i hil
      obtain ⟨cs', hc, ht'⟩ := hi i (by omega)
      obtain ⟨b, rfl, hq⟩ := hE _ _ _ ht' (hF.elem ht (List.mem_map_of_mem (List.mem_range.2 hil)))
      exact ⟨b, hq, by rw [hC] at hc; exact hc⟩
    have hls : ∀ k, k ≤ len → ∃ l : List α, l.length = k ∧ (∀ b ∈ l, Q b) ∧ ∀ i (hi : i < l.length), w.cells? base (a.add (i * sz)) sz = some (enc' l[i]) := by
      intro k
      induction k with
      | zero => exact fun _ => ⟨[], rfl, by simp, fun i hi => by cases hi⟩
      | succ k ih =>
        intro hk
        obtain ⟨l, h1, h2, h3⟩ := ih (by omega)
        obtain ⟨b, hq, hc⟩ := hall k (by omega)
        refine ⟨l ++ [b], by simp [h1], ?_, ?_⟩
        · intro c hc'
          rcases List.mem_append.1 hc' with h | h
          · exact h2 c h
          · simp at h; subst h; exact hq
        · intro i hi
          by_cases hik : i < l.length
          · rw [List.getElem_append_left hik]; exact h3 i hik
          · have : i = k := by simp at hi; omega
            subst this
            rw [List.getElem_append_right (by omega)]
            simpa using hc
    obtain ⟨l, h1, h2, h3⟩ := hls len (Nat.le_refl _)
    refine ⟨l, h1, ⟨by unfold maxLen at hm; omega, by rw [flat_length hlen, h1], some a, cap, rfl, hl, fun h0 => ?_⟩, h2, hbytes⟩
    obtain ⟨b, o, f⟩ := a
    have hat : ∀ i (hi : i < l.length) j, j < sz → w.cell? (((⟨b, o, f⟩ : Addr).add (i * sz)).add j) = (enc' l[i])[j]? := fun i hi j hj => (World.cells?_some (h3 i hi)).2.2 j hj
    have hf : f = none := by
      have h00 := hat 0 (by omega) 0 hz
      rw [List.getElem?_eq_getElem (by rw [hlen]; exact hz)] at h00
      simpa [Addr.add] using World.cell?_spot h00
    subst hf
    refine ⟨b, o, rfl, fun i hi => ?_⟩
    rw [flat_length hlen] at hi
    have hq : i / sz < l.length := (Nat.div_lt_iff_lt_mul hz).2 hi
    have hr : i % sz < sz := Nat.mod_lt _ hz
    have h1' := hat (i / sz) hq (i % sz) hr
    have h2' := flat_get hlen l (i / sz) (i % sz) hq hr
    have e : i / sz * sz + i % sz = i := Nat.div_add_mod' i sz
    rw [Addr.add_lit, Addr.add_lit, Nat.add_assoc, e] at h1'
    rw [e] at h2'
    rw [h1', ← h2']
    exact List.getElem?_eq_getElem _
/-- a struct's field: its cells, as they read -/
theorem field_any {t : TypeId} {fs : Array Field} {fuel : Nat} {cs : List Value} {x : DataW H × List MemPlace} (ht : P.underlying t = some (.struct fs)) (h : DataW.trod enc P w base spare held fuel t cs = some x) (hF : Fit P t x.1)
    (i : Nat) (o : Nat) (ft : TypeId) (hf : (fs[i]?).map (fun f => (f.offset, f.type)) = some (o, ft)) (hc : P.cellsOf ft = 1) :
    ∃ n y, DataW.trod enc P w base spare held n ft ((cs.drop o).take 1) = some y ∧ Fit P ft y.1 := by
  obtain ⟨xs, n, rfl, hx, hl, hlen, hg⟩ := DataW.trod_struct ht h
  obtain ⟨f, hfi, hfe⟩ := Option.map_eq_some_iff.1 hf
  simp only [Prod.mk.injEq] at hfe
  obtain ⟨rfl, rfl⟩ := hfe
  have hg' := hg i f hfi
  rw [hc] at hg'
  cases hxi : xs[i]? with
  | none =>
    have h1 := List.getElem?_eq_none_iff.1 hxi
    have h2 := (Array.getElem?_eq_some_iff.1 hfi).1
    omega
  | some y =>
    rw [hxi] at hg'
    subst hx
    exact ⟨n, y, hg', hF.field ht hfi (by rw [List.getElem?_map, hxi]; rfl)⟩
end
/-- a call: what to do, a number, datagrams -/
structure Cl where
  do_ : Int
  k : Int
  p : Option Addr
  cap : Nat
  l : List Dv
def Cl.cells (c : Cl) : List Value := [.int .i64 c.do_, .int .i64 c.k, .slice c.p c.l.length c.cap]
theorem cl_three (c : Cl) : c.cells.length = 3 := rfl
/-- datagrams within the reach -/
def DgsF (w : World) (v : Value) (l : List Dv) : Prop := Dgs w v l ∧ ∀ d ∈ l, d.bs.length ≤ 140737488351232
def Cls (w : World) (v : Value) (l : List Cl) : Prop := Sl 3 w v l.length (flat Cl.cells l) ∧ ∀ c ∈ l, DgsF w (.slice c.p c.l.length c.cap) c.l ∧ (Lit.int .i64 c.k).wf = true
end Nj
namespace Go.Proofs.Ytkgngfjlmkclcaa.K
open Go Go.RowKit Nj Go.Deep
section
variable {H : Type} {enc : TypeId × Value → H} {w : World} {base : Nat} {spare : Nat → Bool} {held : Bool}
theorem three {cs : List Value} {a b c : Value} (hl : cs.length = 3) (h0 : (cs.drop 0).take 1 = [a]) (h1 : (cs.drop 1).take 1 = [b]) (h2 : (cs.drop 2).take 1 = [c]) : cs = [a, b, c] := by
  match cs, hl with
  | [x, y, z], _ => simp at h0 h1 h2; simp [h0, h1, h2]
theorem slice_of_trod {n : Nat} {t e : TypeId} {cs : List Value} {y : DataW H × List MemPlace} (ht : Try.prog.underlying t = some (.slice e)) (h : DataW.trod enc Try.prog w base spare held n t cs = some y) : ∃ p len cap, cs = [.slice p len cap] := by
  rcases open_slice ht h with ⟨hcs, _⟩ | ⟨a, len, cap, m, n', D, Pl, hcs, _⟩
  · exact ⟨_, _, _, hcs⟩
  · exact ⟨_, _, _, hcs⟩
theorem open_dg {n : Nat} {cs : List Value} {x : DataW H × List MemPlace} (h : DataW.trod enc Try.prog w base spare held n 33 cs = some x) (hF : Fit Try.prog 33 x.1) :
    ∃ d : Dv, cs = d.cells ∧ (Bts w d ∧ d.bs.length ≤ 140737488351232) := by
  have hu := Try.underlying33
  obtain ⟨fr, e0, -⟩ := field_int hu h 0 0 3 (by kernel_rfl) Try.underlying3 (by kernel_rfl)
  obtain ⟨tt, e1, -⟩ := field_int hu h 1 1 3 (by kernel_rfl) Try.underlying3 (by kernel_rfl)
  obtain ⟨m, y, e2, f2⟩ := field_any hu h hF 2 2 31 (by kernel_rfl) (by kernel_rfl)
  obtain ⟨p, len, cap, e3⟩ := slice_of_trod Try.underlying31 e2
  have hl : cs.length = 3 := by
    obtain ⟨xs, n', rfl, hx, hl, hlen, hg⟩ := DataW.trod_struct hu h
    rw [hl]; kernel_rfl
  rw [e3] at e2
  obtain ⟨bs, h1, h2, -, h4⟩ := open_slF (enc' := fun x => [Value.int .u8 x]) (sz := 1) (Q := fun _ => True) Try.underlying31 (by kernel_rfl) (by decide) (fun _ => rfl) f2 (fun n cs y h _ => by
    obtain ⟨a, e, _⟩ := DataW.trod_int Try.underlying5 h
    exact ⟨a, e, trivial⟩) e2
  have hb : Try.prog.bytesOf 5 = 1 := by kernel_rfl
  rw [hb] at h4
  subst h1
  refine ⟨⟨fr, tt, p, cap, bs⟩, three hl e0 e1 e3, ?_, (show bs.length ≤ 140737488351232 by unfold reachBytes at h4; omega)⟩
  have : flat (fun x => [Value.int .u8 x]) bs = u8s bs := by simp [flat, u8s, List.map_eq_flatMap]
  rw [this] at h2
  exact h2
theorem open_dgs {n : Nat} {p : Option Addr} {len cap : Nat} {x : DataW H × List MemPlace} (h : DataW.trod enc Try.prog w base spare held n 28 [.slice p len cap] = some x) (hF : Fit Try.prog 28 x.1) :
    ∃ l : List Dv, l.length = len ∧ DgsF w (.slice p len cap) l := by
  obtain ⟨l, h1, h2, h3, -⟩ := open_slF (enc' := Dv.cells) (sz := 3) Try.underlying28 (by kernel_rfl) (by decide) dv_three hF (fun n cs y h hf => open_dg h hf) h
  subst h1
  exact ⟨l, rfl, ⟨h2, fun d hd => (h3 d hd).1⟩, fun d hd => (h3 d hd).2⟩
theorem open_cl {n : Nat} {cs : List Value} {x : DataW H × List MemPlace} (h : DataW.trod enc Try.prog w base spare held n 30 cs = some x) (hF : Fit Try.prog 30 x.1) :
    ∃ c : Cl, cs = c.cells ∧ (DgsF w (.slice c.p c.l.length c.cap) c.l ∧ (Lit.int .i64 c.k).wf = true) := by
  have hu := Try.underlying30
  obtain ⟨do_, e0, -⟩ := field_int hu h 0 0 3 (by kernel_rfl) Try.underlying3 (by kernel_rfl)
  obtain ⟨k, e1, wk⟩ := field_int hu h 1 1 3 (by kernel_rfl) Try.underlying3 (by kernel_rfl)
  obtain ⟨m, y, e2, f2⟩ := field_any hu h hF 2 2 28 (by kernel_rfl) (by kernel_rfl)
  obtain ⟨p, len, cap, e3⟩ := slice_of_trod Try.underlying28 e2
  have hl : cs.length = 3 := by
    obtain ⟨xs, n', rfl, hx, hl, hlen, hg⟩ := DataW.trod_struct hu h
    rw [hl]; kernel_rfl
  rw [e3] at e2
  obtain ⟨l, h1, h2⟩ := open_dgs e2 f2
  subst h1
  exact ⟨⟨do_, k, p, cap, l⟩, three hl e0 e1 e3, h2, wk⟩
theorem open_cls {n : Nat} {p : Option Addr} {len cap : Nat} {x : DataW H × List MemPlace} (h : DataW.trod enc Try.prog w base spare held n 22 [.slice p len cap] = some x) (hF : Fit Try.prog 22 x.1) :
    ∃ l : List Cl, l.length = len ∧ Cls w (.slice p len cap) l := by
  obtain ⟨l, h1, h2, h3, -⟩ := open_slF (enc' := Cl.cells) (sz := 3) Try.underlying22 (by kernel_rfl) (by decide) cl_three hF (fun n cs y h hf => open_cl h hf) h
  subst h1
  exact ⟨l, rfl, h2, h3⟩
end
end Go.Proofs.Ytkgngfjlmkclcaa.K

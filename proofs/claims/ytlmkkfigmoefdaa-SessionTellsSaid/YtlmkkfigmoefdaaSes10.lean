/-
  A ROW OF SESSIONS OF THE CALL's OWN, an element written anew; CONTRACT of slices.Delete of one session.
-/
import Derived.Test.YtlmkkfigmoefdaaSes9
import Derived.Deep.RegionLaw
import Derived.Deep.AppendLies
import Derived.Deep.Slices
set_option linter.unusedVariables false
set_option linter.unusedSimpArgs false
namespace Nj
open Go Go.RowKit
theorem heap_setCells_at {g : Nat} {T : TypeId} : ∀ (vs : List Value) (o : Nat) (w : World) (c : Array Value), w.heap[g]? = some (.cells c T (0, 0)) → o + vs.length ≤ c.size →
    ∃ c', (w.setCells g o vs).heap[g]? = some (.cells c' T (0, 0)) ∧ c'.size = c.size ∧ (∀ i, i < o → c'[i]? = c[i]?) ∧ (∀ j, j < vs.length → c'[o + j]? = vs[j]?)
  | [], o, w, c, h, _ => ⟨c, h, rfl, fun _ _ => rfl, fun j hj => by simp at hj⟩
  | v :: vs, o, w, c, h, hs => by
    simp only [List.length_cons] at hs
    obtain ⟨c', h1, h2, h3, h4⟩ := heap_setCells_at vs (o + 1) (w.setCell ⟨g, o, none⟩ v) _ (heap_set_same h o v) (by simp; omega)
    refine ⟨c', h1, by simpa using h2, fun i hi => by rw [h3 i (by omega), Array.getElem?_setIfInBounds_ne (by omega)], fun j hj => ?_⟩
    cases j with
    | zero =>
      rw [Nat.add_zero, h3 o (by omega), Array.getElem?_setIfInBounds]
      simp; omega
    | succ j =>
      rw [show o + (j + 1) = o + 1 + j by omega, h4 j (by simpa using hj)]
      simp

/-- a row of the call's own, of which what stands behind is written anew -/
theorem Own.rewrite {E : TypeId} {sz B : Nat} {w : World} {g n cap : Nat} {cells : List Value} (h : Own E sz B w (.slice (some ⟨g, 0, none⟩) n cap) n cells) (k m : Nat) (vs : List Value) (hv : vs.length = m * sz) (hk : k + m ≤ n) :
    Own E sz B (w.setCells g (k * sz) vs) (.slice (some ⟨g, 0, none⟩) (k + m) cap) (k + m) (cells.take (k * sz) ++ vs) := by
  obtain ⟨hl, h | ⟨g', cap', cur, e, hg, hh, hn, hm, hc, ht⟩⟩ := h
  · obtain ⟨h, _⟩ := h; cases h
  · cases e
    have hks : (k + m) * sz ≤ n * sz := Nat.mul_le_mul_right _ hk
    have hns : n * sz ≤ cap * sz := Nat.mul_le_mul_right _ hn
    rw [Nat.add_mul] at hks
    obtain ⟨c', h1, h2, h3, h4⟩ := heap_setCells_at vs (k * sz) w cur hh (by omega)
    have hlen : (cells.take (k * sz) ++ vs).length = (k + m) * sz := by rw [List.length_append, List.length_take, Nat.add_mul]; omega
    refine ⟨hlen, .inr ⟨g, cap, c', rfl, hg, h1, by omega, hm, by omega, ?_⟩⟩
    refine List.ext_getElem? fun i => ?_
    by_cases hi : i < k * sz
    · rw [List.getElem?_take_of_lt (by rw [Nat.add_mul]; omega), List.getElem?_append_left (by rw [List.length_take]; omega), List.getElem?_take_of_lt hi, ← ht, List.getElem?_take_of_lt (by omega)]
      have := h3 i hi
      simpa using this
    · by_cases hi2 : i < (k + m) * sz
      · rw [List.getElem?_take_of_lt hi2, List.getElem?_append_right (by rw [List.length_take]; omega), List.length_take, Nat.min_eq_left (by omega)]
        rw [Nat.add_mul] at hi2
        have := h4 (i - k * sz) (by omega)
        rw [show k * sz + (i - k * sz) = i by omega] at this
        simpa using this
      · rw [List.getElem?_eq_none (by rw [List.length_take]; omega), List.getElem?_eq_none (by omega)]

theorem flat_takeN {α : Type} {enc : α → List Value} {sz : Nat} (he : ∀ x, (enc x).length = sz) : ∀ (k : Nat) (L : List α), (flat enc L).take (k * sz) = flat enc (L.take k)
  | 0, L => by simp [flat]
  | k + 1, [] => by simp [flat]
  | k + 1, x :: L => by
    have e1 : flat enc (x :: L) = enc x ++ flat enc L := by simp [flat]
    have e2 : flat enc ((x :: L).take (k + 1)) = enc x ++ flat enc (L.take k) := by simp [flat]
    rw [e1, e2, List.take_append, he, List.take_of_length_le (by rw [he, Nat.succ_mul]; omega), ← flat_takeN he k L]
    congr 2
    rw [Nat.succ_mul]; omega

theorem flat_dropN {α : Type} {enc : α → List Value} {sz : Nat} (he : ∀ x, (enc x).length = sz) : ∀ (k : Nat) (L : List α), (flat enc L).drop (k * sz) = flat enc (L.drop k)
  | 0, L => by simp
  | k + 1, [] => by simp [flat]
  | k + 1, x :: L => by
    have e1 : flat enc (x :: L) = enc x ++ flat enc L := by simp [flat]
    rw [e1, List.drop_append, he, List.drop_of_length_le (by rw [he, Nat.succ_mul]; omega), List.drop_succ_cons, ← flat_dropN he k L, List.nil_append]
    congr 1
    rw [Nat.succ_mul]; omega

theorem Own.cells_there {E : TypeId} {sz B : Nat} {w : World} {g n cap : Nat} {cells : List Value} (h : Own E sz B w (.slice (some ⟨g, 0, none⟩) n cap) n cells) (i : Nat) (hi : i < cap * sz) : (w.cell? ⟨g, i, none⟩).isSome = true := by
  obtain ⟨hl, h | ⟨g', cap', cur, e, hg, hh, hn, hm, hc, ht⟩⟩ := h
  · obtain ⟨h, _⟩ := h; cases h
  · cases e
    rw [cell_of_block hh, Array.getElem?_eq_getElem (by omega)]; rfl


/-- an element of a row of the call's own is written anew -/
theorem Own.put {α : Type} {enc : α → List Value} {E : TypeId} {sz B : Nat} (he : ∀ x, (enc x).length = sz) (hz : 0 < sz) {w : World} {g n cap : Nat} {L : List α} (h : Own E sz B w (.slice (some ⟨g, 0, none⟩) n cap) n (flat enc L)) (hL : L.length = n) (k : Nat) (hk : k < n) (x : α) :
    Own E sz B (w.setCells g (k * sz) (enc x)) (.slice (some ⟨g, 0, none⟩) n cap) n (flat enc (L.set k x)) := by
  have hfl := flat_length he L
  obtain ⟨hl, h | ⟨g', cap', cur, e, hg, hh, hn, hm, hc, ht⟩⟩ := h
  · obtain ⟨h, _⟩ := h; cases h
  · cases e
    have hks : (k + 1) * sz ≤ n * sz := Nat.mul_le_mul_right _ hk
    have hns : n * sz ≤ cap * sz := Nat.mul_le_mul_right _ hn
    rw [Nat.succ_mul] at hks
    obtain ⟨c', h1, h2, h3, h4⟩ := heap_setCells_at (enc x) (k * sz) w cur hh (by rw [he]; omega)
    have h5 : ∀ i, k * sz + sz ≤ i → c'[i]? = cur[i]? := fun i hi => by
      have e1 := World.cell?_setCells_out g (enc x) (k * sz) w ⟨g, i, none⟩ (fun _ _ => by right; rw [he]; exact hi)
      rwa [cell_of_block h1, cell_of_block hh] at e1
    refine ⟨by rw [flat_length he, List.length_set, hL], .inr ⟨g, cap, c', rfl, hg, h1, hn, hm, by omega, ?_⟩⟩
    have hflat : (flat enc L).length = n * sz := hl
    refine flat_set he hz L k (by omega) x _ (by rw [List.length_take, hflat]; simp; omega) (fun i hi => ?_) (fun j hj => ?_)
    · rw [← ht]
      by_cases hin : i < n * sz
      · rw [List.getElem?_take_of_lt hin, List.getElem?_take_of_lt hin]
        rw [Nat.succ_mul] at hi
        have : c'[i]? = cur[i]? := hi.elim (fun h => h3 i h) (fun h => h5 i h)
        simpa using this
      · rw [List.getElem?_eq_none (by rw [List.length_take]; omega), List.getElem?_eq_none (by rw [List.length_take]; omega)]
    · rw [List.getElem?_take_of_lt (by omega)]
      have := h4 j (by rw [he]; exact hj)
      simpa using this
theorem OwnS.put {Es Eb Ef : TypeId} {B : Nat} {w : World} {g cap : Nat} {L : List Sv} (h : OwnS Es Eb Ef B w (.slice (some ⟨g, 0, none⟩) L.length cap) L) (hb : Eb ≠ Es) (hf : Ef ≠ Es) (k : Nat) (hk : k < L.length) (x : Sv) (hx : SOk Eb Ef B w x) :
    OwnS Es Eb Ef B (w.setCells g (k * 35) x.cells) (.slice (some ⟨g, 0, none⟩) (L.set k x).length cap) (L.set k x) := by
  have hm : Mod (fun b => b = g) w (w.setCells g (k * 35) x.cells) := mod_setCells _ _ _ (Mod.refl _ _) rfl
  have hS : ∀ z, SOk Eb Ef B w z → SOk Eb Ef B (w.setCells g (k * 35) x.cells) z := fun z hz =>
    hz.mod hm (fun b hb' e => own_apart hz.bt h.row hb b hb' (by rw [e]; rfl)) (fun b hb' e => own_apart hz.fl h.row hf b hb' (by rw [e]; rfl))
  refine ⟨by rw [List.length_set]; exact Own.put sv_len (by decide) h.row rfl k hk x, fun z hz => hS z ?_⟩
  rcases List.mem_or_eq_of_mem_set hz with hz | rfl
  · exact h.ok z hz
  · exact hx
theorem cons_set (L : List Sv) (k : Nat) (x : Sv) : cons (L.set k x) = (cons L).set k x.s := by simp [cons, List.map_set]
end Nj
namespace Go.Proofs.Ytlmkkfigmoefdaa.K
open Go Go.RowKit Nj
/-- THE WALK's STEP: a whole session is laid into an element of a row of the call's own -/
theorem stp {ops : Array Oper} {rest : List Oper} {op : Oper} {a : Act} {w : World} {Q : Exit → Act → World → Prop} {p y : Operand} {g cap B k : Nat} {L : List Sv} {x : Sv} (h : Hid (OwnS 38 57 85 B w (.slice (some ⟨g, 0, none⟩) L.length cap) L)) (hx : Hid (SOk 57 85 B w x)) (hk : k < L.length) (hgd : op.guard = none) (ho : op.op = .store 38 p y) (hp : a.eval p = .pointer (some ⟨g, k * 35, none⟩)) (hy : a.eval y = .agg x.cells.toArray)
    (hK : ∀ w', Hid (OwnS 38 57 85 B w' (.slice (some ⟨g, 0, none⟩) L.length cap) (L.set k x)) → Hid (Mod (fun b => b = g) w w') → wpList Try.prog ops Q rest (a.put op.dst undef) w') : wpList Try.prog ops Q (op :: rest) a w := by
  have hO := OwnS.put h.out (by decide) (by decide) k hk x hx.out
  rw [List.length_set] at hO
  refine wpList_store_mid hgd _ p y ho g (k * 35) x.cells.toArray hp hy (fun j hj => ?_) (by rw [List.size_toArray, sv_len]; kernel_rfl) (all_oneCell_toArray (sv_one x)) (hK _ (Lib.hid hO) (Lib.hid (mod_setCells _ _ _ (Mod.refl _ _) rfl)))
  rw [List.size_toArray, sv_len] at hj
  have hcap : L.length ≤ cap := by obtain ⟨_, _, e, h⟩ := h.out.row.shape; cases e; exact h
  exact ⟨h.out.row.cells_there _ (by omega), (h.out.row.frozen _).2.2⟩

theorem zero_ses (w : World) : (zeroValue 38).run Try.prog w = .ok (.agg #[.int .i64 0, .int .i64 0, .int .i64 0, .int .i64 0, .int .u8 0, .int .u8 0, .int .u8 0, .int .u8 0, .int .u8 0, .int .u8 0, .int .u8 0, .int .u8 0, .int .u8 0, .int .u8 0, .int .u8 0, .int .u8 0, .int .u8 0, .int .u8 0, .int .u8 0, .int .u8 0, .int .i64 0, .int .i64 0, .int .i64 0, .slice none 0 0, .int .i64 0, .int .i64 0, .int .i64 0, .slice none 0 0, .int .i64 0, .int .i64 0, .int .i64 0, .int .i64 0, .int .i64 0, .int .i64 0, .bool false]) w := by
  go_simp

set_option maxHeartbeats 2000000 in
theorem sdelete_any (B g cap k : Nat) (ds : List Sv) (w : World) (h : Own 38 35 B w (.slice (some ⟨g, 0, none⟩) ds.length cap) ds.length (flat Sv.cells ds)) (hk : k < ds.length) (hl : ds.length ≤ 1048576) :
    Calls Try.prog 42 #[.slice (some ⟨g, 0, none⟩) ds.length cap, .int .i64 k, .int .i64 (k + 1)] w fun e w' =>
      e = .returned (.slice (some ⟨g, 0, none⟩) (ds.eraseIdx k).length cap) ∧ Hid (Own 38 35 B w' (.slice (some ⟨g, 0, none⟩) (ds.eraseIdx k).length cap) (ds.eraseIdx k).length (flat Sv.cells (ds.eraseIdx k))) ∧ Hid (Mod (· = g) w w') := by
  obtain ⟨i0, hi0, hz0, hz1, hz2⟩ := info_parts (show (Try.prog.info? 38).map (fun i => (i.zero, i.size, i.bytes)) = some (some (.agg #[.int .i64 0, .int .i64 0, .int .i64 0, .int .i64 0, .int .u8 0, .int .u8 0, .int .u8 0, .int .u8 0, .int .u8 0, .int .u8 0, .int .u8 0, .int .u8 0, .int .u8 0, .int .u8 0, .int .u8 0, .int .u8 0, .int .u8 0, .int .u8 0, .int .u8 0, .int .u8 0, .int .i64 0, .int .i64 0, .int .i64 0, .slice none 0 0, .int .i64 0, .int .i64 0, .int .i64 0, .slice none 0 0, .int .i64 0, .int .i64 0, .int .i64 0, .int .i64 0, .int .i64 0, .int .i64 0, .bool false]), 35, 200) by kernel_rfl)
  have HO := Lib.hid h
  have hcap : ds.length ≤ cap := by obtain ⟨_, _, e, h⟩ := HO.out.shape; cases e; exact h
  have hcm : cap ≤ 9223372036854775807 := by
    obtain ⟨_, h | ⟨g', cap', cur, e, hg, hh, hn, hm, hc, ht⟩⟩ := HO.out
    · obtain ⟨h, _⟩ := h; cases h
    · cases e; unfold maxLen at hm; omega
  clear h
  obtain ⟨m, hn⟩ : ∃ m, m + 1 = ds.length := ⟨ds.length - 1, by omega⟩
  have hm1 : (ds.eraseIdx k).length = m := by rw [List.length_eraseIdx, if_pos hk]; omega
  rw [hm1]
  obtain ⟨n, hnl⟩ : ∃ n, n = ds.length := ⟨_, rfl⟩
  rw [← hnl] at hk hl hcap HO hn ⊢
  have HD := Lib.hid (show flat Sv.cells (ds.eraseIdx k) = (flat Sv.cells ds).take (k * 35) ++ flat Sv.cells (ds.drop (k + 1)) by rw [flat_takeN sv_len, ← flat_append, List.eraseIdx_eq_take_drop_succ])
  obtain ⟨vs, hvs⟩ : ∃ vs, vs = flat Sv.cells (ds.drop (k + 1)) := ⟨_, rfl⟩
  rw [← hvs] at HD
  have s1 : Hid (vs.length = (n - (k + 1)) * 35) := Lib.hid (by rw [hvs, flat_length sv_len, List.length_drop, hnl])
  have s2 : Hid (∀ u ∈ vs, u.oneCell' = true) := Lib.hid (by rw [hvs]; exact svs_one _)
  have s3 : Hid (∀ j, j < vs.length → (w.drew.cell? ⟨g, 0 + k * 35 + j, none⟩).isSome = true ∧ w.drew.frozen? ⟨g, 0 + k * 35 + j, none⟩ = false) := Lib.hid (fun j hj => by
    rw [s1.out] at hj
    refine ⟨Own.cells_there (w := w.drew) HO.out.drew _ (by omega), (Own.frozen (w := w.drew) HO.out.drew _).2.2⟩)
  obtain ⟨A, hA, hnews⟩ : ∃ A : Addr, (if cap = k + 1 then some (⟨g, 0, none⟩ : Addr) else some ⟨g, 0 + (k + 1) * 35, none⟩) = some A ∧ Hid (∀ j u, vs[j]? = some u → w.drew.cell? (A.add j) = some u) := by
    by_cases h : cap = k + 1
    · refine ⟨⟨g, 0, none⟩, by simp [h], Lib.hid fun j u hu => ?_⟩
      have h0 : vs.length = 0 := by rw [s1.out]; omega
      rw [List.length_eq_zero_iff.1 h0] at hu
      simp at hu
    · refine ⟨⟨g, 0 + (k + 1) * 35, none⟩, by simp [h], Lib.hid fun j u hu => ?_⟩
      rw [hvs, ← flat_dropN sv_len, List.getElem?_drop] at hu
      have hlt : (k + 1) * 35 + j < (flat Sv.cells ds).length := by
        by_cases hh : (k + 1) * 35 + j < (flat Sv.cells ds).length
        · exact hh
        · rw [List.getElem?_eq_none (by omega)] at hu; cases hu
      obtain ⟨b', o', e, hd⟩ := HO.out.sl.open (by omega)
      cases e
      have := hd ((k + 1) * 35 + j) hlt
      rw [List.getElem?_eq_getElem hlt] at hu
      rw [Addr.add_lit, show 0 + (k + 1) * 35 + j = 0 + ((k + 1) * 35 + j) by omega, ← hu]
      exact this
  simp only [Nat.zero_add] at hA
  obtain ⟨w1, hw1⟩ : ∃ w1, w1 = w.drew.setCells g (k * 35) vs := ⟨_, rfl⟩
  have HO1 : Hid (Own 38 35 B w1 (.slice (some ⟨g, 0, none⟩) m cap) m (flat Sv.cells (ds.eraseIdx k))) := Lib.hid (by
    have := Own.rewrite (w := w.drew) HO.out.drew k (n - (k + 1)) vs s1.out (by omega)
    rw [show k + (n - (k + 1)) = m by omega] at this
    rw [hw1, HD.out]; exact this)
  have HM1 : Hid (Mod (· = g) w w1) := Lib.hid (by rw [hw1]; exact mod_setCells vs _ _ (Mod.refl _ w).drew rfl)
  have HW1 := Lib.hid hw1
  have hzs : (Builtin.zeroCells (Value.agg #[.int .i64 0, .int .i64 0, .int .i64 0, .int .i64 0, .int .u8 0, .int .u8 0, .int .u8 0, .int .u8 0, .int .u8 0, .int .u8 0, .int .u8 0, .int .u8 0, .int .u8 0, .int .u8 0, .int .u8 0, .int .u8 0, .int .u8 0, .int .u8 0, .int .u8 0, .int .u8 0, .int .i64 0, .int .i64 0, .int .i64 0, .slice none 0 0, .int .i64 0, .int .i64 0, .int .i64 0, .slice none 0 0, .int .i64 0, .int .i64 0, .int .i64 0, .int .i64 0, .int .i64 0, .int .i64 0, .bool false]).cells 1).toList = [.int .i64 0, .int .i64 0, .int .i64 0, .int .i64 0, .int .u8 0, .int .u8 0, .int .u8 0, .int .u8 0, .int .u8 0, .int .u8 0, .int .u8 0, .int .u8 0, .int .u8 0, .int .u8 0, .int .u8 0, .int .u8 0, .int .u8 0, .int .u8 0, .int .u8 0, .int .u8 0, .int .i64 0, .int .i64 0, .int .i64 0, .slice none 0 0, .int .i64 0, .int .i64 0, .int .i64 0, .slice none 0 0, .int .i64 0, .int .i64 0, .int .i64 0, .int .i64 0, .int .i64 0, .int .i64 0, .bool false] := by first | kernel_rfl | (simp [Builtin.zeroCells, Value.cells]; done)
  have hclear : ∀ ty, (Builtin.clear_ #[22] ty #[.slice (some ⟨g, m * 35, none⟩) (n - m) (cap - m)]).run Try.prog w1 = .ok (.tuple #[]) (w1.setCells g (m * 35) [.int .i64 0, .int .i64 0, .int .i64 0, .int .i64 0, .int .u8 0, .int .u8 0, .int .u8 0, .int .u8 0, .int .u8 0, .int .u8 0, .int .u8 0, .int .u8 0, .int .u8 0, .int .u8 0, .int .u8 0, .int .u8 0, .int .u8 0, .int .u8 0, .int .u8 0, .int .u8 0, .int .i64 0, .int .i64 0, .int .i64 0, .slice none 0 0, .int .i64 0, .int .i64 0, .int .i64 0, .slice none 0 0, .int .i64 0, .int .i64 0, .int .i64 0, .int .i64 0, .int .i64 0, .int .i64 0, .bool false]) := fun ty => by
    rw [show n - m = 1 by omega]
    exact run_clear_any (P := Try.prog) w1 22 38 ty _ _ Try.underlying22 zero_ses g (m * 35) 1 (cap - m) (by omega) hzs (by simp [Value.oneCell']) (fun t ht => HO1.out.cells_there _ (by simp at ht; omega)) (fun t ht => (HO1.out.frozen _).2.2)
  have HN := Lib.hid hn
  clear hvs hn hnl hm1 hw1 hzs
  have t1 : ((k : Int) == (k : Int) + 1) = false := by rw [beq_eq_false_iff_ne]; omega
  have t2 : (0 : Int) ≤ (k : Int) := by omega
  have t3 : (k : Int) ≤ (k : Int) + 1 := by omega
  have t4 : (k : Int) + 1 ≤ (n : Int) := by omega
  have t5 : (n : Int) ≤ (cap : Int) := by omega
  have t6 : (m : Int) ≤ (n : Int) := by have := HN.out; omega
  have t8 : (n : Int) ≤ (cap : Int) := by omega
  have t7 : (0 : Int) ≤ (m : Int) := by omega
  have hkc : k ≤ cap := by omega
  have hwr : IntKind.i64.wrap ((k : Int) + 1) = (k : Int) + 1 := by rw [IntKind.wrap_i64]; omega
  have hp0 : (0 : Int) ≤ (k : Int) + 1 := by omega
  have hp2 : ((k : Int) + 1).toNat = k + 1 := by omega
  have hcne : ¬ cap = m := by have := HN.out; omega
  have hkm : Hid (k + (n - (k + 1)) = m) := Lib.hid (by have := HN.out; omega)
  go_enter Try.func42, Try.ntmps42
  go_wp2_with fail
  go_region_law (refine step_append_room rfl (.tmp 22) (.tmp 25) 22 rfl 38 i0 35 Try.underlying22 hi0 hz1 g 0 k cap (by simp [Act.eval, Act.put]) A (n - (k + 1)) (cap - (k + 1)) vs (by simp [Act.eval, Act.put, hA]) s1.out hnews.out s2.out (by omega) s3.out ?_)
  rw [hkm.out, ← HW1.out]
  go_wp2_with fail
  go_ret
  refine ⟨rfl, Lib.hid ?_, Lib.hid (mod_setCells _ _ _ HM1.out rfl)⟩
  have := HO1.out.cutback m (Nat.le_refl _) [.int .i64 0, .int .i64 0, .int .i64 0, .int .i64 0, .int .u8 0, .int .u8 0, .int .u8 0, .int .u8 0, .int .u8 0, .int .u8 0, .int .u8 0, .int .u8 0, .int .u8 0, .int .u8 0, .int .u8 0, .int .u8 0, .int .u8 0, .int .u8 0, .int .u8 0, .int .u8 0, .int .i64 0, .int .i64 0, .int .i64 0, .slice none 0 0, .int .i64 0, .int .i64 0, .int .i64 0, .slice none 0 0, .int .i64 0, .int .i64 0, .int .i64 0, .int .i64 0, .int .i64 0, .int .i64 0, .bool false]
  rw [List.take_of_length_le (by have := HO1.out.1; omega)] at this
  exact this


end Go.Proofs.Ytlmkkfigmoefdaa.K

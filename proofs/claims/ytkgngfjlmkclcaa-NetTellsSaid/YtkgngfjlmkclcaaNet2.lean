/-
  CONTRACT of slices.Delete of one datagram, in a row of the net's own.
-/
import Derived.Test.YtkgngfjlmkclcaaNet
set_option linter.unusedVariables false
set_option linter.unusedSimpArgs false
namespace Nj
open Go Go.RowKit
theorem heap_setCells_at {g : Nat} {T : TypeId} : ∀ (vs : List Value) (o : Nat) (w : World) (c : Array Value), w.heap[g]? = some (.cells c T (0, 0)) → o + vs.length ≤ c.size →
    ∃ c', (w.setCells g o vs).heap[g]? = some (.cells c' T (0, 0)) ∧ c'.size = c.size ∧ (∀ i, i < o → c'[i]? = c[i]?) ∧ (∀ j, j < vs.length → c'[o + j]? = vs[j]?)
  | [], o, w, c, h, _ => ⟨c, h, rfl, fun _ _ => rfl, fun j hj => by simp at hj⟩
  | v :: vs, o, w, c, h, hs => by
    simp only [List.length_cons] at hs
    obtain ⟨c', h1, h2, h3, h4⟩ := heap_setCells_at vs (o + 1) (w.setCell ⟨g, o, none⟩ v) _ (heap_set_same h o v) (by simp; omega)
    refine ⟨c', h1, by simpa using h2, fun i hi => by rw [h3 i (by omega), Array.getElem?_setIfInBounds_ne (by omega)], fun j hj => ?_⟩
    cases j with
    | zero =>
      rw [Nat.add_zero, h3 o (by omega), Array.getElem?_setIfInBounds]
      simp; omega
    | succ j =>
      rw [show o + (j + 1) = o + 1 + j by omega, h4 j (by simpa using hj)]
      simp
/-- a row of the call's own, of which what stands behind is written anew -/
theorem Own.rewrite {E : TypeId} {sz B : Nat} {w : World} {g n cap : Nat} {cells : List Value} (h : Own E sz B w (.slice (some ⟨g, 0, none⟩) n cap) n cells) (k m : Nat) (vs : List Value) (hv : vs.length = m * sz) (hk : k + m ≤ n) :
    Own E sz B (w.setCells g (k * sz) vs) (.slice (some ⟨g, 0, none⟩) (k + m) cap) (k + m) (cells.take (k * sz) ++ vs) := by
  obtain ⟨hl, h | ⟨g', cap', cur, e, hg, hh, hn, hm, hc, ht⟩⟩ := h
  · obtain ⟨h, _⟩ := h; cases h
  · cases e
    have hks : (k + m) * sz ≤ n * sz := Nat.mul_le_mul_right _ hk
    have hns : n * sz ≤ cap * sz := Nat.mul_le_mul_right _ hn
    rw [Nat.add_mul] at hks
    obtain ⟨c', h1, h2, h3, h4⟩ := heap_setCells_at vs (k * sz) w cur hh (by omega)
    have hlen : (cells.take (k * sz) ++ vs).length = (k + m) * sz := by rw [List.length_append, List.length_take, Nat.add_mul]; omega
    refine ⟨hlen, .inr ⟨g, cap, c', rfl, hg, h1, by omega, hm, by omega, ?_⟩⟩
    refine List.ext_getElem? fun i => ?_
    by_cases hi : i < k * sz
    · rw [List.getElem?_take_of_lt (by rw [Nat.add_mul]; omega), List.getElem?_append_left (by rw [List.length_take]; omega), List.getElem?_take_of_lt hi, ← ht, List.getElem?_take_of_lt (by omega)]
      have := h3 i hi
      simpa using this
    · by_cases hi2 : i < (k + m) * sz
      · rw [List.getElem?_take_of_lt hi2, List.getElem?_append_right (by rw [List.length_take]; omega), List.length_take, Nat.min_eq_left (by omega)]
        rw [Nat.add_mul] at hi2
        have := h4 (i - k * sz) (by omega)
        rw [show k * sz + (i - k * sz) = i by omega] at this
        simpa using this
      · rw [List.getElem?_eq_none (by rw [List.length_take]; omega), List.getElem?_eq_none (by omega)]
theorem flat_takeN {α : Type} {enc : α → List Value} {sz : Nat} (he : ∀ x, (enc x).length = sz) : ∀ (k : Nat) (L : List α), (flat enc L).take (k * sz) = flat enc (L.take k)
  | 0, L => by simp [flat]
  | k + 1, [] => by simp [flat]
  | k + 1, x :: L => by
    have e1 : flat enc (x :: L) = enc x ++ flat enc L := by simp [flat]
    have e2 : flat enc ((x :: L).take (k + 1)) = enc x ++ flat enc (L.take k) := by simp [flat]
    rw [e1, e2, List.take_append, he, List.take_of_length_le (by rw [he, Nat.succ_mul]; omega), ← flat_takeN he k L]
    congr 2
    rw [Nat.succ_mul]; omega
theorem flat_dropN {α : Type} {enc : α → List Value} {sz : Nat} (he : ∀ x, (enc x).length = sz) : ∀ (k : Nat) (L : List α), (flat enc L).drop (k * sz) = flat enc (L.drop k)
  | 0, L => by simp
  | k + 1, [] => by simp [flat]
  | k + 1, x :: L => by
    have e1 : flat enc (x :: L) = enc x ++ flat enc L := by simp [flat]
    rw [e1, List.drop_append, he, List.drop_of_length_le (by rw [he, Nat.succ_mul]; omega), List.drop_succ_cons, ← flat_dropN he k L, List.nil_append]
    congr 1
    rw [Nat.succ_mul]; omega
theorem Own.cells_there {E : TypeId} {sz B : Nat} {w : World} {g n cap : Nat} {cells : List Value} (h : Own E sz B w (.slice (some ⟨g, 0, none⟩) n cap) n cells) (i : Nat) (hi : i < cap * sz) : (w.cell? ⟨g, i, none⟩).isSome = true := by
  obtain ⟨hl, h | ⟨g', cap', cur, e, hg, hh, hn, hm, hc, ht⟩⟩ := h
  · obtain ⟨h, _⟩ := h; cases h
  · cases e
    rw [cell_of_block hh, Array.getElem?_eq_getElem (by omega)]; rfl
end Nj
namespace Go.Proofs.Ytkgngfjlmkclcaa.K
open Go Go.RowKit Nj

theorem zero_dg (w : World) : (zeroValue 33).run Try.prog w = .ok (.agg #[.int .i64 0, .int .i64 0, .slice none 0 0]) w := by
  go_simp

set_option maxHeartbeats 2000000 in
theorem ndelete_any (B g cap k : Nat) (ds : List Dv) (w : World) (h : Own 33 3 B w (.slice (some ⟨g, 0, none⟩) ds.length cap) ds.length (flat Dv.cells ds)) (hk : k < ds.length) (hl : ds.length ≤ 1048576) :
    Calls Try.prog 28 #[.slice (some ⟨g, 0, none⟩) ds.length cap, .int .i64 k, .int .i64 (k + 1)] w fun e w' =>
      e = .returned (.slice (some ⟨g, 0, none⟩) (ds.eraseIdx k).length cap) ∧ Hid (Own 33 3 B w' (.slice (some ⟨g, 0, none⟩) (ds.eraseIdx k).length cap) (ds.eraseIdx k).length (flat Dv.cells (ds.eraseIdx k))) ∧ Hid (Mod (· = g) w w') := by
  obtain ⟨i0, hi0, hz0, hz1, hz2⟩ := info_parts (show (Try.prog.info? 33).map (fun i => (i.zero, i.size, i.bytes)) = some (some (.agg #[.int .i64 0, .int .i64 0, .slice none 0 0]), 3, 40) by kernel_rfl)
  have HO := Lib.hid h
  have hcap : ds.length ≤ cap := by obtain ⟨_, _, e, h⟩ := HO.out.shape; cases e; exact h
  have hcm : cap ≤ 9223372036854775807 := by
    obtain ⟨_, h | ⟨g', cap', cur, e, hg, hh, hn, hm, hc, ht⟩⟩ := HO.out
    · obtain ⟨h, _⟩ := h; cases h
    · cases e; unfold maxLen at hm; omega
  clear h
  obtain ⟨m, hn⟩ : ∃ m, m + 1 = ds.length := ⟨ds.length - 1, by omega⟩
  have hm1 : (ds.eraseIdx k).length = m := by rw [List.length_eraseIdx, if_pos hk]; omega
  rw [hm1]
  obtain ⟨n, hnl⟩ : ∃ n, n = ds.length := ⟨_, rfl⟩
  rw [← hnl] at hk hl hcap HO hn ⊢
  have HD := Lib.hid (show flat Dv.cells (ds.eraseIdx k) = (flat Dv.cells ds).take (k * 3) ++ flat Dv.cells (ds.drop (k + 1)) by rw [flat_takeN dv_three, ← flat_append, List.eraseIdx_eq_take_drop_succ])
  obtain ⟨vs, hvs⟩ : ∃ vs, vs = flat Dv.cells (ds.drop (k + 1)) := ⟨_, rfl⟩
  rw [← hvs] at HD
  have s1 : Hid (vs.length = (n - (k + 1)) * 3) := Lib.hid (by rw [hvs, flat_length dv_three, List.length_drop, hnl])
  have s2 : Hid (∀ u ∈ vs, u.oneCell' = true) := Lib.hid (by rw [hvs]; exact dv_cells_one _)
  have s3 : Hid (∀ j, j < vs.length → (w.drew.cell? ⟨g, 0 + k * 3 + j, none⟩).isSome = true ∧ w.drew.frozen? ⟨g, 0 + k * 3 + j, none⟩ = false) := Lib.hid (fun j hj => by
    rw [s1.out] at hj
    refine ⟨Own.cells_there (w := w.drew) HO.out.drew _ (by omega), (Own.frozen (w := w.drew) HO.out.drew _).2.2⟩)
  obtain ⟨A, hA, hnews⟩ : ∃ A : Addr, (if cap = k + 1 then some (⟨g, 0, none⟩ : Addr) else some ⟨g, 0 + (k + 1) * 3, none⟩) = some A ∧ Hid (∀ j u, vs[j]? = some u → w.drew.cell? (A.add j) = some u) := by
    by_cases h : cap = k + 1
    · refine ⟨⟨g, 0, none⟩, by simp [h], Lib.hid fun j u hu => ?_⟩
      have h0 : vs.length = 0 := by rw [s1.out]; omega
      rw [List.length_eq_zero_iff.1 h0] at hu
      simp at hu
    · refine ⟨⟨g, 0 + (k + 1) * 3, none⟩, by simp [h], Lib.hid fun j u hu => ?_⟩
      rw [hvs, ← flat_dropN dv_three, List.getElem?_drop] at hu
      have hlt : (k + 1) * 3 + j < (flat Dv.cells ds).length := by
        by_cases hh : (k + 1) * 3 + j < (flat Dv.cells ds).length
        · exact hh
        · rw [List.getElem?_eq_none (by omega)] at hu; cases hu
      obtain ⟨b', o', e, hd⟩ := HO.out.sl.open (by omega)
      cases e
      have := hd ((k + 1) * 3 + j) hlt
      rw [List.getElem?_eq_getElem hlt] at hu
      rw [Addr.add_lit, show 0 + (k + 1) * 3 + j = 0 + ((k + 1) * 3 + j) by omega, ← hu]
      exact this
  simp only [Nat.zero_add] at hA
  obtain ⟨w1, hw1⟩ : ∃ w1, w1 = w.drew.setCells g (k * 3) vs := ⟨_, rfl⟩
  have HO1 : Hid (Own 33 3 B w1 (.slice (some ⟨g, 0, none⟩) m cap) m (flat Dv.cells (ds.eraseIdx k))) := Lib.hid (by
    have := Own.rewrite (w := w.drew) HO.out.drew k (n - (k + 1)) vs s1.out (by omega)
    rw [show k + (n - (k + 1)) = m by omega] at this
    rw [hw1, HD.out]; exact this)
  have HM1 : Hid (Mod (· = g) w w1) := Lib.hid (by rw [hw1]; exact mod_setCells vs _ _ (Mod.refl _ w).drew rfl)
  have HW1 := Lib.hid hw1
  have hzs : (Builtin.zeroCells (Value.agg #[.int .i64 0, .int .i64 0, .slice none 0 0]).cells 1).toList = [.int .i64 0, .int .i64 0, .slice none 0 0] := by first | kernel_rfl | (simp [Builtin.zeroCells, Value.cells]; done)
  have hclear : ∀ ty, (Builtin.clear_ #[28] ty #[.slice (some ⟨g, m * 3, none⟩) (n - m) (cap - m)]).run Try.prog w1 = .ok (.tuple #[]) (w1.setCells g (m * 3) [.int .i64 0, .int .i64 0, .slice none 0 0]) := fun ty => by
    rw [show n - m = 1 by omega]
    exact run_clear_any (P := Try.prog) w1 28 33 ty _ _ Try.underlying28 zero_dg g (m * 3) 1 (cap - m) (by omega) hzs (by simp [Value.oneCell']) (fun t ht => HO1.out.cells_there _ (by simp at ht; omega)) (fun t ht => (HO1.out.frozen _).2.2)
  have HN := Lib.hid hn
  clear hvs hn hnl hm1 hw1 hzs
  have t1 : ((k : Int) == (k : Int) + 1) = false := by rw [beq_eq_false_iff_ne]; omega
  have t2 : (0 : Int) ≤ (k : Int) := by omega
  have t3 : (k : Int) ≤ (k : Int) + 1 := by omega
  have t4 : (k : Int) + 1 ≤ (n : Int) := by omega
  have t5 : (n : Int) ≤ (cap : Int) := by omega
  have t6 : (m : Int) ≤ (n : Int) := by have := HN.out; omega
  have t8 : (n : Int) ≤ (cap : Int) := by omega
  have t7 : (0 : Int) ≤ (m : Int) := by omega
  have hkc : k ≤ cap := by omega
  have hwr : IntKind.i64.wrap ((k : Int) + 1) = (k : Int) + 1 := by rw [IntKind.wrap_i64]; omega
  have hp0 : (0 : Int) ≤ (k : Int) + 1 := by omega
  have hp2 : ((k : Int) + 1).toNat = k + 1 := by omega
  have hcne : ¬ cap = m := by have := HN.out; omega
  have hkm : Hid (k + (n - (k + 1)) = m) := Lib.hid (by have := HN.out; omega)
  go_enter Try.func28, Try.ntmps28
  go_wp2_with fail
  go_region_law (refine step_append_room rfl (.tmp 22) (.tmp 25) 28 rfl 33 i0 3 Try.underlying28 hi0 hz1 g 0 k cap (by simp [Act.eval, Act.put]) A (n - (k + 1)) (cap - (k + 1)) vs (by simp [Act.eval, Act.put, hA]) s1.out hnews.out s2.out (by omega) s3.out ?_)
  rw [hkm.out, ← HW1.out]
  go_wp2_with fail
  go_ret
  refine ⟨rfl, Lib.hid ?_, Lib.hid (mod_setCells _ _ _ HM1.out rfl)⟩
  have := HO1.out.cutback m (Nat.le_refl _) [.int .i64 0, .int .i64 0, .slice none 0 0]
  rw [List.take_of_length_le (by have := HO1.out.1; omega)] at this
  exact this
end Go.Proofs.Ytkgngfjlmkclcaa.K

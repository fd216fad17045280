/-
  CONTRACTS of nightjarref23's Take, Lose, Twice.
-/
import Derived.Test.YtkgngfjlmkclcaaNetRef2
set_option linter.unusedVariables false
set_option linter.unusedSimpArgs false
namespace Go.Proofs.Ytkgngfjlmkclcaa.K
open Go Go.RowKit Nj

set_option maxHeartbeats 1000000 in
theorem qtake_none (B nb : Nat) (p : Option Addr) (cap : Nat) (g k : Int) (w : World) (h : NetM B nb p cap [] g w) (hk : -9223372036854775808 ≤ k ∧ k ≤ 9223372036854775807) :
    Calls Try.prog 13 #[.pointer (some ⟨nb, 0, none⟩), .int .i64 k] w fun e w' => e = .returned (.tuple #[.agg #[.int .i64 0, .int .i64 0, .slice none 0 0], .bool false]) ∧ Hid (Below w.heap.size w w') := by
  have HX := Lib.hid h.box
  clear h
  go_enter Try.func13, Try.ntmps13
  go_wp2_with fail
  refine (qplace_any nb p 0 cap g k _ (keepa HX.out _) (by decide) hk).mono ?_
  rintro e w1 ⟨he, rfl⟩
  simp only [if_true] at he
  subst he
  go_wp2_with fail
  exact bodyPost_ret (v := .tuple #[.agg #[.int .i64 0, .int .i64 0, .slice none 0 0], .bool false]) (by simp [results, Try.results13, go_sem]) rfl ⟨rfl, Lib.hid (by repeat (first | (with_reducible exact Below.refl _ _) | (with_reducible refine bel_set (by first | omega | (simp; done) | (simp; omega)) ?_) | (with_reducible refine bel_alloc (by first | omega | (simp; done) | (simp; omega)) ?_) | (with_reducible refine bel_drew ?_) | (with_reducible refine bel_drewN ?_ _)))⟩

set_option maxHeartbeats 4000000 in
theorem qtake_some (B nb : Nat) (p : Option Addr) (cap : Nat) (ds : List Dv) (g k : Int) (w : World) (h : NetM B nb p cap ds g w) (hB : B ≤ w.heap.size) (hpos : 0 < ds.length) (hl : ds.length ≤ 1048576) (hk : -9223372036854775808 ≤ k ∧ k ≤ 9223372036854775807) :
    Calls Try.prog 13 #[.pointer (some ⟨nb, 0, none⟩), .int .i64 k] w fun e w' => ∃ (d : Dv) (i : Nat) (p' : Option Addr) (cap' : Nat), i = ntPlace k ds.length ∧ ds[i]? = some d ∧ e = .returned (.tuple #[.agg #[.int .i64 d.fr, .int .i64 d.tt, .slice d.p d.bs.length d.cap], .bool true]) ∧
      Hid (NetM B nb p' cap' (ds.eraseIdx i) g w') ∧ Hid (∀ b, (Value.slice p' (ds.eraseIdx i).length cap').ownBlock = some b → w.heap.size ≤ b) ∧ Hid (OwnB 5 B w' d) ∧ Hid (Mod (fun b => b = nb) w w') := by
  have HN := Lib.hid h
  have HX := Lib.hid h.box
  have HO := Lib.hid h.row
  obtain ⟨gb, rfl⟩ : ∃ gb, p = some ⟨gb, 0, none⟩ := by
    rcases own_head HO.out with e | ⟨gb, e⟩
    · subst e
      obtain ⟨b, o, e, _⟩ := HO.out.sl.open hpos
      cases e
    · exact ⟨gb, e⟩
  have hnl : nb < w.heap.size := block_lt HX.out
  obtain ⟨i, hi⟩ : ∃ i, i = ntPlace k ds.length := ⟨_, rfl⟩
  have hil : i < ds.length := by rw [hi]; exact ntPlace_lt k hpos
  obtain ⟨d, hd⟩ : ∃ d, d = ds[i] := ⟨_, rfl⟩
  have HI := Lib.hid hi
  have HD := Lib.hid hd
  have hcap : ds.length ≤ cap := by obtain ⟨_, _, e, h⟩ := HO.out.shape; cases e; exact h
  have HRow := Lib.hid (fun (W : World) (B : Below w.heap.size w W) => dsl_row (HO.out.sl.keep (by decide) B) i hil d hd)
  have t1 : (0 : Int) ≤ (i : Int) := by omega
  have t2 : (i : Int) < (ds.length : Int) := by omega
  have t3 : decide ((i : Int) < 0) = false := dec_f (by omega)
  have t4 : (i : Int) ≤ (cap : Int) := by omega
  have t5 : (i : Int) + 1 ≤ (ds.length : Int) := by omega
  have t6 : (0 : Int) ≤ (i : Int) + 1 := by omega
  have t7 : ((i : Int) + 1).toNat = i + 1 := by omega
  have t8 : IntKind.i64.wrap ((i : Int) + 1) = (i : Int) + 1 := by rw [IntKind.wrap_i64]; omega
  have t9 : (ds.length : Int) ≤ (cap : Int) := by omega
  have hpl : Hid (¬ ds.length = 0) := Lib.hid (by omega)
  have HL1 := Lib.hid (show (flat Dv.cells (ds.take i)).length = i * 3 by rw [flat_length dv_three, List.length_take, Nat.min_eq_left (by omega)])
  have HL2 := Lib.hid (show (flat Dv.cells (ds.drop (i + 1))).length = (ds.length - (i + 1)) * 3 by rw [flat_length dv_three, List.length_drop])
  have HN1 := Lib.hid (show ∀ W, Below w.heap.size w W → ∀ j u, (flat Dv.cells (ds.take i))[j]? = some u → W.cell? ((⟨gb, 0, none⟩ : Addr).add j) = some u from fun W hb j u hu => by
    rw [← flat_takeN dv_three] at hu
    have hj : j < i * 3 := by
      rcases Nat.lt_or_ge j (i * 3) with h | h
      · exact h
      · rw [List.getElem?_eq_none (by rw [List.length_take]; omega)] at hu; cases hu
    rw [List.getElem?_take_of_lt hj] at hu
    exact Sl.news (by decide) (HO.out.sl.keep (by decide) hb) j u hu)
  obtain ⟨A, hA, HN2⟩ : ∃ A : Addr, (if cap = i + 1 then some (⟨gb, 0, none⟩ : Addr) else some ⟨gb, (i + 1) * 3, none⟩) = some A ∧ Hid (∀ W, Below w.heap.size w W → ∀ j u, (flat Dv.cells (ds.drop (i + 1)))[j]? = some u → W.cell? (A.add j) = some u) := by
    by_cases h : cap = i + 1
    · refine ⟨⟨gb, 0, none⟩, by simp [h], Lib.hid fun W hb j u hu => ?_⟩
      rw [List.getElem?_eq_none (by rw [HL2.out]; omega)] at hu
      cases hu
    · refine ⟨⟨gb, (i + 1) * 3, none⟩, by simp [h], Lib.hid fun W hb j u hu => ?_⟩
      have hs := (HO.out.sl.keep (by decide) hb).drop (i + 1) (by omega)
      rw [if_neg h, flat_dropN dv_three] at hs
      simp only [Option.map_some, Addr.add_lit, Nat.zero_add] at hs
      exact Sl.news (by decide) hs j u hu
  have HE := Lib.hid (show flat Dv.cells (ds.eraseIdx i) = flat Dv.cells (ds.take i) ++ flat Dv.cells (ds.drop (i + 1)) by rw [← flat_append, List.eraseIdx_eq_take_drop_succ])
  have HEl := Lib.hid (show (ds.eraseIdx i).length = i + (ds.length - (i + 1)) by rw [List.length_eraseIdx, if_pos hil]; omega)
  clear h hi hd hpos
  go_enter Try.func13, Try.ntmps13
  go_wp2_with fail
  refine (qplace_any nb _ ds.length cap g k _ (keepa HX.out _) hl hk).mono ?_
  rintro e w1 ⟨he, rfl⟩
  simp only [hpl.out, if_false, ← HI.out] at he
  subst he
  have c_X := cell_of_block (keepa HX.out (.cells #[.int .i64 0, .int .i64 0, .slice none 0 0] 33))
  obtain ⟨r0, r1, r2⟩ := HRow.out (w.alloc (.cells #[.int .i64 0, .int .i64 0, .slice none 0 0] 33)) (below_alloc _ _)
  simp only [Nat.zero_add] at r0 r1 r2
  go_upto_region 5 with fail
  refine gen_wp (fun w2 => Hid (Below w.heap.size w w2) ∧ Hid (w2.heap[w.heap.size]? = some (.cells #[.int .i64 0, .int .i64 0, .slice none 0 0] 33)) ∧ Hid (w2.heap[(w.heap.size + 1)]? = some (.cells #[.int .i64 d.fr, .int .i64 d.tt, .slice d.p d.bs.length d.cap] 33)) ∧ True) ⟨Lib.hid (by repeat (first | (with_reducible exact Below.refl _ _) | (with_reducible refine bel_set (by first | omega | (simp; done) | (simp; omega)) ?_) | (with_reducible refine bel_alloc (by first | omega | (simp; done) | (simp; omega)) ?_) | (with_reducible refine bel_drew ?_) | (with_reducible refine bel_drewN ?_ _))), Lib.hid (by first | (simp [World.setCell, Array.getElem?_modify]; done) | (simp [World.setCell, Array.getElem?_modify]; omega) | ((repeat (first | (with_reducible exact heap_new _ _ _ (by first | rfl | (simp; done))) | (with_reducible refine keepa ?_ _) | (simp [World.setCell, Array.getElem?_modify]; done))); done)), Lib.hid (by first | (simp [World.setCell, Array.getElem?_modify]; done) | (simp [World.setCell, Array.getElem?_modify]; omega) | ((repeat (first | (with_reducible exact heap_new _ _ _ (by first | rfl | (simp; done))) | (with_reducible refine keepa ?_ _) | (simp [World.setCell, Array.getElem?_modify]; done))); done)), trivial⟩ ?_
  clear c_X r0 r1 r2
  rintro w2 ⟨N, A4, A7, -⟩
  have c_A4 := cell_of_block A4.out
  have f_A4 := frozen_of_block A4.out
  have c_A7 := cell_of_block A7.out
  have f_A7 := frozen_of_block A7.out
  replace HX := Lib.hid (keepb HX.out N.out)
  replace c_HX := cell_of_block HX.out
  replace f_HX := frozen_of_block HX.out
  have hz2 : w.heap.size + 1 < w2.heap.size := block_lt A7.out
  have hnw : nb < w2.heap.size := by omega
  have HBa := Lib.hid ((below_alloc w2 (.cells #[] 33)).drew)
  go_region_law ((first
    | (refine step_app rfl (.tmp 22) (.tmp 28) 28 rfl w2.heap.size 33 (.agg #[.int .i64 0, .int .i64 0, .slice none 0 0]) 3 40 Try.underlying28 (by kernel_rfl) rfl (by decide) w2.heap.size w2 HBa (Nat.le_refl _) (Lib.hid (own_empty _ _ _ w2 _ rfl (Nat.le_refl _))) (by simp [Act.eval, Act.put]) ⟨gb, 0, none⟩ i cap (by simp [Act.eval, Act.put]) (flat Dv.cells (ds.take i)) HL1.out (Lib.hid (HN1.out _ (N.out.trans (HBa.out.mono (by omega))))) (dv_cells_one _) (by omega) (by omega) (by simp) ?_; intro p3 cap3 w3 hc3 O3 B3 K3; simp only [Nat.zero_add, List.nil_append] at O3 hc3; have X3 := Lib.hid (keepb HX.out B3.out); have c_X3 := cell_of_block X3.out; have f_X3 := frozen_of_block X3.out)
    | (refine step_app rfl (.tmp 29) (.tmp 36) 28 rfl w2.heap.size 33 (.agg #[.int .i64 0, .int .i64 0, .slice none 0 0]) 3 40 Try.underlying28 (by kernel_rfl) rfl (by decide) w2.heap.size w2 B3 (Nat.le_refl _) O3 (by simp [Act.eval, Act.put]) A (ds.length - (i + 1)) (cap - (i + 1)) (by simp [Act.eval, Act.put, hA]) (flat Dv.cells (ds.drop (i + 1))) HL2.out (Lib.hid (HN2.out _ (N.out.trans (B3.out.mono (by omega))))) (dv_cells_one _) (by omega) (by omega) (by have := B3.out.size; omega) ?_; intro p4 cap4 w4 hc4 O4 B4 K4; have X4 := Lib.hid (keepb HX.out B4.out); have c_X4 := cell_of_block X4.out; have f_X4 := frozen_of_block X4.out)))
  all_goals
    have A44 := Lib.hid (keepb A4.out B4.out)
    have A74 := Lib.hid (keepb A7.out B4.out)
    clear c_A4 f_A4 c_A7 f_A7 c_HX f_HX
    have c_A44 := cell_of_block A44.out
    have f_A44 := frozen_of_block A44.out
    have c_A74 := cell_of_block A74.out
    have f_A74 := frozen_of_block A74.out
    have hz4 : w2.heap.size ≤ w4.heap.size := B4.out.size
    have n4 : nb ≠ w.heap.size := by omega
    have n5 : nb ≠ w.heap.size + 1 := by omega
    have HW := Lib.hid (N.out.trans (B4.out.mono (by omega)))
    have hp4 := Lib.hid (show ∀ b, (Value.slice p4 (i + (ds.length - (i + 1))) cap4).ownBlock = some b → w2.heap.size ≤ b from O4.out.block)
    go_wp2_with fail
    refine bodyPost_ret (v := .tuple #[.agg #[.int .i64 d.fr, .int .i64 d.tt, .slice d.p d.bs.length d.cap], .bool true]) (by simp [results, Try.results13, go_sem, c_X4, c_A44, c_A74, n4, n5, n4.symm, n5.symm]) rfl ⟨d, i, p4, cap4, HI.out, by rw [HD.out]; exact List.getElem?_eq_getElem hil, rfl, Lib.hid ?_, Lib.hid (fun b hb => by rw [HEl.out] at hb; have := hp4.out b hb; omega), Lib.hid ?_, Lib.hid ?_⟩
    · have hbl : ∀ e ∈ ds, ∀ b, e.sl.ownBlock = some b → b < w.heap.size := fun e he => Own.lt (HN.out.bts e he)
      have hbn : ∀ e ∈ ds, ∀ b, e.sl.ownBlock = some b → b ≠ nb := fun e he b hb hn => by subst hn; exact own_box (HN.out.bts e he) HN.out.box (by decide) hb
      refine ⟨by rw [HEl.out]; simp [World.setCell, Array.getElem?_modify, X4.out, n4, n5, n4.symm, n5.symm], ?_, fun e he => ?_⟩
      · rw [HEl.out, HE.out]
        exact Own.mod (Own.mono O4.out (by omega)) (S := fun b => b = nb ∨ b = w.heap.size ∨ b = w.heap.size + 1) (by repeat (first | (with_reducible exact Mod.refl _ _) | (with_reducible refine Mod.set ?_ _ _ (by first | exact Or.inl rfl | exact Or.inl (Or.inl rfl) | exact Or.inl (Or.inr rfl) | exact Or.inl (Or.inr (Or.inl rfl)) | exact Or.inl (Or.inr (Or.inr rfl)) | (refine Or.inr ?_; first | omega | (simp; done) | (simp; omega)))) | (with_reducible refine Mod.alloc ?_ _) | (with_reducible refine Mod.drew ?_) | (with_reducible refine Mod.drewN ?_ _))) (fun b hb h => by have := hp4.out b hb; rcases h with h | h | h <;> omega)
      · have he' : e ∈ ds := List.mem_of_mem_eraseIdx he
        exact Own.mod (Own.keep (HN.out.bts e he') HW.out) (S := fun b => b = nb ∨ b = w.heap.size ∨ b = w.heap.size + 1) (by repeat (first | (with_reducible exact Mod.refl _ _) | (with_reducible refine Mod.set ?_ _ _ (by first | exact Or.inl rfl | exact Or.inl (Or.inl rfl) | exact Or.inl (Or.inr rfl) | exact Or.inl (Or.inr (Or.inl rfl)) | exact Or.inl (Or.inr (Or.inr rfl)) | (refine Or.inr ?_; first | omega | (simp; done) | (simp; omega)))) | (with_reducible refine Mod.alloc ?_ _) | (with_reducible refine Mod.drew ?_) | (with_reducible refine Mod.drewN ?_ _))) (fun b hbb h => by have := hbl e he' b hbb; have := hbn e he' b hbb; rcases h with h | h | h <;> omega)
    · have hm : d ∈ ds := by rw [HD.out]; simp
      exact Own.mod (Own.keep (HN.out.bts d hm) HW.out) (S := fun b => b = nb ∨ b = w.heap.size ∨ b = w.heap.size + 1) (by repeat (first | (with_reducible exact Mod.refl _ _) | (with_reducible refine Mod.set ?_ _ _ (by first | exact Or.inl rfl | exact Or.inl (Or.inl rfl) | exact Or.inl (Or.inr rfl) | exact Or.inl (Or.inr (Or.inl rfl)) | exact Or.inl (Or.inr (Or.inr rfl)) | (refine Or.inr ?_; first | omega | (simp; done) | (simp; omega)))) | (with_reducible refine Mod.alloc ?_ _) | (with_reducible refine Mod.drew ?_) | (with_reducible refine Mod.drewN ?_ _))) (fun b hbb h => by
        have h1 := Own.lt (HN.out.bts d hm) b hbb
        rcases h with h | h | h
        · subst h; exact own_box (HN.out.bts d hm) HN.out.box (by decide) hbb
        · omega
        · omega)
    · have M := Mod.of_below (fun b => b = nb) HW.out
      exact (by repeat (first | (with_reducible exact M) | (with_reducible refine Mod.set ?_ _ _ (by first | exact Or.inl rfl | exact Or.inl (Or.inl rfl) | exact Or.inl (Or.inr rfl) | exact Or.inl (Or.inr (Or.inl rfl)) | exact Or.inl (Or.inr (Or.inr rfl)) | (refine Or.inr ?_; first | omega | (simp; done) | (simp; omega)))) | (with_reducible refine Mod.alloc ?_ _) | (with_reducible refine Mod.drew ?_) | (with_reducible refine Mod.drewN ?_ _)))

theorem qlose_none (B nb : Nat) (p : Option Addr) (cap : Nat) (g k : Int) (w : World) (h : NetM B nb p cap [] g w) (hk : -9223372036854775808 ≤ k ∧ k ≤ 9223372036854775807) :
    Calls Try.prog 16 #[.pointer (some ⟨nb, 0, none⟩), .int .i64 k] w fun e w' => e = .returned (.bool false) ∧ Hid (Below w.heap.size w w') := by
  have HN := Lib.hid h
  clear h
  go_enter Try.func16, Try.ntmps16
  go_wp2_with fail
  refine (qtake_none B nb p cap g k _ HN.out hk).mono ?_
  rintro e w1 ⟨rfl, B1⟩
  go_wp2_with fail
  go_ret
  exact ⟨rfl, Lib.hid (by have hbsz := Below.size (B1.out); repeat (first | (with_reducible exact B1.out) | (with_reducible refine bel_set (by first | omega | (simp; done) | (simp; omega)) ?_) | (with_reducible refine bel_alloc (by first | omega | (simp; done) | (simp; omega)) ?_) | (with_reducible refine bel_drew ?_) | (with_reducible refine bel_drewN ?_ _)))⟩

set_option maxHeartbeats 1000000 in
theorem qlose_some (B nb : Nat) (p : Option Addr) (cap : Nat) (ds : List Dv) (g k : Int) (w : World) (h : NetM B nb p cap ds g w) (hB : B ≤ w.heap.size) (hpos : 0 < ds.length) (hl : ds.length ≤ 1048576) (hk : -9223372036854775808 ≤ k ∧ k ≤ 9223372036854775807) (hg : 0 ≤ g ∧ g ≤ 1099511627776) :
    Calls Try.prog 16 #[.pointer (some ⟨nb, 0, none⟩), .int .i64 k] w fun e w' => ∃ (i : Nat) (p' : Option Addr) (cap' : Nat), i = ntPlace k ds.length ∧ e = .returned (.bool true) ∧
      Hid (NetM B nb p' cap' (ds.eraseIdx i) (g + 1) w') ∧ Hid (∀ b, (Value.slice p' (ds.eraseIdx i).length cap').ownBlock = some b → w.heap.size ≤ b) ∧ Hid (Mod (fun b => b = nb) w w') := by
  have HN := Lib.hid h
  clear h
  obtain ⟨g0, g1⟩ := hg
  go_enter Try.func16, Try.ntmps16
  go_wp2_with fail
  refine (qtake_some B nb p cap ds g k _ HN.out hB hpos hl hk).mono ?_
  rintro e w1 ⟨d, i, p', cap', hi, hd, rfl, N1, P1, OD, M1⟩
  have HI := Lib.hid hi
  have X1 := Lib.hid N1.out.box
  have z1 := block_lt X1.out
  clear hi hd
  go_upto_region 3 with fail
  refine gen_wp (fun w2 => Hid (w2.heap[w1.heap.size]? = some (.cells #[.int .i64 d.fr, .int .i64 d.tt, .slice d.p d.bs.length d.cap] 33)) ∧ Hid (Below w1.heap.size w1 w2) ∧ True) ⟨Lib.hid (by first | (simp [World.setCell, Array.getElem?_modify, X1]; done) | (simp [World.setCell, Array.getElem?_modify, X1]; omega) | ((repeat (first | (with_reducible exact heap_new _ _ _ (by first | rfl | (simp; done))) | (with_reducible refine keepa ?_ _) | (simp [World.setCell, Array.getElem?_modify, X1]; done))); done)), Lib.hid (by repeat (first | (with_reducible exact Below.refl _ _) | (with_reducible refine bel_set (by first | omega | (simp; done) | (simp; omega)) ?_) | (with_reducible refine bel_alloc (by first | omega | (simp; done) | (simp; omega)) ?_) | (with_reducible refine bel_drew ?_) | (with_reducible refine bel_drewN ?_ _))), trivial⟩ ?_
  rintro w2 ⟨A5, N, -⟩
  have c_A5 := cell_of_block A5.out
  have f_A5 := frozen_of_block A5.out
  replace X1 := Lib.hid (keepb X1.out N.out)
  replace c_X1 := cell_of_block X1.out
  replace f_X1 := frozen_of_block X1.out
  go_wp2_with fail
  go_ret
  have N2 := N1.out.keep N.out
  have hbn : ∀ e ∈ ds.eraseIdx i, ∀ b, e.sl.ownBlock = some b → b ≠ nb := fun e he b hb hn => by subst hn; exact own_box (N2.bts e he) N2.box (by decide) hb
  refine ⟨i, p', cap', HI.out, rfl, Lib.hid ⟨by simp [World.setCell, Array.getElem?_modify, X1.out], ?_, fun e he => ?_⟩, P1, Lib.hid ?_⟩
  · exact N2.row.mod (S := fun b => b = nb) (by repeat (first | (with_reducible exact Mod.refl _ _) | (with_reducible refine Mod.set ?_ _ _ (by first | exact Or.inl rfl | exact Or.inl (Or.inl rfl) | exact Or.inl (Or.inr rfl) | exact Or.inl (Or.inr (Or.inl rfl)) | exact Or.inl (Or.inr (Or.inr rfl)) | (refine Or.inr ?_; first | omega | (simp; done) | (simp; omega)))) | (with_reducible refine Mod.alloc ?_ _) | (with_reducible refine Mod.drew ?_) | (with_reducible refine Mod.drewN ?_ _))) (fun b hb h => by subst h; exact own_box N2.row N2.box (by decide) hb)
  · exact Own.mod (N2.bts e he) (S := fun b => b = nb) (by repeat (first | (with_reducible exact Mod.refl _ _) | (with_reducible refine Mod.set ?_ _ _ (by first | exact Or.inl rfl | exact Or.inl (Or.inl rfl) | exact Or.inl (Or.inr rfl) | exact Or.inl (Or.inr (Or.inl rfl)) | exact Or.inl (Or.inr (Or.inr rfl)) | (refine Or.inr ?_; first | omega | (simp; done) | (simp; omega)))) | (with_reducible refine Mod.alloc ?_ _) | (with_reducible refine Mod.drew ?_) | (with_reducible refine Mod.drewN ?_ _))) (fun b hbb h => hbn e he b hbb h)
  · have M := M1.out.trans (Mod.of_below (fun b => b = nb) N.out)
    exact (by repeat (first | (with_reducible exact M) | (with_reducible refine Mod.set ?_ _ _ (by first | exact Or.inl rfl | exact Or.inl (Or.inl rfl) | exact Or.inl (Or.inr rfl) | exact Or.inl (Or.inr (Or.inl rfl)) | exact Or.inl (Or.inr (Or.inr rfl)) | (refine Or.inr ?_; first | omega | (simp; done) | (simp; omega)))) | (with_reducible refine Mod.alloc ?_ _) | (with_reducible refine Mod.drew ?_) | (with_reducible refine Mod.drewN ?_ _)))
end Go.Proofs.Ytkgngfjlmkclcaa.K

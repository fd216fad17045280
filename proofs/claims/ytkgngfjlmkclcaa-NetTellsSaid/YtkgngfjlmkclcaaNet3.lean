/-
  CONTRACTS of net's Take and Lose.
-/
import Derived.Test.YtkgngfjlmkclcaaNet2
set_option linter.unusedVariables false
set_option linter.unusedSimpArgs false
namespace Go.Proofs.Ytkgngfjlmkclcaa.K
open Go Go.RowKit Nj

/-- a net of package net -/
abbrev NetN (B nb : Nat) (p : Option Addr) (cap : Nat) (ds : List Dv) (g : Int) (w : World) : Prop := NetS 49 33 5 B nb p cap ds g w

theorem netn_apart {B nb : Nat} {p : Option Addr} {cap : Nat} {ds : List Dv} {g : Int} {w : World} (h : NetN B nb p cap ds g w) : ∀ gb o, p = some ⟨gb, o, none⟩ → gb ≠ nb := by
  intro gb o e
  have := own_box h.row h.box (by decide)
  subst e
  intro e
  subst e
  exact this rfl

set_option maxHeartbeats 1000000 in
theorem ntake_none (B nb : Nat) (p : Option Addr) (cap : Nat) (g k : Int) (w : World) (h : NetN B nb p cap [] g w) (hk : -9223372036854775808 ≤ k ∧ k ≤ 9223372036854775807) :
    Calls Try.prog 12 #[.pointer (some ⟨nb, 0, none⟩), .int .i64 k] w fun e w' => e = .returned (.tuple #[.agg #[.int .i64 0, .int .i64 0, .slice none 0 0], .bool false]) ∧ Hid (Below w.heap.size w w') := by
  have HX := Lib.hid h.box
  clear h
  go_enter Try.func12, Try.ntmps12
  go_wp2_with fail
  refine (nplace_any nb p 0 cap g k _ (keepa HX.out _) (by decide) hk).mono ?_
  rintro e w1 ⟨he, rfl⟩
  simp only [if_true] at he
  subst he
  go_wp2_with fail
  exact bodyPost_ret (v := .tuple #[.agg #[.int .i64 0, .int .i64 0, .slice none 0 0], .bool false]) (by simp [results, Try.results12, go_sem]) rfl ⟨rfl, Lib.hid (by repeat (first | (with_reducible exact Below.refl _ _) | (with_reducible refine bel_set (by first | omega | (simp; done) | (simp; omega)) ?_) | (with_reducible refine bel_alloc (by first | omega | (simp; done) | (simp; omega)) ?_) | (with_reducible refine bel_drew ?_) | (with_reducible refine bel_drewN ?_ _)))⟩

set_option maxHeartbeats 2000000 in
theorem ntake_some (B nb : Nat) (p : Option Addr) (cap : Nat) (ds : List Dv) (g k : Int) (w : World) (h : NetN B nb p cap ds g w) (hpos : 0 < ds.length) (hl : ds.length ≤ 1048576) (hk : -9223372036854775808 ≤ k ∧ k ≤ 9223372036854775807) :
    Calls Try.prog 12 #[.pointer (some ⟨nb, 0, none⟩), .int .i64 k] w fun e w' => ∃ (d : Dv) (i : Nat), i = ntPlace k ds.length ∧ ds[i]? = some d ∧ e = .returned (.tuple #[.agg #[.int .i64 d.fr, .int .i64 d.tt, .slice d.p d.bs.length d.cap], .bool true]) ∧
      Hid (NetN B nb p cap (ds.eraseIdx i) g w') ∧ Hid (OwnB 5 B w' d) ∧ Hid (Mod (fun b => (Value.slice p ds.length cap).ownBlock = some b ∨ b = nb) w w') := by
  have HN := Lib.hid h
  have HX := Lib.hid h.box
  have HO := Lib.hid h.row
  obtain ⟨gb, rfl⟩ : ∃ gb, p = some ⟨gb, 0, none⟩ := by
    rcases own_head HO.out with e | ⟨gb, e⟩
    · subst e
      obtain ⟨b, o, e, _⟩ := HO.out.sl.open hpos
      cases e
    · exact ⟨gb, e⟩
  have hgn : gb ≠ nb := netn_apart HN.out gb 0 rfl
  have hgl : gb < w.heap.size := Own.lt HO.out gb rfl
  have hnl : nb < w.heap.size := block_lt HX.out
  obtain ⟨i, hi⟩ : ∃ i, i = ntPlace k ds.length := ⟨_, rfl⟩
  have hil : i < ds.length := by rw [hi]; exact ntPlace_lt k hpos
  obtain ⟨d, hd⟩ : ∃ d, d = ds[i] := ⟨_, rfl⟩
  have HI := Lib.hid hi
  have HD := Lib.hid hd
  have hcap : ds.length ≤ cap := by obtain ⟨_, _, e, h⟩ := HO.out.shape; cases e; exact h
  have HRow := Lib.hid (fun (W : World) (B : Below w.heap.size w W) => dsl_row (HO.out.sl.keep (by decide) B) i hil d hd)
  have t1 : (0 : Int) ≤ (i : Int) := by omega
  have t2 : (i : Int) < (ds.length : Int) := by omega
  have hpl : Hid (¬ ds.length = 0) := Lib.hid (by omega)
  clear h hi hd hpos
  go_enter Try.func12, Try.ntmps12
  go_wp2_with fail
  refine (nplace_any nb _ ds.length cap g k _ (keepa HX.out _) hl hk).mono ?_
  rintro e w1 ⟨he, rfl⟩
  simp only [hpl.out, if_false, ← HI.out] at he
  subst he
  have c_X := cell_of_block (keepa HX.out (.cells #[.int .i64 0, .int .i64 0, .slice none 0 0] 33))
  obtain ⟨r0, r1, r2⟩ := HRow.out (w.alloc (.cells #[.int .i64 0, .int .i64 0, .slice none 0 0] 33)) (below_alloc _ _)
  simp only [Nat.zero_add] at r0 r1 r2
  go_upto_region 5 with fail
  refine gen_wp (fun w2 => Hid (Below w.heap.size w w2) ∧ Hid (w2.heap[w.heap.size]? = some (.cells #[.int .i64 0, .int .i64 0, .slice none 0 0] 33)) ∧ Hid (w2.heap[(w.heap.size + 1)]? = some (.cells #[.int .i64 d.fr, .int .i64 d.tt, .slice d.p d.bs.length d.cap] 33)) ∧ True) ⟨Lib.hid (by repeat (first | (with_reducible exact Below.refl _ _) | (with_reducible refine bel_set (by first | omega | (simp; done) | (simp; omega)) ?_) | (with_reducible refine bel_alloc (by first | omega | (simp; done) | (simp; omega)) ?_) | (with_reducible refine bel_drew ?_) | (with_reducible refine bel_drewN ?_ _))), Lib.hid (by first | (simp [World.setCell, Array.getElem?_modify]; done) | (simp [World.setCell, Array.getElem?_modify]; omega) | ((repeat (first | (with_reducible exact heap_new _ _ _ (by first | rfl | (simp; done))) | (with_reducible refine keepa ?_ _) | (simp [World.setCell, Array.getElem?_modify]; done))); done)), Lib.hid (by first | (simp [World.setCell, Array.getElem?_modify]; done) | (simp [World.setCell, Array.getElem?_modify]; omega) | ((repeat (first | (with_reducible exact heap_new _ _ _ (by first | rfl | (simp; done))) | (with_reducible refine keepa ?_ _) | (simp [World.setCell, Array.getElem?_modify]; done))); done)), trivial⟩ ?_
  clear c_X r0 r1 r2
  rintro w2 ⟨N, A4, A7, -⟩
  have c_A4 := cell_of_block A4.out
  have f_A4 := frozen_of_block A4.out
  have c_A7 := cell_of_block A7.out
  have f_A7 := frozen_of_block A7.out
  replace HX := Lib.hid (keepb HX.out N.out)
  replace c_HX := cell_of_block HX.out
  replace f_HX := frozen_of_block HX.out
  have hz2 : w.heap.size + 1 < w2.heap.size := block_lt A7.out
  go_wp2_with fail
  refine (ndelete_any B gb cap i ds _ (HO.out.keep N.out) hil hl).mono ?_
  rintro e w3 ⟨rfl, O3, M3⟩
  have n1 : ¬ w.heap.size = gb := by omega
  have n2 : ¬ w.heap.size + 1 = gb := by omega
  have n3 : ¬ nb = gb := fun e => hgn e.symm
  have n4 : nb ≠ w.heap.size := by omega
  have n5 : nb ≠ w.heap.size + 1 := by omega
  have X3 := Lib.hid (M3.out.keep HX.out n3)
  have A43 := Lib.hid (M3.out.keep A4.out n1)
  have A73 := Lib.hid (M3.out.keep A7.out n2)
  clear c_A4 f_A4 c_A7 f_A7 c_HX f_HX
  have c_X3 := cell_of_block X3.out
  have f_X3 := frozen_of_block X3.out
  have c_A43 := cell_of_block A43.out
  have f_A43 := frozen_of_block A43.out
  have c_A73 := cell_of_block A73.out
  have f_A73 := frozen_of_block A73.out
  go_wp2_with fail
  refine bodyPost_ret (v := .tuple #[.agg #[.int .i64 d.fr, .int .i64 d.tt, .slice d.p d.bs.length d.cap], .bool true]) (by simp [results, Try.results12, go_sem, c_X3, c_A43, c_A73, n4, n5, n4.symm, n5.symm]) rfl ⟨d, i, HI.out, by rw [HD.out]; exact List.getElem?_eq_getElem hil, rfl, Lib.hid ?_, Lib.hid ?_, Lib.hid ?_⟩
  · have hb : ∀ e ∈ ds, OwnB 5 B w3 e := fun e he => (Own.keep (HN.out.bts e he) N.out).mod M3.out (fun b hb e => by subst e; exact own_apart (HO.out.keep N.out) (Own.keep (HN.out.bts _ he) N.out) (by decide) b rfl hb)
    have hbl : ∀ e ∈ ds, ∀ b, e.sl.ownBlock = some b → b < w.heap.size := fun e he => Own.lt (HN.out.bts e he)
    have hbn : ∀ e ∈ ds, ∀ b, e.sl.ownBlock = some b → b ≠ nb := fun e he b hb hn => by subst hn; exact own_box (HN.out.bts e he) HN.out.box (by decide) hb
    refine ⟨by simp [World.setCell, Array.getElem?_modify, X3.out, n4, n5, n4.symm, n5.symm], ?_, fun e he => ?_⟩
    · exact O3.out.mod (S := fun b => b = nb ∨ b = w.heap.size ∨ b = w.heap.size + 1) (by repeat (first | (with_reducible exact Mod.refl _ _) | (with_reducible refine Mod.set ?_ _ _ (by first | exact Or.inl rfl | exact Or.inl (Or.inl rfl) | exact Or.inl (Or.inr rfl) | exact Or.inl (Or.inr (Or.inl rfl)) | exact Or.inl (Or.inr (Or.inr rfl)) | (refine Or.inr ?_; first | omega | (simp; done) | (simp; omega)))) | (with_reducible refine Mod.alloc ?_ _) | (with_reducible refine Mod.drew ?_) | (with_reducible refine Mod.drewN ?_ _))) (fun b hb h => by have e : gb = b := (by simpa [Value.ownBlock] using hb); exact h.elim (fun h => hgn (e.trans h)) (fun h => h.elim (fun h => by omega) (fun h => by omega)))
    · have he' : e ∈ ds := List.mem_of_mem_eraseIdx he
      exact Own.mod (hb e he') (S := fun b => b = nb ∨ b = w.heap.size ∨ b = w.heap.size + 1) (by repeat (first | (with_reducible exact Mod.refl _ _) | (with_reducible refine Mod.set ?_ _ _ (by first | exact Or.inl rfl | exact Or.inl (Or.inl rfl) | exact Or.inl (Or.inr rfl) | exact Or.inl (Or.inr (Or.inl rfl)) | exact Or.inl (Or.inr (Or.inr rfl)) | (refine Or.inr ?_; first | omega | (simp; done) | (simp; omega)))) | (with_reducible refine Mod.alloc ?_ _) | (with_reducible refine Mod.drew ?_) | (with_reducible refine Mod.drewN ?_ _))) (fun b hbb h => by have := hbl e he' b hbb; have := hbn e he' b hbb; rcases h with h | h | h <;> omega)
  · have hm : d ∈ ds := by rw [HD.out]; simp
    have hb := (Own.keep (HN.out.bts d hm) N.out).mod M3.out (fun b hb e => by subst e; exact own_apart (HO.out.keep N.out) (Own.keep (HN.out.bts _ hm) N.out) (by decide) b rfl hb)
    exact Own.mod hb (S := fun b => b = nb ∨ b = w.heap.size ∨ b = w.heap.size + 1) (by repeat (first | (with_reducible exact Mod.refl _ _) | (with_reducible refine Mod.set ?_ _ _ (by first | exact Or.inl rfl | exact Or.inl (Or.inl rfl) | exact Or.inl (Or.inr rfl) | exact Or.inl (Or.inr (Or.inl rfl)) | exact Or.inl (Or.inr (Or.inr rfl)) | (refine Or.inr ?_; first | omega | (simp; done) | (simp; omega)))) | (with_reducible refine Mod.alloc ?_ _) | (with_reducible refine Mod.drew ?_) | (with_reducible refine Mod.drewN ?_ _))) (fun b hbb h => by
      have h1 := Own.lt (HN.out.bts d hm) b hbb
      rcases h with h | h | h
      · subst h; exact own_box (HN.out.bts d hm) HN.out.box (by decide) hbb
      · omega
      · omega)
  · have M := (Mod.of_below (fun b => (Value.slice (some ⟨gb, 0, none⟩) ds.length cap).ownBlock = some b ∨ b = nb) N.out).trans (M3.out.mono (fun b e => Or.inl (by subst e; rfl)))
    exact (by repeat (first | (with_reducible exact M) | (with_reducible refine Mod.set ?_ _ _ (by first | exact Or.inl rfl | exact Or.inl (Or.inl rfl) | exact Or.inl (Or.inr rfl) | exact Or.inl (Or.inr (Or.inl rfl)) | exact Or.inl (Or.inr (Or.inr rfl)) | (refine Or.inr ?_; first | omega | (simp; done) | (simp; omega)))) | (with_reducible refine Mod.alloc ?_ _) | (with_reducible refine Mod.drew ?_) | (with_reducible refine Mod.drewN ?_ _)))

/-- what Lose leaves of a net -/
theorem nlose_none (B nb : Nat) (p : Option Addr) (cap : Nat) (g k : Int) (w : World) (h : NetN B nb p cap [] g w) (hk : -9223372036854775808 ≤ k ∧ k ≤ 9223372036854775807) :
    Calls Try.prog 15 #[.pointer (some ⟨nb, 0, none⟩), .int .i64 k] w fun e w' => e = .returned (.bool false) ∧ Hid (Below w.heap.size w w') := by
  have HN := Lib.hid h
  clear h
  go_enter Try.func15, Try.ntmps15
  go_wp2_with fail
  refine (ntake_none B nb p cap g k _ HN.out hk).mono ?_
  rintro e w1 ⟨rfl, B1⟩
  go_wp2_with fail
  go_ret
  exact ⟨rfl, Lib.hid (by have hbsz := Below.size (B1.out); repeat (first | (with_reducible exact B1.out) | (with_reducible refine bel_set (by first | omega | (simp; done) | (simp; omega)) ?_) | (with_reducible refine bel_alloc (by first | omega | (simp; done) | (simp; omega)) ?_) | (with_reducible refine bel_drew ?_) | (with_reducible refine bel_drewN ?_ _)))⟩

set_option maxHeartbeats 1000000 in
theorem nlose_some (B nb : Nat) (p : Option Addr) (cap : Nat) (ds : List Dv) (g k : Int) (w : World) (h : NetN B nb p cap ds g w) (hpos : 0 < ds.length) (hl : ds.length ≤ 1048576) (hk : -9223372036854775808 ≤ k ∧ k ≤ 9223372036854775807) (hg : 0 ≤ g ∧ g ≤ 1099511627776) :
    Calls Try.prog 15 #[.pointer (some ⟨nb, 0, none⟩), .int .i64 k] w fun e w' => ∃ (i : Nat), i = ntPlace k ds.length ∧ e = .returned (.bool true) ∧
      Hid (NetN B nb p cap (ds.eraseIdx i) (g + 1) w') ∧ Hid (Mod (fun b => (Value.slice p ds.length cap).ownBlock = some b ∨ b = nb) w w') := by
  have HN := Lib.hid h
  clear h
  obtain ⟨g0, g1⟩ := hg
  go_enter Try.func15, Try.ntmps15
  go_wp2_with fail
  refine (ntake_some B nb p cap ds g k _ HN.out hpos hl hk).mono ?_
  rintro e w1 ⟨d, i, hi, hd, rfl, N1, OD, M1⟩
  have HI := Lib.hid hi
  have X1 := Lib.hid N1.out.box
  have z1 := block_lt X1.out
  clear hi hd
  go_upto_region 3 with fail
  refine gen_wp (fun w2 => Hid (w2.heap[w1.heap.size]? = some (.cells #[.int .i64 d.fr, .int .i64 d.tt, .slice d.p d.bs.length d.cap] 33)) ∧ Hid (Below w1.heap.size w1 w2) ∧ True) ⟨Lib.hid (by first | (simp [World.setCell, Array.getElem?_modify, X1]; done) | (simp [World.setCell, Array.getElem?_modify, X1]; omega) | ((repeat (first | (with_reducible exact heap_new _ _ _ (by first | rfl | (simp; done))) | (with_reducible refine keepa ?_ _) | (simp [World.setCell, Array.getElem?_modify, X1]; done))); done)), Lib.hid (by repeat (first | (with_reducible exact Below.refl _ _) | (with_reducible refine bel_set (by first | omega | (simp; done) | (simp; omega)) ?_) | (with_reducible refine bel_alloc (by first | omega | (simp; done) | (simp; omega)) ?_) | (with_reducible refine bel_drew ?_) | (with_reducible refine bel_drewN ?_ _))), trivial⟩ ?_
  rintro w2 ⟨A5, N, -⟩
  have c_A5 := cell_of_block A5.out
  have f_A5 := frozen_of_block A5.out
  replace X1 := Lib.hid (keepb X1.out N.out)
  replace c_X1 := cell_of_block X1.out
  replace f_X1 := frozen_of_block X1.out
  go_wp2_with fail
  go_ret
  have N2 := N1.out.keep N.out
  have hbn : ∀ e ∈ ds.eraseIdx i, ∀ b, e.sl.ownBlock = some b → b ≠ nb := fun e he b hb hn => by subst hn; exact own_box (N2.bts e he) N2.box (by decide) hb
  refine ⟨i, HI.out, rfl, Lib.hid ⟨by simp [World.setCell, Array.getElem?_modify, X1.out], ?_, fun e he => ?_⟩, Lib.hid ?_⟩
  · exact N2.row.mod (S := fun b => b = nb) (by repeat (first | (with_reducible exact Mod.refl _ _) | (with_reducible refine Mod.set ?_ _ _ (by first | exact Or.inl rfl | exact Or.inl (Or.inl rfl) | exact Or.inl (Or.inr rfl) | exact Or.inl (Or.inr (Or.inl rfl)) | exact Or.inl (Or.inr (Or.inr rfl)) | (refine Or.inr ?_; first | omega | (simp; done) | (simp; omega)))) | (with_reducible refine Mod.alloc ?_ _) | (with_reducible refine Mod.drew ?_) | (with_reducible refine Mod.drewN ?_ _))) (fun b hb h => by subst h; exact own_box N2.row N2.box (by decide) hb)
  · exact Own.mod (N2.bts e he) (S := fun b => b = nb) (by repeat (first | (with_reducible exact Mod.refl _ _) | (with_reducible refine Mod.set ?_ _ _ (by first | exact Or.inl rfl | exact Or.inl (Or.inl rfl) | exact Or.inl (Or.inr rfl) | exact Or.inl (Or.inr (Or.inl rfl)) | exact Or.inl (Or.inr (Or.inr rfl)) | (refine Or.inr ?_; first | omega | (simp; done) | (simp; omega)))) | (with_reducible refine Mod.alloc ?_ _) | (with_reducible refine Mod.drew ?_) | (with_reducible refine Mod.drewN ?_ _))) (fun b hbb h => hbn e he b hbb h)
  · have M := M1.out.trans (Mod.of_below (fun b => (Value.slice p ds.length cap).ownBlock = some b ∨ b = nb) N.out)
    exact (by repeat (first | (with_reducible exact M) | (with_reducible refine Mod.set ?_ _ _ (by first | exact Or.inl rfl | exact Or.inl (Or.inl rfl) | exact Or.inl (Or.inr rfl) | exact Or.inl (Or.inr (Or.inl rfl)) | exact Or.inl (Or.inr (Or.inr rfl)) | (refine Or.inr ?_; first | omega | (simp; done) | (simp; omega)))) | (with_reducible refine Mod.alloc ?_ _) | (with_reducible refine Mod.drew ?_) | (with_reducible refine Mod.drewN ?_ _)))
end Go.Proofs.Ytkgngfjlmkclcaa.K

/-
  CONTRACT of nightjarlaw23.small.
-/
import Derived.Test.YtkgngfjlmkclcaaNetWrap
import Derived.Lib.SlBytesConst
set_option linter.unusedVariables false
set_option linter.unusedSimpArgs false
namespace Nj
open Go Go.RowKit
/-- one byte, in a block that bears the mark of a constant -/
theorem bts_const {w : World} {g : Nat} {x : Int} {T : TypeId} {f : Nat × Nat} (h : w.heap[g]? = some (.cells #[.int .u8 x] T f)) (fr tt : Int) : Bts w ⟨fr, tt, some ⟨g, 0, none⟩, 1, [x]⟩ := by
  refine ⟨by simp, by simp [u8s], _, _, rfl, by simp, fun _ => ⟨g, 0, rfl, fun i hi => ?_⟩⟩
  have : i = 0 := by simp [u8s] at hi; omega
  subst this
  simp [World.cell?, h, u8s]
end Nj
namespace Go.Proofs.Ytkgngfjlmkclcaa.K
open Go Go.RowKit Nj

theorem alld_dgs {B : Nat} {w : World} {v : Value} {ds : List Dv} (h : AllD B w v ds) : Dgs w v ds := ⟨h.1.sl, fun d hd => OwnB.bts (h.2 d hd)⟩
theorem lit_dgs {W : World} {g : Nat} (x : Dv) (hb : Bts W x) (h : W.heap[g]? = some (.cells #[.int .i64 x.fr, .int .i64 x.tt, .slice x.p x.bs.length x.cap] 33)) : Dgs W (.slice (some ⟨g, 0, none⟩) 1 1) [x] := by
  refine ⟨⟨by simp, by simp [flat, Dv.cells], _, _, rfl, by simp, fun _ => ⟨g, 0, rfl, fun i hi => ?_⟩⟩, fun d hd => by simp only [List.mem_singleton] at hd; subst hd; exact hb⟩
  have hi3 : i < 3 := by simpa [flat, Dv.cells] using hi
  rw [cell_of_block h]
  match i, hi3 with
  | 0, _ => rfl
  | 1, _ => rfl
  | 2, _ => rfl

set_option maxHeartbeats 8000000 in
theorem small23_any (w : World) : Calls Try.prog 7 #[] w fun e w' => e = .returned (.bool true) ∧ Hid (Below w.heap.size w w') := by
  have kc := fun (w : World) (C : Array Value) (n c : Nat) => Lib.run_convert_bytes_const (P := Try.prog) w 31 5 C n c Try.underlying31 Try.underlying5
  go_enter Try.func7, Try.ntmps7
  go_wp2_with fail
  refine (nnew_r _).mono ?_
  rintro e w1 ⟨rfl, N1, B1⟩
  have hzw : w.heap.size < w1.heap.size := netr_box (N1.out 0)
  go_upto_region 5 with fail
  refine gen_wp (fun w2 => Hid (w2.heap[w1.heap.size]? = some (.cells #[.int .u8 97] 5 (1, 2))) ∧ Hid (w2.heap[(w1.heap.size + 1)]? = some (.cells #[.int .i64 1, .int .i64 2, .slice (some ⟨w1.heap.size, 0, none⟩) 1 1] 33)) ∧ Hid (Below w1.heap.size w1 w2) ∧ Hid (w2.heap.size = w1.heap.size + 2) ∧ True) ⟨Lib.hid (keepa (heap_new w1 _ _ rfl) _), Lib.hid (by first | (simp [World.setCell, Array.getElem?_modify]; done) | (simp [World.setCell, Array.getElem?_modify]; omega) | ((repeat (first | (with_reducible exact heap_new _ _ _ (by first | rfl | (simp; done))) | (with_reducible refine keepa ?_ _) | (simp [World.setCell, Array.getElem?_modify]; done))); done)), Lib.hid (by repeat (first | (with_reducible exact Below.refl _ _) | (with_reducible refine bel_set (by first | omega | (simp; done) | (simp; omega)) ?_) | (with_reducible refine bel_alloc (by first | omega | (simp; done) | (simp; omega)) ?_) | (with_reducible refine bel_drew ?_) | (with_reducible refine bel_drewN ?_ _))), Lib.hid (by simp), trivial⟩ ?_
  rintro w2 ⟨G1, A2, N, SZ, -⟩
  have c_A2 := cell_of_block A2.out
  have f_A2 := frozen_of_block A2.out
  replace N1 := Lib.hid (fun B => netr_keep (N1.out B) N.out)
  have BA := Lib.hid (chain B1.out N.out)
  clear N
  have hz1 : w1.heap.size + 1 < w2.heap.size := block_lt A2.out
  go_upto_region 6 with fail
  refine gen_wp (fun w3 => Hid (w3.heap[w1.heap.size]? = some (.cells #[.int .u8 97] 5 (1, 2))) ∧ Hid (w3.heap[w1.heap.size + 1]? = some (.cells #[.int .i64 1, .int .i64 2, .slice (some ⟨w1.heap.size, 0, none⟩) 1 1] 33)) ∧ Hid (w3.heap[w2.heap.size]? = some (.cells #[.int .u8 98] 5 (1, 2))) ∧ Hid (w3.heap[(w2.heap.size + 1)]? = some (.cells #[.int .i64 2, .int .i64 3, .slice (some ⟨w2.heap.size, 0, none⟩) 1 1] 33)) ∧ Hid (Below w2.heap.size w2 w3) ∧ True) ⟨Lib.hid (keepa (keepa G1.out _) _), Lib.hid (keepa (keepa A2.out _) _), Lib.hid (keepa (heap_new w2 _ _ rfl) _), Lib.hid (by first | (simp [World.setCell, Array.getElem?_modify, A2.out]; done) | (simp [World.setCell, Array.getElem?_modify, A2.out]; omega) | ((repeat (first | (with_reducible exact A2.out) | (with_reducible exact heap_new _ _ _ (by first | rfl | (simp; done))) | (with_reducible refine keepa ?_ _) | (simp [World.setCell, Array.getElem?_modify, A2.out]; done))); done)), Lib.hid (by repeat (first | (with_reducible exact Below.refl _ _) | (with_reducible refine bel_set (by first | omega | (simp; done) | (simp; omega)) ?_) | (with_reducible refine bel_alloc (by first | omega | (simp; done) | (simp; omega)) ?_) | (with_reducible refine bel_drew ?_) | (with_reducible refine bel_drewN ?_ _))), trivial⟩ ?_
  clear c_A2 f_A2
  rintro w3 ⟨G1, A2, G3, A3, N, -⟩
  have c_A3 := cell_of_block A3.out
  have f_A3 := frozen_of_block A3.out
  replace N1 := Lib.hid (fun B => netr_keep (N1.out B) N.out)
  replace BA := Lib.hid (chain BA.out N.out)
  have hz3 : w2.heap.size + 1 < w3.heap.size := block_lt A3.out
  clear N SZ
  go_wp2_with fail
  refine (ntake_r w.heap.size w.heap.size _ _ ⟨[], 0⟩ 0 _ (N1.out w.heap.size) (by decide) (by decide)).mono ?_
  rintro e w4 (⟨-, rfl, B4⟩ | ⟨h, -⟩)
  case inr => simp at h
  go_upto_region 7 with fail
  refine gen_wp (fun w5 => Hid (Below w4.heap.size w4 w5) ∧ True) ⟨Lib.hid (show Below w4.heap.size w4 _ from (by repeat (first | (with_reducible exact Below.refl _ _) | (with_reducible refine bel_set (by first | omega | (simp; done) | (simp; omega)) ?_) | (with_reducible refine bel_alloc (by first | omega | (simp; done) | (simp; omega)) ?_) | (with_reducible refine bel_drew ?_) | (with_reducible refine bel_drewN ?_ _)))), trivial⟩ ?_
  clear c_A3 f_A3
  rintro w5 ⟨N5, -⟩
  have B5 := Lib.hid (chain B4.out N5.out)
  replace N1 := Lib.hid (fun B => netr_keep (N1.out B) B5.out)
  replace BA := Lib.hid (chain BA.out B5.out)
  replace G1 := Lib.hid (keepb G1.out B5.out)
  replace G3 := Lib.hid (keepb G3.out B5.out)
  replace A2 := Lib.hid (keepb A2.out B5.out)
  replace A3 := Lib.hid (keepb A3.out B5.out)
  have hz5 : w3.heap.size ≤ w5.heap.size := B5.out.size
  clear B4 N5 B5
  have c_A2 := cell_of_block A2.out
  have f_A2 := frozen_of_block A2.out
  have c_A3 := cell_of_block A3.out
  have f_A3 := frozen_of_block A3.out
  have HS5 := Lib.hid (show ∀ b, b < w3.heap.size → b ≠ w.heap.size → ¬ ((w3.heap.size ≤ b) ∨ b = w.heap.size) from fun b h1 h2 h => by omega)
  go_wp2_with fail
  refine (nsend_any w.heap.size w.heap.size _ _ ⟨[], 0⟩ _ [⟨1, 2, some ⟨w1.heap.size, 0, none⟩, 1, [97]⟩, ⟨2, 3, some ⟨w2.heap.size, 0, none⟩, 1, [98]⟩] _ (netr_keep (N1.out w.heap.size) (below_alloc _ _)) (by have := BA.out.size; simp; omega) (by decide) (fun W M => ?_) (by simp) (by simp) (by simp)).mono ?_
  · have hM : ∀ b, b ≠ w.heap.size → ¬ (False ∨ b = w.heap.size) := fun b h e => e.elim id h
    refine ⟨?_, fun x hx => ?_⟩
    · have h1 : Own 33 3 w5.heap.size (w5.alloc (.cells #[.int .i64 1, .int .i64 2, .slice (some ⟨w1.heap.size, 0, none⟩) 1 1, .int .i64 2, .int .i64 3, .slice (some ⟨w2.heap.size, 0, none⟩) 1 1] 33)) (.slice (some ⟨w5.heap.size, 0, none⟩) 2 2) 2 (flat Dv.cells [⟨1, 2, some ⟨w1.heap.size, 0, none⟩, 1, [97]⟩, ⟨2, 3, some ⟨w2.heap.size, 0, none⟩, 1, [98]⟩]) := own_lit _ _ _ _ _ _ _ rfl (Nat.le_refl _) (by decide) rfl _ (by simp [flat, Dv.cells])
      exact (h1.mod M (fun b hb => hM b (by have e1 : w5.heap.size = b := (by simpa [Value.ownBlock] using hb); omega))).sl
    · have k1 : W.heap[w1.heap.size]? = _ := M.keep (keepa G1.out _) (hM _ (by omega))
      have k3 : W.heap[w2.heap.size]? = _ := M.keep (keepa G3.out _) (hM _ (by omega))
      simp only [List.mem_cons, List.not_mem_nil, or_false] at hx
      rcases hx with rfl | rfl
      · exact bts_const k1 1 2
      · exact bts_const k3 2 3
  rintro e w6 ⟨rfl, N6, M6⟩
  have hz5' := BA.out.size
  have hz6 : w5.heap.size < w6.heap.size := by have := M6.out.size; simp at this; omega
  replace N6 := Lib.hid (show NetR w.heap.size w.heap.size (fun b => w3.heap.size ≤ b) (fun b => w3.heap.size ≤ b) ⟨[⟨1, 2, [97]⟩, ⟨2, 3, [98]⟩], 0⟩ w6 from netr_mono N6.out (fun b h => h.elim (fun h => h.elim) (fun h => by simp at h; omega)) (fun b h => h.elim (fun h => h.elim) (fun h => by simp at h; omega)))
  have M6' := Lib.hid ((Mod.of_below (fun b => w3.heap.size ≤ b ∨ b = w.heap.size) (below_alloc w5 _)).trans (M6.out.mono (fun b h => .inr (h.elim (fun h => h.elim) id))))
  clear M6
  replace G1 := Lib.hid (M6'.out.keep G1.out (HS5.out _ (by omega) (by omega)))
  replace G3 := Lib.hid (M6'.out.keep G3.out (HS5.out _ (by omega) (by omega)))
  replace A2 := Lib.hid (M6'.out.keep A2.out (HS5.out _ (by omega) (by omega)))
  replace A3 := Lib.hid (M6'.out.keep A3.out (HS5.out _ (by omega) (by omega)))
  replace BA := Lib.hid (M6'.out.below BA.out BA.out.size (fun b h => h.elim (fun h => by omega) (fun h => by omega)))
  clear c_A2 f_A2 c_A3 f_A3
  go_wp2_with fail
  refine (ntake_r w.heap.size w.heap.size _ _ _ (-1) _ N6.out (by decide) (by decide)).mono ?_
  rintro e w7 (⟨h, -⟩ | ⟨-, d, hd, rfl, N7, OD, TD, M7⟩)
  case inl => simp at h
  have hdc : d.con = ⟨2, 3, [98]⟩ := by
    have e : ntPlace (-1) 2 = 1 := by decide
    simp only [List.length_cons, List.length_nil, Nat.zero_add, Nat.reduceAdd, e] at hd
    simpa using hd.symm
  have HDc := Lib.hid hdc
  clear hd hdc
  replace N7 := Lib.hid (show NetR w.heap.size w.heap.size (fun b => (w3.heap.size ≤ b ∧ b < w7.heap.size) ∧ d.sl.ownBlock ≠ some b) (fun b => w3.heap.size ≤ b) ⟨[⟨1, 2, [97]⟩], 0⟩ w7 from by
    have N7' : NetR w.heap.size w.heap.size (fun b => w3.heap.size ≤ b) (fun b => w3.heap.size ≤ b) ⟨[⟨1, 2, [97]⟩], 0⟩ w7 := netr_mono N7.out (fun b h => h.elim id (fun h => by omega)) (fun b h => h)
    obtain ⟨p, cap, ds, h1, h2, h3, h4⟩ := N7'
    exact ⟨p, cap, ds, h1, h2, fun b hb => ⟨⟨h3 b hb, Own.lt h2.row b hb⟩, own_apart h2.row OD.out (by decide) b hb⟩, h4⟩)
  replace G1 := Lib.hid (M7.out.keep G1.out (HS5.out _ (by omega) (by omega)))
  replace G3 := Lib.hid (M7.out.keep G3.out (HS5.out _ (by omega) (by omega)))
  replace A2 := Lib.hid (M7.out.keep A2.out (HS5.out _ (by omega) (by omega)))
  replace A3 := Lib.hid (M7.out.keep A3.out (HS5.out _ (by omega) (by omega)))
  replace BA := Lib.hid (M7.out.below BA.out BA.out.size (fun b h => h.elim (fun h => by omega) (fun h => by omega)))
  have hz7 : w6.heap.size ≤ w7.heap.size := M7.out.size
  go_upto_region 9 with fail
  refine gen_wp (fun w8 => Hid (w8.heap[w7.heap.size]? = some (.cells #[.int .i64 d.fr, .int .i64 d.tt, .slice d.p d.bs.length d.cap] 33)) ∧ Hid (Below w7.heap.size w7 w8) ∧ True) ⟨Lib.hid (by first | (simp [World.setCell, Array.getElem?_modify]; done) | (simp [World.setCell, Array.getElem?_modify]; omega) | ((repeat (first | (with_reducible exact heap_new _ _ _ (by first | rfl | (simp; done))) | (with_reducible refine keepa ?_ _) | (simp [World.setCell, Array.getElem?_modify]; done))); done)), Lib.hid (by repeat (first | (with_reducible exact Below.refl _ _) | (with_reducible refine bel_set (by first | omega | (simp; done) | (simp; omega)) ?_) | (with_reducible refine bel_alloc (by first | omega | (simp; done) | (simp; omega)) ?_) | (with_reducible refine bel_drew ?_) | (with_reducible refine bel_drewN ?_ _))), trivial⟩ ?_
  rintro w8 ⟨A6, N, -⟩
  have c_A6 := cell_of_block A6.out
  have f_A6 := frozen_of_block A6.out
  have hz8 : w7.heap.size < w8.heap.size := block_lt A6.out
  replace N7 := Lib.hid (netr_keep N7.out N.out)
  replace OD := Lib.hid (show OwnB 5 w.heap.size w8 d from Own.keep OD.out N.out)
  replace G1 := Lib.hid (keepb G1.out N.out)
  replace G3 := Lib.hid (keepb G3.out N.out)
  replace A2 := Lib.hid (keepb A2.out N.out)
  replace A3 := Lib.hid (keepb A3.out N.out)
  replace BA := Lib.hid (chain BA.out N.out)
  clear N M7 M6' c_A6 f_A6
  go_wp2_with fail
  refine (ntwice_any w.heap.size w.heap.size _ _ _ 5 _ N7.out BA.out.size (by decide) (by decide) (by simp) (by decide)).mono ?_
  rintro e w9 (⟨h, -⟩ | ⟨i, dd, hi, hdd, rfl, N9, M9⟩)
  case inl => simp at h
  have hi0 : i = 0 := by rw [hi]; decide
  subst hi0
  have hdd' : dd = ⟨1, 2, [97]⟩ := by simpa using hdd.symm
  subst hdd'
  clear hi hdd
  have TDl := Lib.hid (show ∀ b, d.sl.ownBlock = some b → w3.heap.size ≤ b ∧ b < w8.heap.size from fun b hb => ⟨TD.out b hb, Own.lt OD.out b hb⟩)
  replace N9 := Lib.hid (show NetR w.heap.size w.heap.size (fun b => ((w3.heap.size ≤ b ∧ b < w7.heap.size) ∧ d.sl.ownBlock ≠ some b) ∨ w8.heap.size ≤ b) (fun b => w3.heap.size ≤ b) ⟨[⟨1, 2, [97]⟩, ⟨1, 2, [97]⟩], 0⟩ w9 from netr_mono N9.out (fun b h => h) (fun b h => h.elim id (fun h => by omega)))
  have HS9 := Lib.hid (show ∀ b, (b = w7.heap.size ∨ d.sl.ownBlock = some b) → ¬ ((((w3.heap.size ≤ b ∧ b < w7.heap.size) ∧ d.sl.ownBlock ≠ some b) ∨ w8.heap.size ≤ b) ∨ b = w.heap.size) from fun b hb h => by
    rcases hb with hb | hb
    · rcases h with (h | h) | h <;> omega
    · have := TDl.out b hb
      rcases h with (h | h) | h
      · exact h.2 hb
      · omega
      · omega)
  have M9' := Lib.hid (M9.out.mono (S' := fun b => (((w3.heap.size ≤ b ∧ b < w7.heap.size) ∧ d.sl.ownBlock ≠ some b) ∨ w8.heap.size ≤ b) ∨ b = w.heap.size) (fun b h => h.elim (fun h => .inl (.inl h)) .inr))
  clear M9
  replace OD := Lib.hid (show OwnB 5 w.heap.size w9 d from Own.mod OD.out M9'.out (fun b hb => HS9.out b (.inr hb)))
  replace A6 := Lib.hid (M9'.out.keep A6.out (HS9.out _ (.inl rfl)))
  have HS5b := Lib.hid (show ∀ b, b < w3.heap.size → b ≠ w.heap.size → ¬ ((((w3.heap.size ≤ b ∧ b < w7.heap.size) ∧ d.sl.ownBlock ≠ some b) ∨ w8.heap.size ≤ b) ∨ b = w.heap.size) from fun b h1 h2 h => by rcases h with (h | h) | h <;> omega)
  replace HS5 := HS5b
  clear HS5b
  replace G1 := Lib.hid (M9'.out.keep G1.out (HS5.out _ (by omega) (by omega)))
  replace G3 := Lib.hid (M9'.out.keep G3.out (HS5.out _ (by omega) (by omega)))
  replace A2 := Lib.hid (M9'.out.keep A2.out (HS5.out _ (by omega) (by omega)))
  replace A3 := Lib.hid (M9'.out.keep A3.out (HS5.out _ (by omega) (by omega)))
  replace BA := Lib.hid (M9'.out.below BA.out BA.out.size (fun b h => by rcases h with (h | h) | h <;> omega))
  have hz9 : w8.heap.size ≤ w9.heap.size := M9'.out.size
  go_wp2_with fail
  refine (nlen_r w.heap.size w.heap.size _ _ _ _ N9.out).mono ?_
  rintro e wx ⟨rfl, rfl⟩
  go_wp2_with fail
  refine (nlose_r w.heap.size w.heap.size _ _ _ 0 _ N9.out (by decide) (by decide) (by decide)).mono ?_
  rintro e w10 (⟨h, -⟩ | ⟨-, rfl, N10, M10⟩)
  case inl => simp at h
  replace N10 := Lib.hid (show NetR w.heap.size w.heap.size (fun _ => True) (fun b => w3.heap.size ≤ b) ⟨[⟨1, 2, [97]⟩], 1⟩ w10 from netr_mono N10.out (fun _ _ => trivial) (fun b h => h))
  replace OD := Lib.hid (show OwnB 5 w.heap.size w10 d from Own.mod OD.out M10.out (fun b hb => HS9.out b (.inr hb)))
  replace A6 := Lib.hid (M10.out.keep A6.out (HS9.out _ (.inl rfl)))
  replace G1 := Lib.hid (M10.out.keep G1.out (HS5.out _ (by omega) (by omega)))
  replace G3 := Lib.hid (M10.out.keep G3.out (HS5.out _ (by omega) (by omega)))
  replace A2 := Lib.hid (M10.out.keep A2.out (HS5.out _ (by omega) (by omega)))
  replace A3 := Lib.hid (M10.out.keep A3.out (HS5.out _ (by omega) (by omega)))
  replace BA := Lib.hid (M10.out.below BA.out BA.out.size (fun b h => by rcases h with (h | h) | h <;> omega))
  have hz10 : w9.heap.size ≤ w10.heap.size := M10.out.size
  clear M9' M10
  have c_A2 := cell_of_block A2.out
  have f_A2 := frozen_of_block A2.out
  have c_A3 := cell_of_block A3.out
  have f_A3 := frozen_of_block A3.out
  have c_A6 := cell_of_block A6.out
  have f_A6 := frozen_of_block A6.out
  go_upto_region 12 with fail
  go_region_held3 (fun w' => w'.cell? ⟨w1.heap.size + 1, 0, none⟩ = some (.int .i64 1) ∧ w'.cell? ⟨w1.heap.size + 1, 1, none⟩ = some (.int .i64 2) ∧ w'.cell? ⟨w1.heap.size + 1, 2, none⟩ = some (.slice (some ⟨w1.heap.size, 0, none⟩) 1 1) ∧ w'.cell? ⟨w2.heap.size + 1, 0, none⟩ = some (.int .i64 2) ∧ w'.cell? ⟨w2.heap.size + 1, 1, none⟩ = some (.int .i64 3) ∧ w'.cell? ⟨w2.heap.size + 1, 2, none⟩ = some (.slice (some ⟨w2.heap.size, 0, none⟩) 1 1) ∧ w'.cell? ⟨w7.heap.size, 0, none⟩ = some (.int .i64 d.fr) ∧ w'.cell? ⟨w7.heap.size, 1, none⟩ = some (.int .i64 d.tt) ∧ w'.cell? ⟨w7.heap.size, 2, none⟩ = some (.slice d.p d.bs.length d.cap)) (go_keep)
    ((first
      | (go_at_call 14; refine (one_any d ⟨2, 3, some ⟨w2.heap.size, 0, none⟩, 1, [98]⟩ _ (show Bts w10.drew d from OwnB.bts OD.out) (bts_const (w := w10.drew) G3.out 2 3) (show d.con = ⟨2, 3, [98]⟩ from HDc.out)).mono ?_; rintro e wa ⟨rfl, Ba⟩; have BZ := Lib.hid (chain (w := w10.drew) (bel_drew (Below.refl _ _)) Ba.out); have cA2 := cell_of_block (keepb A2.out BZ.out); have cA3 := cell_of_block (keepb A3.out BZ.out); have cA6 := cell_of_block (keepb A6.out BZ.out))
      | (go_at_call 23; refine (nlost_r _ _ _ _ _ _ (netr_keep N10.out BZ.out)).mono ?_; rintro e wl ⟨rfl, rfl⟩)
      | (go_at_call 19; refine (nall_any w.heap.size w.heap.size _ _ _ _ (netr_keep N10.out (by have hbsz := Below.size (BZ.out); repeat (first | (with_reducible exact BZ.out) | (with_reducible refine bel_set (by first | omega | (simp; done) | (simp; omega)) ?_) | (with_reducible refine bel_alloc (by first | omega | (simp; done) | (simp; omega)) ?_) | (with_reducible refine bel_drew ?_) | (with_reducible refine bel_drewN ?_ _)))) (by decide) (by simp)).mono ?_; rintro e wf ⟨pA, cA, dsA, rfl, hdA, AD, BF⟩; have HdA := Lib.hid hdA; clear hdA; have BZ2 := Lib.hid (chain (by have hbsz := Below.size (BZ.out); repeat (first | (with_reducible exact BZ.out) | (with_reducible refine bel_set (by first | omega | (simp; done) | (simp; omega)) ?_) | (with_reducible refine bel_alloc (by first | omega | (simp; done) | (simp; omega)) ?_) | (with_reducible refine bel_drew ?_) | (with_reducible refine bel_drewN ?_ _))) BF.out); have dA2 := cell_of_block (keepb A2.out BZ2.out); have dA3 := cell_of_block (keepb A3.out BZ2.out); have dA6 := cell_of_block (keepb A6.out BZ2.out))
      | (go_at_call 20; have hD := Lib.hid (lit_dgs (W := wf.alloc (.cells #[.int .i64 1, .int .i64 2, .slice (some ⟨w1.heap.size, 0, none⟩) 1 1] 33)) ⟨1, 2, some ⟨w1.heap.size, 0, none⟩, 1, [97]⟩ (bts_const (keepa (keepb G1.out BZ2.out) _) 1 2) (heap_new wf _ _ rfl)); have hA := Lib.hid ((alld_dgs AD.out).keep (below_alloc wf (.cells #[.int .i64 1, .int .i64 2, .slice (some ⟨w1.heap.size, 0, none⟩) 1 1] 33))); have hC := Lib.hid (show dsA.map Dv.con = [(⟨1, 2, some ⟨w1.heap.size, 0, none⟩, 1, [97]⟩ : Dv)].map Dv.con from HdA.out); have hL : dsA.length ≤ 1048576 := (by have := congrArg List.length HdA.out; simp at this; omega); (with_reducible refine (same_any _ _ dsA [⟨1, 2, some ⟨w1.heap.size, 0, none⟩, 1, [97]⟩] _ hA.out hD.out hC.out hL).mono ?_); rintro e wg ⟨rfl, BG⟩; have BZ3 := Lib.hid (chain (by have hbsz := Below.size (BZ2.out); repeat (first | (with_reducible exact BZ2.out) | (with_reducible refine bel_set (by first | omega | (simp; done) | (simp; omega)) ?_) | (with_reducible refine bel_alloc (by first | omega | (simp; done) | (simp; omega)) ?_) | (with_reducible refine bel_drew ?_) | (with_reducible refine bel_drewN ?_ _))) BG.out); have eA2 := cell_of_block (keepb A2.out BZ3.out); have eA3 := cell_of_block (keepb A3.out BZ3.out); have eA6 := cell_of_block (keepb A6.out BZ3.out))
      | (go_at_call 20; have hD := Lib.hid (lit_dgs (W := wf) ⟨1, 2, some ⟨w1.heap.size, 0, none⟩, 1, [97]⟩ (bts_const (keepb G1.out BZ2.out) 1 2) (keepb (heap_new wa _ _ rfl) BF.out)); have hA := Lib.hid (alld_dgs AD.out); have hC := Lib.hid (show dsA.map Dv.con = [(⟨1, 2, some ⟨w1.heap.size, 0, none⟩, 1, [97]⟩ : Dv)].map Dv.con from HdA.out); have hL : dsA.length ≤ 1048576 := (by have := congrArg List.length HdA.out; simp at this; omega); (with_reducible refine (same_any _ _ dsA [⟨1, 2, some ⟨w1.heap.size, 0, none⟩, 1, [97]⟩] _ hA.out hD.out hC.out hL).mono ?_); rintro e wg ⟨rfl, BG⟩; have BZ3 := Lib.hid (chain (by have hbsz := Below.size (BZ2.out); repeat (first | (with_reducible exact BZ2.out) | (with_reducible refine bel_set (by first | omega | (simp; done) | (simp; omega)) ?_) | (with_reducible refine bel_alloc (by first | omega | (simp; done) | (simp; omega)) ?_) | (with_reducible refine bel_drew ?_) | (with_reducible refine bel_drewN ?_ _))) BG.out); have eA2 := cell_of_block (keepb A2.out BZ3.out); have eA3 := cell_of_block (keepb A3.out BZ3.out); have eA6 := cell_of_block (keepb A6.out BZ3.out))
      | fail))
  all_goals
    go_wp2_with fail
    go_ret
    exact ⟨rfl, Lib.hid (chain BA.out BZ3.out)⟩
end Go.Proofs.Ytkgngfjlmkclcaa.K

/-
  CONTRACTS of package send: grow, Right, Push, Void, Due, Same.
-/
import Derived.Test.YteilgibfmljoeaaSend
import Derived.ScopeJumps
import Derived.WalkMore
set_option linter.unusedVariables false
set_option linter.unusedSimpArgs false
namespace Go.Proofs.Yteilgibfmljoeaa.K
open Go Go.RowKit Nj

def GrowInv (n : Int) (p : Option Addr) (len cap : Nat) (c a : Int) (w0 : World) (ac : Act) (w : World) : Prop :=
  ∃ (k : Nat) (c' a' : Int) (u3 u4 u5 u6 u7 u8 u9 u10 u11 u12 u13 u14 u15 u16 u17 u18 u19 : Value),
    ac = { tmps := #[.agg #[.int .i64 n, .slice p len cap, .int .i64 c, .int .i64 a], .pointer (some ⟨w0.heap.size, 0, none⟩), .pointer (some ⟨w0.heap.size + 1, 0, none⟩), u3, u4, u5, u6, u7, u8, u9, u10, u11, u12, u13, u14, u15, u16, u17, u18, u19], defers := [] } ∧
    (1 ≤ c' ∧ c' ≤ 8 ∧ 0 ≤ a' ∧ a' ≤ k ∧ k ≤ 16) ∧ growF k a' c' = growF 16 a c ∧
    w.heap[w0.heap.size]? = some (.cells #[.int .i64 n, .slice p len cap, .int .i64 c', .int .i64 a'] 24) ∧
    w.heap[w0.heap.size + 1]? = some (.cells #[.int .i64 0, .slice none 0 0, .int .i64 0, .int .i64 0] 24) ∧ Below w0.heap.size w0 w

set_option maxHeartbeats 1000000 in
theorem grow_any (n : Int) (p : Option Addr) (len cap : Nat) (c a : Int) (w : World) (hc : 1 ≤ c ∧ c ≤ 8) (ha : 0 ≤ a ∧ a ≤ 16) :
    Calls Try.prog 54 #[.agg #[.int .i64 n, .slice p len cap, .int .i64 c, .int .i64 a]] w fun e w' => e = .returned (.agg #[.int .i64 n, .slice p len cap, .int .i64 (growF 16 a c).2, .int .i64 (growF 16 a c).1]) ∧ Hid (Below w.heap.size w w') := by
  obtain ⟨ha0, ha1⟩ := ha
  obtain ⟨hc0, hc1⟩ := hc
  go_enter Try.func54, Try.ntmps54
  go_wp2_with fail
  refine (fun pass => wp_scope_jumps 0 (GrowInv n p len cap c a w) (fun _ w' => (intOf ((w'.cell? ⟨w.heap.size, 3, none⟩).getD undef)).toNat) rfl ?_ pass) ?_
  · go_wp2_with fail
    go_step3
    rename_i K hK
    refine hK _ _ ?_
    have H0 := Lib.hid (heap_new w (.cells #[.int .i64 n, .slice p len cap, .int .i64 c, .int .i64 a] 24) _ rfl)
    refine gen_wp (fun wr => Hid (wr.heap[w.heap.size]? = some (.cells #[.int .i64 n, .slice p len cap, .int .i64 c, .int .i64 a] 24)) ∧ Hid (wr.heap[w.heap.size + 1]? = some (.cells #[.int .i64 0, .slice none 0 0, .int .i64 0, .int .i64 0] 24)) ∧ Hid (Below w.heap.size w wr)) ⟨Lib.hid (keepa H0.out _), Lib.hid (heap_new _ _ _ (by simp)), Lib.hid (((Below.refl _ _).alloc (Nat.le_refl _) _).alloc (by simp) _)⟩ ?_
    rintro wr ⟨H1, H2, HB⟩
    obtain ⟨k, hk⟩ : ∃ k, k = 16 := ⟨_, rfl⟩
    have b3 : a ≤ k := by omega
    have b4 : k ≤ 16 := by omega
    obtain ⟨c', hc'⟩ : ∃ c', c' = c := ⟨_, rfl⟩
    obtain ⟨a', ha'⟩ : ∃ a', a' = a := ⟨_, rfl⟩
    have HG := Lib.hid (show growF k a' c' = growF 16 a c by rw [hk, hc', ha'])
    have b0 : 1 ≤ c' := by omega
    have b1 : c' ≤ 8 := by omega
    have b2 : 0 ≤ a' := by omega
    rw [← ha'] at b3
    rw [← hc', ← ha'] at H1
    clear hk hc' ha'
    have c_H1 := cell_of_block H1.out
    have f_H1 := frozen_of_block H1.out
    have c_H2 := cell_of_block H2.out
    have f_H2 := frozen_of_block H2.out
    by_cases hlt : c' ≤ a'
    · go_upto_region 3 with fail
      refine gen_wp (fun w2 => Hid (w2.heap[w.heap.size]? = some (.cells #[.int .i64 n, .slice p len cap, .int .i64 c', .int .i64 (a' - c')] 24)) ∧ Hid (w2.heap[(w.heap.size + 1)]? = some (.cells #[.int .i64 0, .slice none 0 0, .int .i64 0, .int .i64 0] 24)) ∧ Hid (Below w.heap.size w w2) ∧ True) ⟨Lib.hid (by first | (simp [World.setCell, Array.getElem?_modify, H1.out, H2.out]; done) | (simp [World.setCell, Array.getElem?_modify, H1.out, H2.out]; omega) | ((repeat (first | (with_reducible exact H1.out) | (with_reducible exact H2.out) | (with_reducible exact heap_new _ _ _ (by first | rfl | (simp; done))) | (with_reducible refine keepa ?_ _) | (simp [World.setCell, Array.getElem?_modify, H1.out, H2.out]; done))); done)), Lib.hid (by first | (simp [World.setCell, Array.getElem?_modify, H1.out, H2.out]; done) | (simp [World.setCell, Array.getElem?_modify, H1.out, H2.out]; omega) | ((repeat (first | (with_reducible exact H1.out) | (with_reducible exact H2.out) | (with_reducible exact heap_new _ _ _ (by first | rfl | (simp; done))) | (with_reducible refine keepa ?_ _) | (simp [World.setCell, Array.getElem?_modify, H1.out, H2.out]; done))); done)), Lib.hid (by have hbsz := Below.size (HB.out); (repeat (first | (with_reducible exact HB.out) | (with_reducible refine bel_set (by first | omega | (simp; done) | (simp; omega)) ?_) | (with_reducible refine bel_alloc (by first | omega | (simp; done) | (simp; omega)) ?_) | (with_reducible refine bel_drew ?_) | (with_reducible refine bel_drewN ?_ _))); first | done | fail "left"), trivial⟩ ?_
      clear c_H1 f_H1 c_H2 f_H2
      rintro w2 ⟨G1, G2, HB2, -⟩
      have c_G1 := cell_of_block G1.out
      have f_G1 := frozen_of_block G1.out
      have c_G2 := cell_of_block G2.out
      have f_G2 := frozen_of_block G2.out
      obtain ⟨j, rfl⟩ : ∃ j, k = j + 1 := ⟨k - 1, by omega⟩
      obtain ⟨m, hm⟩ : ∃ m, m = min (c' + 1) 8 := ⟨_, rfl⟩
      have HG2 := Lib.hid (show growF j (a' - c') m = growF 16 a c by
        rw [← HG.out, growF, if_pos hlt, hm])
      have m0 : 1 ≤ m := by omega
      have m1 : m ≤ 8 := by omega
      have HMm := Lib.hid hm
      clear hm
      go_wp2_with fail
      · rename_i h8
        have e8 : m = 8 := by rw [HMm.out]; omega
        go_step3
        refine ⟨rfl, ⟨j, 8, a' - c', _, _, _, _, _, _, _, _, _, _, _, _, _, _, _, _, _, rfl, ⟨by omega, by omega, by omega, by omega, by omega⟩, by rw [← HG2.out, e8], by simp [World.setCell, Array.getElem?_modify, G1.out], by simp [World.setCell, Array.getElem?_modify, G2.out], (by have hbsz := Below.size (HB2.out); (repeat (first | (with_reducible exact HB2.out) | (with_reducible refine bel_set (by first | omega | (simp; done) | (simp; omega)) ?_) | (with_reducible refine bel_alloc (by first | omega | (simp; done) | (simp; omega)) ?_) | (with_reducible refine bel_drew ?_) | (with_reducible refine bel_drewN ?_ _))); first | done | fail "left")⟩⟩
        skip
      · rename_i h8
        have e8 : m = c' + 1 := by rw [HMm.out]; omega
        go_step3
        refine ⟨rfl, ⟨j, c' + 1, a' - c', _, _, _, _, _, _, _, _, _, _, _, _, _, _, _, _, _, rfl, ⟨by omega, by omega, by omega, by omega, by omega⟩, by rw [← HG2.out, e8], by simp [World.setCell, Array.getElem?_modify, G1.out], by simp [World.setCell, Array.getElem?_modify, G2.out], (by have hbsz := Below.size (HB2.out); (repeat (first | (with_reducible exact HB2.out) | (with_reducible refine bel_set (by first | omega | (simp; done) | (simp; omega)) ?_) | (with_reducible refine bel_alloc (by first | omega | (simp; done) | (simp; omega)) ?_) | (with_reducible refine bel_drew ?_) | (with_reducible refine bel_drewN ?_ _))); first | done | fail "left")⟩⟩
        skip
    · have HGF := Lib.hid (show growF k a' c' = (a', c') by cases k <;> simp [growF]; omega)
      go_wp2_with fail
      simp only [Exit.jump]
      refine bodyPost_ret (v := .agg #[.int .i64 n, .slice p len cap, .int .i64 c', .int .i64 a']) (by simp [results, Try.results54, go_sem, c_H2]) rfl ⟨by rw [← HG.out, HGF.out], Lib.hid (by have hbsz := Below.size (HB.out); (repeat (first | (with_reducible exact HB.out) | (with_reducible refine bel_set (by first | omega | (simp; done) | (simp; omega)) ?_) | (with_reducible refine bel_alloc (by first | omega | (simp; done) | (simp; omega)) ?_) | (with_reducible refine bel_drew ?_) | (with_reducible refine bel_drewN ?_ _))); first | done | fail "left")⟩
  · rintro ac wr ⟨k, c', a', u3, u4, u5, u6, u7, u8, u9, u10, u11, u12, u13, u14, u15, u16, u17, u18, u19, rfl, ⟨b0, b1, b2, b3, b4⟩, hg, h1, h2, hb⟩
    have H1 := Lib.hid h1
    have H2 := Lib.hid h2
    have HB := Lib.hid hb
    have HG := Lib.hid hg
    have c_H1 := cell_of_block h1
    have f_H1 := frozen_of_block h1
    have c_H2 := cell_of_block h2
    have f_H2 := frozen_of_block h2
    have hmu := c_H1 3
    have HMU := Lib.hid (show (intOf ((wr.cell? ⟨w.heap.size, 3, none⟩).getD undef)).toNat = a'.toNat by rw [hmu]; rfl)
    rw [HMU.out]
    clear h1 h2 hb hg hmu
    by_cases hlt : c' ≤ a'
    · go_upto_region 3 with fail
      refine gen_wp (fun w2 => Hid (w2.heap[w.heap.size]? = some (.cells #[.int .i64 n, .slice p len cap, .int .i64 c', .int .i64 (a' - c')] 24)) ∧ Hid (w2.heap[(w.heap.size + 1)]? = some (.cells #[.int .i64 0, .slice none 0 0, .int .i64 0, .int .i64 0] 24)) ∧ Hid (Below w.heap.size w w2) ∧ True) ⟨Lib.hid (by first | (simp [World.setCell, Array.getElem?_modify, H1.out, H2.out]; done) | (simp [World.setCell, Array.getElem?_modify, H1.out, H2.out]; omega) | ((repeat (first | (with_reducible exact H1.out) | (with_reducible exact H2.out) | (with_reducible exact heap_new _ _ _ (by first | rfl | (simp; done))) | (with_reducible refine keepa ?_ _) | (simp [World.setCell, Array.getElem?_modify, H1.out, H2.out]; done))); done)), Lib.hid (by first | (simp [World.setCell, Array.getElem?_modify, H1.out, H2.out]; done) | (simp [World.setCell, Array.getElem?_modify, H1.out, H2.out]; omega) | ((repeat (first | (with_reducible exact H1.out) | (with_reducible exact H2.out) | (with_reducible exact heap_new _ _ _ (by first | rfl | (simp; done))) | (with_reducible refine keepa ?_ _) | (simp [World.setCell, Array.getElem?_modify, H1.out, H2.out]; done))); done)), Lib.hid (by have hbsz := Below.size (HB.out); (repeat (first | (with_reducible exact HB.out) | (with_reducible refine bel_set (by first | omega | (simp; done) | (simp; omega)) ?_) | (with_reducible refine bel_alloc (by first | omega | (simp; done) | (simp; omega)) ?_) | (with_reducible refine bel_drew ?_) | (with_reducible refine bel_drewN ?_ _))); first | done | fail "left"), trivial⟩ ?_
      clear c_H1 f_H1 c_H2 f_H2
      rintro w2 ⟨G1, G2, HB2, -⟩
      have c_G1 := cell_of_block G1.out
      have f_G1 := frozen_of_block G1.out
      have c_G2 := cell_of_block G2.out
      have f_G2 := frozen_of_block G2.out
      obtain ⟨j, rfl⟩ : ∃ j, k = j + 1 := ⟨k - 1, by omega⟩
      obtain ⟨m, hm⟩ : ∃ m, m = min (c' + 1) 8 := ⟨_, rfl⟩
      have HG2 := Lib.hid (show growF j (a' - c') m = growF 16 a c by
        rw [← HG.out, growF, if_pos hlt, hm])
      have m0 : 1 ≤ m := by omega
      have m1 : m ≤ 8 := by omega
      have HMm := Lib.hid hm
      clear hm
      go_wp2_with fail
      · rename_i h8
        have e8 : m = 8 := by rw [HMm.out]; omega
        go_step3
        refine ⟨rfl, ⟨j, 8, a' - c', _, _, _, _, _, _, _, _, _, _, _, _, _, _, _, _, _, rfl, ⟨by omega, by omega, by omega, by omega, by omega⟩, by rw [← HG2.out, e8], by simp [World.setCell, Array.getElem?_modify, G1.out], by simp [World.setCell, Array.getElem?_modify, G2.out], (by have hbsz := Below.size (HB2.out); (repeat (first | (with_reducible exact HB2.out) | (with_reducible refine bel_set (by first | omega | (simp; done) | (simp; omega)) ?_) | (with_reducible refine bel_alloc (by first | omega | (simp; done) | (simp; omega)) ?_) | (with_reducible refine bel_drew ?_) | (with_reducible refine bel_drewN ?_ _))); first | done | fail "left")⟩, ?_⟩
        simp [go_sem, c_G1, intOf]; omega
      · rename_i h8
        have e8 : m = c' + 1 := by rw [HMm.out]; omega
        go_step3
        refine ⟨rfl, ⟨j, c' + 1, a' - c', _, _, _, _, _, _, _, _, _, _, _, _, _, _, _, _, _, rfl, ⟨by omega, by omega, by omega, by omega, by omega⟩, by rw [← HG2.out, e8], by simp [World.setCell, Array.getElem?_modify, G1.out], by simp [World.setCell, Array.getElem?_modify, G2.out], (by have hbsz := Below.size (HB2.out); (repeat (first | (with_reducible exact HB2.out) | (with_reducible refine bel_set (by first | omega | (simp; done) | (simp; omega)) ?_) | (with_reducible refine bel_alloc (by first | omega | (simp; done) | (simp; omega)) ?_) | (with_reducible refine bel_drew ?_) | (with_reducible refine bel_drewN ?_ _))); first | done | fail "left")⟩, ?_⟩
        simp [go_sem, c_G1, intOf]; omega
    · have HGF := Lib.hid (show growF k a' c' = (a', c') by cases k <;> simp [growF]; omega)
      go_wp2_with fail
      simp only [Exit.jump]
      refine bodyPost_ret (v := .agg #[.int .i64 n, .slice p len cap, .int .i64 c', .int .i64 a']) (by simp [results, Try.results54, go_sem, c_H2]) rfl ⟨by rw [← HG.out, HGF.out], Lib.hid (by have hbsz := Below.size (HB.out); (repeat (first | (with_reducible exact HB.out) | (with_reducible refine bel_set (by first | omega | (simp; done) | (simp; omega)) ?_) | (with_reducible refine bel_alloc (by first | omega | (simp; done) | (simp; omega)) ?_) | (with_reducible refine bel_drew ?_) | (with_reducible refine bel_drewN ?_ _))); first | done | fail "left")⟩
end Go.Proofs.Yteilgibfmljoeaa.K

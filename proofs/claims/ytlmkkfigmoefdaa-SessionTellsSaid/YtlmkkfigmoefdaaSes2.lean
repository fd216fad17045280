/-
  CONTRACTS of package session: own; of nightjarref18: copied.
-/
import Derived.Test.YtlmkkfigmoefdaaSes1
set_option linter.unusedVariables false
set_option linter.unusedSimpArgs false
namespace Go.Proofs.Ytlmkkfigmoefdaa.K
open Go Go.RowKit Nj

/-- the cells with two others in place of the slices -/
theorem sv_set (x : Sv) (p : Option Addr) (c : Nat) (p' : Option Addr) (c' : Nat) : ((x.cells.toArray.setIfInBounds 23 (.slice p x.s.beats.length c)).setIfInBounds 27 (.slice p' x.s.ch.send.fl.length c')) = (Sv.cells ⟨x.s, p, c, p', c'⟩).toArray := rfl

set_option maxRecDepth 100000 in
set_option maxHeartbeats 8000000 in
theorem sesown_any (x : Sv) (w : World) (h : Sok w x) (hb : x.s.beats.length ≤ 1000) (hf : x.s.ch.send.fl.length ≤ 1000) :
    Calls Try.prog 40 #[.agg x.cells.toArray] w (RetOwn w x.s) := by
  have HB := Lib.hid h.bt
  have HF := Lib.hid h.fl
  have HN := Lib.hid h.nx
  clear h
  go_enter Try.func40, Try.ntmps40
  go_upto_region 1 with fail
  refine gen_wp (fun w1 => Hid (w1.heap[w.heap.size]? = some (.cells x.cells.toArray 38)) ∧ Hid (w1.heap[(w.heap.size + 1)]? = some (.cells #[.int .i64 0, .int .i64 0, .int .i64 0, .int .i64 0, .int .u8 0, .int .u8 0, .int .u8 0, .int .u8 0, .int .u8 0, .int .u8 0, .int .u8 0, .int .u8 0, .int .u8 0, .int .u8 0, .int .u8 0, .int .u8 0, .int .u8 0, .int .u8 0, .int .u8 0, .int .u8 0, .int .i64 0, .int .i64 0, .int .i64 0, .slice none 0 0, .int .i64 0, .int .i64 0, .int .i64 0, .slice none 0 0, .int .i64 0, .int .i64 0, .int .i64 0, .int .i64 0, .int .i64 0, .int .i64 0, .bool false] 38)) ∧ Hid (Below w.heap.size w w1) ∧ Hid (w1.heap.size = w.heap.size + 2) ∧ True) ⟨Lib.hid (keepa (heap_new _ _ _ rfl) _), Lib.hid (by first | (simp [World.setCell, Array.getElem?_modify]; done) | (simp [World.setCell, Array.getElem?_modify]; omega) | ((repeat (first | (with_reducible exact heap_new _ _ _ (by first | rfl | (simp; done))) | (with_reducible refine keepa ?_ _) | (simp [World.setCell, Array.getElem?_modify]; done))); done)), Lib.hid (by (repeat (first | (with_reducible exact Below.refl _ _) | (with_reducible refine bel_set (by first | omega | (simp; done) | (simp; omega)) ?_) | (with_reducible refine bel_alloc (by first | omega | (simp; done) | (simp; omega)) ?_) | (with_reducible refine bel_drew ?_) | (with_reducible refine bel_drewN ?_ _))); first | done | fail "left"), Lib.hid (by simp), trivial⟩ ?_
  rintro w1 ⟨A1, A2, BA, SZ, -⟩
  have c_A2 := cell_of_block A2.out
  have f_A2 := frozen_of_block A2.out
  have z := SZ.out
  have HSZ : Hid (w.heap.size + 2 ≤ w1.heap.size) := Lib.hid (by omega)
  clear z SZ
  have HCb := Lib.hid (fun W (B : Below w1.heap.size w1 W) => bclone_at _ x.s.beats W (Sl.keep (by decide) HB.out (chain BA.out B)) (by omega))
  have HCf := Lib.hid (fun W (B : Below w1.heap.size w1 W) => fclone_any _ x.s.ch.send.fl W (Sl.keep (by decide) HF.out (chain BA.out B)) (by omega))
  have BZ := Lib.hid (Below.refl w1.heap.size w1)
  have g23 := g_bts (rangeAt_block A1.out)
  have g27 := g_fls (rangeAt_block A1.out)
  have f1 := frozen_of_block A1.out
  go_region_with
    ((first
      | (go_at_call 63; with_reducible refine (HCb.out _ (bel_drew BZ.out)).mono ?_; rintro e w2 ⟨p2, cap2, rfl, O2, B2⟩; replace O2 := Lib.hid (Own.mono (B' := w1.heap.size) O2.out (Nat.le_refl _)); replace BZ := Lib.hid (chain (w := w1.drew) (bel_drew BZ.out) B2.out); have BZ2 := Lib.hid (show w1.heap.size ≤ w2.heap.size from BZ.out.size); have A1e := Lib.hid (keepb A1.out BZ.out); have A2e := Lib.hid (keepb A2.out BZ.out); have g27e := g_fls (rangeAt_block A1e.out); have f1e := frozen_of_block A1e.out; have c_A2e := cell_of_block A2e.out; have f_A2e := frozen_of_block A2e.out)
      | (go_at_call 64; with_reducible refine (HCf.out _ BZ.out).mono ?_; rintro e w3 ⟨p3, cap3, rfl, O3, B3⟩; replace BZ := Lib.hid (chain BZ.out B3.out); have A1f := Lib.hid (keepb A1.out BZ.out); have A2f := Lib.hid (keepb A2.out BZ.out); have O2f := Lib.hid (O2.out.keep B3.out); have c_A1f := cell_of_block A1f.out; have f_A1f := frozen_of_block A1f.out; have c_A2f := cell_of_block A2f.out; have f_A2f := frozen_of_block A2f.out)
      | fail))
  all_goals go_upto_region 2 with fail
  all_goals
    clear g23 g27 f1 g27e f1e c_A2e f_A2e c_A1f f_A1f c_A2 f_A2 c_A2f f_A2f HCb HCf A1 A2 A1e A2e O2 B2 B3
    have hsz := HSZ.out
    have hsz2 := BZ2.out
    have m1 : w.heap.size ≠ w.heap.size + 1 := by omega
    refine gen_wp (fun w5 => Hid (w5.heap[w.heap.size]? = some (.cells (Sv.cells ⟨x.s, p2, cap2, p3, cap3⟩).toArray 38)) ∧ Hid (w5.heap[w.heap.size + 1]? = some (.cells #[.int .i64 0, .int .i64 0, .int .i64 0, .int .i64 0, .int .u8 0, .int .u8 0, .int .u8 0, .int .u8 0, .int .u8 0, .int .u8 0, .int .u8 0, .int .u8 0, .int .u8 0, .int .u8 0, .int .u8 0, .int .u8 0, .int .u8 0, .int .u8 0, .int .u8 0, .int .u8 0, .int .i64 0, .int .i64 0, .int .i64 0, .slice none 0 0, .int .i64 0, .int .i64 0, .int .i64 0, .slice none 0 0, .int .i64 0, .int .i64 0, .int .i64 0, .int .i64 0, .int .i64 0, .int .i64 0, .bool false] 38)) ∧ Hid (Below w.heap.size w w5) ∧ Hid (Own 57 2 w1.heap.size w5 (.slice p2 x.s.beats.length cap2) x.s.beats.length (flat Bt.cells x.s.beats)) ∧ Hid (Own 85 7 w1.heap.size w5 (.slice p3 x.s.ch.send.fl.length cap3) x.s.ch.send.fl.length (flat Fl.cells x.s.ch.send.fl)) ∧ True) ⟨Lib.hid (by rw [← sv_set]; exact heap_set_same (heap_set_same A1f.out _ _) _ _), Lib.hid (by simp [World.setCell, Array.getElem?_modify, A2f.out]), Lib.hid (by (repeat (first | (with_reducible exact (chain BA.out BZ.out)) | (with_reducible refine bel_set (by first | omega | (simp; done) | (simp; omega)) ?_) | (with_reducible refine bel_alloc (by first | omega | (simp; done) | (simp; omega)) ?_) | (with_reducible refine bel_drew ?_) | (with_reducible refine bel_drewN ?_ _))); first | done | fail "left"), Lib.hid ((by (repeat (first | (with_reducible exact O2f.out) | (with_reducible refine Own.set ?_ _ _ (by first | omega | (simp; done) | (simp; omega))) | (with_reducible refine Own.alloc ?_ _) | (with_reducible refine Own.drew ?_) | (with_reducible refine Own.drewN ?_ _))); first | done | fail "left")), Lib.hid (Own.mono (B := w2.heap.size) (by (repeat (first | (with_reducible exact O3.out) | (with_reducible refine Own.set ?_ _ _ (by first | omega | (simp; done) | (simp; omega))) | (with_reducible refine Own.alloc ?_ _) | (with_reducible refine Own.drew ?_) | (with_reducible refine Own.drewN ?_ _))); first | done | fail "left") (BZ2.out)), trivial⟩ ?_
    rintro w5 ⟨A1, A2, BX, O2, O3, -⟩
    obtain ⟨y, hy, hyb⟩ : ∃ y : Sv, y = ⟨x.s, p2, cap2, p3, cap3⟩ ∧ y.s = x.s := ⟨_, rfl, rfl⟩
    have HO := Lib.hid (show SOk 57 85 w1.heap.size w5 y by rw [hy]; exact ⟨O2.out, O3.out, HN.out⟩)
    rw [← hy] at A1
    have HY := Lib.hid hyb
    clear hy hyb O2 O3
    have R1 := Lib.hid (rangeAt_block A1.out)
    go_wp2_with (first | (refine ldl R1 rfl rfl rfl ?_) | (refine stl A2 rfl rfl rfl rfl rfl ?_; intro w6 A2' M6))
    have BX2 := Lib.hid (Mod.below M6.out BX.out (by have := block_lt A1.out; omega) (fun k hk => by omega))
    refine bodyPost_ret (v := .agg y.cells.toArray) (res_ses rfl rfl (rangeAt_block A2'.out)) rfl ⟨y, HY.out, rfl, Lib.hid ?_, BX2⟩
    refine SOk.mono (B := w1.heap.size) (SOk.mod HO.out M6.out (fun k hk => by have := HO.out.bt.block k hk; omega) (fun k hk => by have := HO.out.fl.block k hk; omega)) (by omega)
end Go.Proofs.Ytlmkkfigmoefdaa.K

/-
  CONTRACT of nightjarref18.copied.
-/
import Derived.Test.YtlmkkfigmoefdaaSes2
import Derived.Test.YtlmkkfigmoefdaaSesBaseR
import Derived.Deep.DeepCutAuto
set_option linter.unusedVariables false
set_option linter.unusedSimpArgs false
namespace Go.Proofs.Ytlmkkfigmoefdaa.K
open Go Go.RowKit Nj

theorem append_nil_bt (g c : Nat) (ty : TypeId) (W : World) : (Builtin.append_ #[27, 27] ty #[.slice (some ⟨g, 0, none⟩) 0 0, .slice none 0 c]).run Try.prog W = .ok (.slice (some ⟨g, 0, none⟩) 0 0) W := by
  simp [Builtin.append_, run_underlying Try.underlying27, sizeOf, typeInfo, Builtin.lenOf, Builtin.firstCells, storeCells]
  kernel_rfl
theorem sv_set23 (x : Sv) (p : Option Addr) (c : Nat) : (x.cells.toArray.setIfInBounds 23 (.slice p x.s.beats.length c)) = (Sv.cells ⟨x.s, p, c, x.pf, x.cf⟩).toArray := rfl
theorem sv_set27 (x : Sv) (p : Option Addr) (c : Nat) : (x.cells.toArray.setIfInBounds 27 (.slice p x.s.ch.send.fl.length c)) = (Sv.cells ⟨x.s, x.pb, x.cb, p, c⟩).toArray := rfl

set_option maxRecDepth 100000 in
set_option maxHeartbeats 8000000 in
theorem rcopy_any (x : Sv) (w : World) (h : Sok w x) (hb : x.s.beats.length ≤ 1000) (hf : x.s.ch.send.fl.length ≤ 1000) :
    Calls Try.prog 34 #[.agg x.cells.toArray] w (RetOwn w x.s) := by
  have HB := Lib.hid h.bt
  have HF := Lib.hid h.fl
  have HN := Lib.hid h.nx
  clear h
  go_enter Try.func34, Try.ntmps34
  go_upto_region 1 with fail
  refine gen_wp (fun w1 => Hid (w1.heap[w.heap.size]? = some (.cells x.cells.toArray 38)) ∧ Hid (w1.heap[(w.heap.size + 1)]? = some (.cells #[.int .i64 0, .int .i64 0, .int .i64 0, .int .i64 0, .int .u8 0, .int .u8 0, .int .u8 0, .int .u8 0, .int .u8 0, .int .u8 0, .int .u8 0, .int .u8 0, .int .u8 0, .int .u8 0, .int .u8 0, .int .u8 0, .int .u8 0, .int .u8 0, .int .u8 0, .int .u8 0, .int .i64 0, .int .i64 0, .int .i64 0, .slice none 0 0, .int .i64 0, .int .i64 0, .int .i64 0, .slice none 0 0, .int .i64 0, .int .i64 0, .int .i64 0, .int .i64 0, .int .i64 0, .int .i64 0, .bool false] 38)) ∧ Hid (Below w.heap.size w w1) ∧ Hid (w1.heap.size = w.heap.size + 2) ∧ True) ⟨Lib.hid (keepa (heap_new _ _ _ rfl) _), Lib.hid (by first | (simp [World.setCell, Array.getElem?_modify]; done) | (simp [World.setCell, Array.getElem?_modify]; omega) | ((repeat (first | (with_reducible exact heap_new _ _ _ (by first | rfl | (simp; done))) | (with_reducible refine keepa ?_ _) | (simp [World.setCell, Array.getElem?_modify]; done))); done)), Lib.hid (by (repeat (first | (with_reducible exact Below.refl _ _) | (with_reducible refine bel_set (by first | omega | (simp; done) | (simp; omega)) ?_) | (with_reducible refine bel_alloc (by first | omega | (simp; done) | (simp; omega)) ?_) | (with_reducible refine bel_drew ?_) | (with_reducible refine bel_drewN ?_ _))); first | done | fail "left"), Lib.hid (by simp), trivial⟩ ?_
  rintro w1 ⟨A1, A2, BA, SZ, -⟩
  have c_A2 := cell_of_block A2.out
  have f_A2 := frozen_of_block A2.out
  have HSZ : Hid (w.heap.size + 2 ≤ w1.heap.size) := Lib.hid (by have := SZ.out; omega)
  clear SZ
  have hsz := HSZ.out
  have hs0 := block_lt A1.out
  have hs1 := block_lt A2.out
  have HB1 := Lib.hid (Sl.keep (by decide) HB.out BA.out)
  go_cut [] (fun w2 => ∃ (p2 : Option Addr) (cap2 : Nat), w2.heap[w.heap.size]? = some (.cells (Sv.cells ⟨x.s, p2, cap2, x.pf, x.cf⟩).toArray 38) ∧ w2.heap[w.heap.size + 1]? = some (.cells #[.int .i64 0, .int .i64 0, .int .i64 0, .int .i64 0, .int .u8 0, .int .u8 0, .int .u8 0, .int .u8 0, .int .u8 0, .int .u8 0, .int .u8 0, .int .u8 0, .int .u8 0, .int .u8 0, .int .u8 0, .int .u8 0, .int .u8 0, .int .u8 0, .int .u8 0, .int .u8 0, .int .i64 0, .int .i64 0, .int .i64 0, .slice none 0 0, .int .i64 0, .int .i64 0, .int .i64 0, .slice none 0 0, .int .i64 0, .int .i64 0, .int .i64 0, .int .i64 0, .int .i64 0, .int .i64 0, .bool false] 38) ∧ Own 57 2 (w.heap.size + 2) w2 (.slice p2 x.s.beats.length cap2) x.s.beats.length (flat Bt.cells x.s.beats) ∧ Below w.heap.size w w2)
  case first =>
    have g23 := g_bts (rangeAt_block A1.out)
    have f1 := frozen_of_block A1.out
    obtain ⟨s, pb, cb, pf, cf⟩ := x
    simp only at HB1 g23 hb ⊢
    cases pb with
    | none =>
      have h0 : s.beats = [] := by
        cases hbt : s.beats with
        | nil => rfl
        | cons a l => obtain ⟨b, o, h, _⟩ := Sl.open HB1.out (by rw [hbt]; simp); cases h
      have hl0 : s.beats.length = 0 := by rw [h0]; rfl
      have hap := append_nil_bt
      rw [hl0] at g23
      go_wp2_with fail
      go_meet
      case rel =>
        refine ⟨some ⟨w1.heap.size, 0, none⟩, 0, ?_, ?_, ?_, ?_⟩
        · have e := sv_set23 ⟨s, none, cb, pf, cf⟩ (some ⟨w1.heap.size, 0, none⟩) 0
          simp only [hl0] at e
          rw [← e]
          exact keepa (heap_set_same A1.out _ _) _
        · exact keepa ((heap_set_other (by simp)).trans A2.out) _
        · rw [h0]; exact Own.mono (own_empty _ _ w1.heap.size _ _ (by simp) (by simp)) hsz
        · exact (bel_set (by simp) BA.out).alloc (by simp; omega) _
    | some ad =>
      have HC := Lib.hid (Sl.news (by decide) (Sl.keep (w' := w1.alloc (.cells #[] 57)) (by decide) HB1.out ((Below.refl _ _).alloc (Nat.le_refl _) _)))
      have HNE := Lib.hid (show ∀ k, (Value.slice (some ⟨w1.heap.size, 0, none⟩) 0 0).ownBlock = some k → k = w1.heap.size from fun k hk => by simpa [Value.ownBlock] using hk.symm)
      go_wp2_with (at_builtin; refine wpList_app rfl (.tmp 3) (.tmp 5) 27 rfl w1.heap.size 57 (.agg #[.int .i64 0, .int .i64 0]) 2 16 Try.underlying27 (by kernel_rfl) rfl (by decide) w.heap.size w (Lib.hid (BA.out.alloc BA.out.size _)) (by omega) (Lib.hid (own_empty _ _ _ _ _ rfl (Nat.le_refl _))) rfl ad s.beats.length cb rfl (flat Bt.cells s.beats) (flat_length bt_two s.beats) HC (cells_one s.beats) (by omega) (by omega) (by simp) ?_; intro p2 cap2 w2 hc2 HO2 HB2 HK2; simp only [Nat.zero_add, List.nil_append] at HO2 hc2; have A1k := Lib.hid (HK2.out _ _ (keepa A1.out _) (fun k hk => by have := HNE.out k hk; omega)); have A2k := Lib.hid (HK2.out _ _ (keepa A2.out _) (fun k hk => by have := HNE.out k hk; omega)); have c1k := cell_of_block A1k.out; have f1k := frozen_of_block A1k.out; have g23k := g_bts (x := ⟨s, some ad, cb, pf, cf⟩) (rangeAt_block A1k.out))
      go_meet
      case rel =>
        refine ⟨p2, cap2, ?_, ?_, ?_, ?_⟩
        · rw [← sv_set23 ⟨s, some ad, cb, pf, cf⟩ _ _]; exact heap_set_same A1k.out _ _
        · exact (heap_set_other (by simp)).trans A2k.out
        · exact Own.mono (Own.set HO2.out _ _ hs0) hsz
        · exact bel_set (by simp) HB2.out
  case rest =>
    obtain ⟨p2, cap2, a1, a2, ob, bb⟩ := hcut
    obtain ⟨w2, hw2⟩ : ∃ w2, w2 = wc := ⟨_, rfl⟩
    subst hw2
    obtain ⟨y, hy, hys, hyp⟩ : ∃ y : Sv, y = ⟨x.s, p2, cap2, x.pf, x.cf⟩ ∧ y.s = x.s ∧ (y.pb = p2 ∧ y.cb = cap2 ∧ y.pf = x.pf ∧ y.cf = x.cf) := ⟨_, rfl, rfl, rfl, rfl, rfl, rfl⟩
    rw [← hy] at a1
    clear c_A2 f_A2 A1 A2
    have A1 := Lib.hid a1
    have A2 := Lib.hid a2
    have OB := Lib.hid (show Own 57 2 (w.heap.size + 2) w2 (.slice y.pb y.s.beats.length y.cb) y.s.beats.length (flat Bt.cells y.s.beats) by rw [hys, hyp.1, hyp.2.1]; exact ob)
    have HFs := Lib.hid (show Fls w2 (.slice y.pf y.s.ch.send.fl.length y.cf) y.s.ch.send.fl by rw [hys, hyp.2.2.1, hyp.2.2.2]; exact Sl.keep (by decide) HF.out bb)
    have hfy : y.s.ch.send.fl.length ≤ 1000 := by rw [hys]; exact hf
    have HYs := Lib.hid hys
    replace BA := Lib.hid bb
    clear a1 a2 ob bb hy hyp hys HB HF HB1 hs0 hs1
    have hs0 := block_lt A1.out
    have hs1 := block_lt A2.out
    go_upto_region 2 with fail
    go_cut [] (fun w3 => ∃ (p3 : Option Addr) (cap3 : Nat), w3.heap[w.heap.size]? = some (.cells (Sv.cells ⟨y.s, y.pb, y.cb, p3, cap3⟩).toArray 38) ∧ w3.heap[w.heap.size + 1]? = some (.cells #[.int .i64 0, .int .i64 0, .int .i64 0, .int .i64 0, .int .u8 0, .int .u8 0, .int .u8 0, .int .u8 0, .int .u8 0, .int .u8 0, .int .u8 0, .int .u8 0, .int .u8 0, .int .u8 0, .int .u8 0, .int .u8 0, .int .u8 0, .int .u8 0, .int .u8 0, .int .u8 0, .int .i64 0, .int .i64 0, .int .i64 0, .slice none 0 0, .int .i64 0, .int .i64 0, .int .i64 0, .slice none 0 0, .int .i64 0, .int .i64 0, .int .i64 0, .int .i64 0, .int .i64 0, .int .i64 0, .bool false] 38) ∧ Own 57 2 (w.heap.size + 2) w3 (.slice y.pb y.s.beats.length y.cb) y.s.beats.length (flat Bt.cells y.s.beats) ∧ Own 85 7 (w.heap.size + 2) w3 (.slice p3 y.s.ch.send.fl.length cap3) y.s.ch.send.fl.length (flat Fl.cells y.s.ch.send.fl) ∧ Below w.heap.size w w3)
    case first =>
      have g27 := g_fls (rangeAt_block A1.out)
      have f1 := frozen_of_block A1.out
      obtain ⟨s, pb, cb, pf, cf⟩ := y
      simp only at HFs g27 hfy OB ⊢
      cases pf with
      | none =>
        have h0 : s.ch.send.fl = [] := by
          cases hbt : s.ch.send.fl with
          | nil => rfl
          | cons a l => obtain ⟨b, o, h, _⟩ := Sl.open HFs.out (by rw [hbt]; simp); cases h
        have hl0 : s.ch.send.fl.length = 0 := by rw [h0]; rfl
        have hap := append_nil_fl
        rw [hl0] at g27
        go_wp2_with fail
        go_meet
        case rel =>
          refine ⟨some ⟨w2.heap.size, 0, none⟩, 0, ?_, ?_, ?_, ?_, ?_⟩
          · have e := sv_set27 ⟨s, pb, cb, none, cf⟩ (some ⟨w2.heap.size, 0, none⟩) 0
            simp only [hl0] at e
            rw [← e]
            exact keepa (heap_set_same A1.out _ _) _
          · exact keepa ((heap_set_other (by simp)).trans A2.out) _
          · exact (Own.set OB.out _ _ (by show w.heap.size < _; omega)).alloc _
          · rw [h0]; exact Own.mono (own_empty _ _ w2.heap.size _ _ (by simp) (by simp)) hs1
          · exact (bel_set (by simp) BA.out).alloc (by simp; omega) _
      | some ad =>
        have HC := Lib.hid (Sl.news (by decide) (Sl.keep (w' := w2.alloc (.cells #[] 85)) (by decide) HFs.out ((Below.refl _ _).alloc (Nat.le_refl _) _)))
        have HNE := Lib.hid (show ∀ k, (Value.slice (some ⟨w2.heap.size, 0, none⟩) 0 0).ownBlock = some k → k = w2.heap.size from fun k hk => by simpa [Value.ownBlock] using hk.symm)
        have HOB := Lib.hid OB.out.lt
        go_wp2_with (at_builtin; refine wpList_app rfl (.tmp 8) (.tmp 12) 30 rfl w2.heap.size 85 (.agg #[.int .i64 0, .int .i64 0, .int .i64 0, .int .i64 0, .int .i64 0, .int .i64 0, .int .i64 0]) 7 56 Try.underlying30 (by kernel_rfl) rfl (by decide) w.heap.size w (Lib.hid (BA.out.alloc BA.out.size _)) (by omega) (Lib.hid (own_empty _ _ _ _ _ rfl (Nat.le_refl _))) rfl ad s.ch.send.fl.length cf rfl (flat Fl.cells s.ch.send.fl) (flat_length fl_seven s.ch.send.fl) HC (fl_cells_one s.ch.send.fl) (by omega) (by omega) (by simp) ?_; intro p3 cap3 w3 hc3 HO3 HB3 HK3; simp only [Nat.zero_add, List.nil_append] at HO3 hc3; have A1k := Lib.hid (HK3.out _ _ (keepa A1.out _) (fun k hk => by have := HNE.out k hk; omega)); have A2k := Lib.hid (HK3.out _ _ (keepa A2.out _) (fun k hk => by have := HNE.out k hk; omega)); have OBk := Lib.hid (Own.kept (OB.out.alloc (.cells #[] 85)) HK3.out (fun g hg k hk => by have := HOB.out g hg; have := HNE.out k hk; omega)); have c1k := cell_of_block A1k.out; have f1k := frozen_of_block A1k.out; have g27k := g_fls (x := ⟨s, pb, cb, some ad, cf⟩) (rangeAt_block A1k.out))
        go_meet
        case rel =>
          refine ⟨p3, cap3, ?_, ?_, ?_, ?_, ?_⟩
          · rw [← sv_set27 ⟨s, pb, cb, some ad, cf⟩ _ _]; exact heap_set_same A1k.out _ _
          · exact (heap_set_other (by simp)).trans A2k.out
          · exact Own.set OBk.out _ _ (by show w.heap.size < _; omega)
          · exact Own.mono (Own.set HO3.out _ _ hs0) hs1
          · exact bel_set (by simp) HB3.out
    case rest =>
      obtain ⟨p3, cap3, a1, a2, ob, of', bb⟩ := hcut
      obtain ⟨w3, hw3⟩ : ∃ w3, w3 = wc := ⟨_, rfl⟩
      subst hw3
      obtain ⟨z, hz⟩ : ∃ z : Sv, z = ⟨y.s, y.pb, y.cb, p3, cap3⟩ := ⟨_, rfl⟩
      rw [← hz] at a1
      have HO := Lib.hid (show SOk 57 85 (w.heap.size + 2) w3 z by rw [hz]; exact ⟨ob, of', by show y.s.ch.send.next ≤ _; rw [HYs.out]; exact HN.out⟩)
      have HZs := Lib.hid (show z.s = x.s by rw [hz]; exact HYs.out)
      have A1z := Lib.hid a1
      have A2z := Lib.hid a2
      have BZ := Lib.hid bb
      have hs0z := block_lt A1z.out
      clear a1 a2 ob of' bb hz A1 A2 OB HFs
      have R1 := Lib.hid (rangeAt_block A1z.out)
      go_wp2_with (first | (refine ldl R1 rfl rfl rfl ?_) | (refine stl A2z rfl rfl rfl rfl rfl ?_; intro w6 A2' M6))
      have BX2 := Lib.hid (Mod.below M6.out BZ.out (by omega) (fun k hk => by omega))
      refine bodyPost_ret (v := .agg z.cells.toArray) (res_ses rfl rfl (rangeAt_block A2'.out)) rfl ⟨z, HZs.out, rfl, Lib.hid ?_, BX2⟩
      exact SOk.mono (B := w.heap.size + 2) (SOk.mod HO.out M6.out (fun k hk => by have := HO.out.bt.block k hk; omega) (fun k hk => by have := HO.out.fl.block k hk; omega)) (by omega)
end Go.Proofs.Ytlmkkfigmoefdaa.K

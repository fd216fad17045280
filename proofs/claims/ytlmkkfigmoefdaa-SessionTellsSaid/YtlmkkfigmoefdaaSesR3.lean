/-
  CONTRACTS of nightjarref18: Find.
-/
import Derived.Test.YtlmkkfigmoefdaaSes3
import Derived.Test.YtlmkkfigmoefdaaSes9
set_option linter.unusedVariables false
set_option linter.unusedSimpArgs false
namespace Go.Proofs.Ytlmkkfigmoefdaa.K
open Go Go.RowKit Nj

set_option maxRecDepth 100000 in
set_option maxHeartbeats 8000000 in
theorem rfind_any (v : Value) (l : List Sv) (i : Int) (w : World) (h : Sess w v l) (hl : SmS (cons l)) (s : Ses) (ok : Bool) (hf : sesFind (cons l) i = (s, ok)) :
    Calls Try.prog 22 #[v, .int .i64 i] w (RetFind w s ok) := by
  have HS := Lib.hid h
  have HL := Lib.hid (show ∀ x ∈ l, x.s.beats.length ≤ 1000 ∧ x.s.ch.send.fl.length ≤ 1000 from fun x hx => hl.2 x.s (by simp only [cons, List.mem_map]; exact ⟨x, hx, rfl⟩))
  have HFd := Lib.hid hf
  have hm : l.length ≤ 9223372036854775807 := h.1.1
  obtain ⟨p, cap, rfl, hcap⟩ := sess_shape h
  clear h hl hf
  go_enter Try.func22, Try.ntmps22
  go_upto_region 1 with fail
  refine gen_wp (fun w1 => Hid (Below w.heap.size w w1) ∧ Hid (w1.heap[w.heap.size]? = some (.cells #[.int .i64 0, .int .i64 0, .int .i64 0, .int .i64 0, .int .u8 0, .int .u8 0, .int .u8 0, .int .u8 0, .int .u8 0, .int .u8 0, .int .u8 0, .int .u8 0, .int .u8 0, .int .u8 0, .int .u8 0, .int .u8 0, .int .u8 0, .int .u8 0, .int .u8 0, .int .u8 0, .int .i64 0, .int .i64 0, .int .i64 0, .slice none 0 0, .int .i64 0, .int .i64 0, .int .i64 0, .slice none 0 0, .int .i64 0, .int .i64 0, .int .i64 0, .int .i64 0, .int .i64 0, .int .i64 0, .bool false] 38)) ∧ True) ⟨Lib.hid (by (repeat (first | (with_reducible exact Below.refl _ _) | (with_reducible refine bel_set (by first | omega | (simp; done) | (simp; omega)) ?_) | (with_reducible refine bel_alloc (by first | omega | (simp; done) | (simp; omega)) ?_) | (with_reducible refine bel_drew ?_) | (with_reducible refine bel_drewN ?_ _))); first | done | fail "left"), Lib.hid (by first | (simp [World.setCell, Array.getElem?_modify]; done) | (simp [World.setCell, Array.getElem?_modify]; omega) | ((repeat (first | (with_reducible exact heap_new _ _ _ (by first | rfl | (simp; done))) | (with_reducible refine keepa ?_ _) | (simp [World.setCell, Array.getElem?_modify]; done))); done)), trivial⟩ ?_
  rintro w1 ⟨BA, A1, -⟩
  have c_A1 := cell_of_block A1.out
  have f_A1 := frozen_of_block A1.out
  have hs1 := block_lt A1.out
  go_wp2_with fail
  go_loopw [6] (fun iv wr => ∃ k : Nat, k ≤ l.length ∧ iv = .int .i64 k ∧ (∀ j (hj : j < l.length), j < k → l[j].s.id ≠ i) ∧ w1 = wr) (fun iv _ => l.length - (intOf iv).toNat)
  case atStart => exact ⟨0, by omega, rfl, fun j _ hj => by omega, rfl⟩
  case round =>
    obtain ⟨k, hk, rfl, hall, rfl⟩ := hrel
    have HA := Lib.hid hall
    clear hall
    by_cases hlt : k < l.length
    · obtain ⟨b, o, rfl, _⟩ := HS.out.1.open (by omega)
      obtain ⟨x, hx⟩ : ∃ x, x = l[k] := ⟨_, rfl⟩
      have hxm : x ∈ l := by rw [hx]; exact List.getElem_mem hlt
      have R0 := Lib.hid (ses_row (HS.out.1.keep (by decide) BA.out) k hlt x hx)
      have k0 := f_id R0.out
      have HSx := Lib.hid (HS.out.2 x hxm)
      have HLx := Lib.hid (HL.out x hxm)
      have HXx := Lib.hid hx
      have t1 : (k : Int) < (l.length : Int) := by omega
      have t2 : (0 : Int) ≤ (k : Int) := by omega
      clear hx hxm
      by_cases hi : x.s.id = i
      · have u1 : (x.s.id == i) = true := by simp [hi]
        have HE := Lib.hid (show x.s = s ∧ ok = true by
          have e : (cons l).find? (fun s => decide (s.id = i)) = some x.s := by
            rw [List.find?_eq_some_iff_getElem]
            refine ⟨by simpa using hi, k, by simpa [cons] using hlt, by simp [cons, HXx.out], fun j hj => ?_⟩
            have := HA.out j (by omega) hj
            simpa [cons] using this
          have h2 := HFd.out
          unfold sesFind at h2
          rw [e] at h2
          simpa using h2)
        clear hi
        have hok := HE.out.2
        subst hok
        go_wp2_with (first | (refine ldl R0 rfl rfl rfl ?_) | (go_at_call 34; refine (rcopy_any x _ (HSx.out.keep BA.out) HLx.out.1 HLx.out.2).mono ?_; rintro e w5 ⟨y, hy, rfl, HY, B5⟩; have A1e := Lib.hid (keepb A1.out B5.out)) | (refine stl A1e rfl rfl rfl rfl rfl ?_; intro w6 A2' M6))
        have BX := Lib.hid (chain BA.out B5.out)
        have BX2 := Lib.hid (Mod.below M6.out BX.out (by have := B5.out.size; omega) (fun k hk => by omega))
        refine bodyPost_ret (v := .tuple #[.agg y.cells.toArray, .bool true]) (by rw [res_ses2 rfl rfl (rangeAt_block A2'.out)]; rfl) rfl ⟨y, by rw [hy, HE.out.1], rfl, Lib.hid ?_, BX2⟩
        exact SOk.mono (SOk.mod HY.out M6.out (fun k hk => by have := HY.out.bt.block k hk; omega) (fun k hk => by have := HY.out.fl.block k hk; omega)) (by omega)
      · have u1 : (x.s.id == i) = false := by simp [hi]
        have HA2 := Lib.hid (show ∀ j (hj : j < l.length), j < k + 1 → l[j].s.id ≠ i by
          intro j hj hjk
          by_cases e : j = k
          · subst e; rw [← HXx.out]; exact hi
          · exact HA.out j hj (by omega))
        clear hi
        go_wp2_with fail
        go_roundw
        case rel => exact ⟨k + 1, by omega, by go_num, HA2.out, by trivial⟩
        case measure => simp [intOf]; omega
    · have hke : k = l.length := by omega
      subst hke
      have HE := Lib.hid (show s = ses0 ∧ ok = false by
        have e : (cons l).find? (fun s => decide (s.id = i)) = none := by
          rw [List.find?_eq_none]
          intro s hs
          simp only [cons, List.mem_map] at hs
          obtain ⟨x, hx, rfl⟩ := hs
          obtain ⟨j, hj, rfl⟩ := List.getElem_of_mem hx
          simpa using HA.out j hj hj
        have h2 := HFd.out
        unfold sesFind at h2
        rw [e] at h2
        simp at h2
        exact ⟨h2.1.symm, h2.2⟩)
      obtain ⟨rfl, rfl⟩ := HE.out
      have t1 : decide ((l.length : Int) < (l.length : Int)) = false := by simp
      go_wp2_with (refine stl (x := sv0) A1 rfl rfl rfl rfl rfl ?_; intro w6 A2' M6)
      have BX2 := Lib.hid (Mod.below M6.out BA.out (by omega) (fun k hk => by omega))
      refine bodyPost_ret (v := .tuple #[.agg sv0.cells.toArray, .bool false]) (by rw [res_ses2 rfl rfl (rangeAt_block A2'.out)]; rfl) rfl ⟨sv0, rfl, rfl, Lib.hid (sok0 _ _ _ _), BX2⟩
end Go.Proofs.Ytlmkkfigmoefdaa.K

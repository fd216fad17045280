/-
  CONTRACTS of nightjarlaw18: of, small.
-/
import Derived.Test.YtlmkkfigmoefdaaSes12
import Derived.Test.YtlmkkfigmoefdaaSes13
set_option linter.unusedVariables false
set_option linter.unusedSimpArgs false
namespace Nj
def key0 : K16 := ⟨0, 0, 0, 0, 0, 0, 0, 0, 0, 0, 0, 0, 0, 0, 0, 0⟩
/-- a session that fits -/
def sesNew (i u : Int) : Ses := ⟨i, u, 0, 0, key0, 1, 0, 0, [⟨0, 5⟩], 1, 0, chStart⟩
end Nj
namespace Go.Proofs.Ytlmkkfigmoefdaa.K
open Go Go.RowKit Nj

theorem rstart11_any (w : World) : Calls Try.prog 69 #[] w fun e w' => e = .returned (.agg #[.int .i64 1, .slice none 0 0, .int .i64 1, .int .i64 0]) ∧ Hid (Below w.heap.size w w') := by
  go_enter Try.func69, Try.ntmps69
  go_upto_region 1 with fail
  refine gen_wp (fun w1 => Hid (w1.heap[w.heap.size]? = some (.cells #[.int .i64 0, .slice none 0 0, .int .i64 0, .int .i64 0] 32)) ∧ Hid (Below w.heap.size w w1) ∧ True) ⟨Lib.hid (by first | (simp [World.setCell, Array.getElem?_modify]; done) | (simp [World.setCell, Array.getElem?_modify]; omega) | ((repeat (first | (with_reducible exact heap_new _ _ _ (by first | rfl | (simp; done))) | (with_reducible refine keepa ?_ _) | (simp [World.setCell, Array.getElem?_modify]; done))); done)), Lib.hid (by (repeat (first | (with_reducible exact Below.refl _ _) | (with_reducible refine bel_set (by first | omega | (simp; done) | (simp; omega)) ?_) | (with_reducible refine bel_alloc (by first | omega | (simp; done) | (simp; omega)) ?_) | (with_reducible refine bel_drew ?_) | (with_reducible refine bel_drewN ?_ _))); first | done | fail "left"), trivial⟩ ?_
  rintro w1 ⟨A1, BA, -⟩
  have c_A1 := cell_of_block A1.out
  have f_A1 := frozen_of_block A1.out
  go_wp2_with fail
  exact bodyPost_ret (v := .agg #[.int .i64 1, .slice none 0 0, .int .i64 1, .int .i64 0]) (by simp [results, Try.results69, go_sem, World.setCell, Array.getElem?_modify, World.cell?, A1.out]) rfl ⟨rfl, Lib.hid (by have hbsz := Below.size (BA.out); (repeat (first | (with_reducible exact BA.out) | (with_reducible refine bel_set (by first | omega | (simp; done) | (simp; omega)) ?_) | (with_reducible refine bel_alloc (by first | omega | (simp; done) | (simp; omega)) ?_) | (with_reducible refine bel_drew ?_) | (with_reducible refine bel_drewN ?_ _))); first | done | fail "left")⟩
theorem rrttStart_at (w : World) : Calls Try.prog 70 #[] w fun e w' => e = .returned (.agg #[.int .i64 0, .int .i64 0, .int .i64 8, .int .i64 0, .bool false]) ∧ Hid (Below w.heap.size w w') :=
  (rrttStart_any w).mono fun _ _ h => ⟨h.1, Lib.hid h.2⟩
theorem rstart12_any (w : World) : Calls Try.prog 56 #[] w fun e w' => e = .returned (.agg #[.int .i64 1, .slice none 0 0, .int .i64 1, .int .i64 0, .int .i64 0, .int .i64 0, .int .i64 8, .int .i64 0, .bool false]) ∧ Hid (Below w.heap.size w w') := by
  go_enter Try.func56, Try.ntmps56
  go_upto_region 1 with fail
  refine gen_wp (fun w1 => Hid (w1.heap[w.heap.size]? = some (.cells #[.int .i64 0, .slice none 0 0, .int .i64 0, .int .i64 0, .int .i64 0, .int .i64 0, .int .i64 0, .int .i64 0, .bool false] 36)) ∧ Hid (Below w.heap.size w w1) ∧ True) ⟨Lib.hid (by first | (simp [World.setCell, Array.getElem?_modify]; done) | (simp [World.setCell, Array.getElem?_modify]; omega) | ((repeat (first | (with_reducible exact heap_new _ _ _ (by first | rfl | (simp; done))) | (with_reducible refine keepa ?_ _) | (simp [World.setCell, Array.getElem?_modify]; done))); done)), Lib.hid (by (repeat (first | (with_reducible exact Below.refl _ _) | (with_reducible refine bel_set (by first | omega | (simp; done) | (simp; omega)) ?_) | (with_reducible refine bel_alloc (by first | omega | (simp; done) | (simp; omega)) ?_) | (with_reducible refine bel_drew ?_) | (with_reducible refine bel_drewN ?_ _))); first | done | fail "left"), trivial⟩ ?_
  rintro w1 ⟨A1, BA, -⟩
  have c_A1 := cell_of_block A1.out
  have f_A1 := frozen_of_block A1.out
  go_wp2_with fail
  refine (rstart11_any _).mono ?_; rintro e w2 ⟨rfl, B2⟩
  replace A1 := Lib.hid (keepb A1.out B2.out)
  replace c_A1 := cell_of_block A1.out
  replace f_A1 := frozen_of_block A1.out
  replace BA := Lib.hid (chain BA.out B2.out)
  go_wp2_with fail
  refine (rrttStart_at _).mono ?_; rintro e w3 ⟨rfl, B3⟩
  replace A1 := Lib.hid (keepb A1.out B3.out)
  replace c_A1 := cell_of_block A1.out
  replace f_A1 := frozen_of_block A1.out
  replace BA := Lib.hid (chain BA.out B3.out)
  go_wp2_with fail
  exact bodyPost_ret (v := .agg #[.int .i64 1, .slice none 0 0, .int .i64 1, .int .i64 0, .int .i64 0, .int .i64 0, .int .i64 8, .int .i64 0, .bool false]) (by simp [results, Try.results56, go_sem, World.setCell, Array.getElem?_modify, World.cell?, A1.out]) rfl ⟨rfl, Lib.hid (by have hbsz := Below.size (BA.out); (repeat (first | (with_reducible exact BA.out) | (with_reducible refine bel_set (by first | omega | (simp; done) | (simp; omega)) ?_) | (with_reducible refine bel_alloc (by first | omega | (simp; done) | (simp; omega)) ?_) | (with_reducible refine bel_drew ?_) | (with_reducible refine bel_drewN ?_ _))); first | done | fail "left")⟩

set_option maxRecDepth 100000 in
set_option maxHeartbeats 8000000 in
theorem of_any (i u : Int) (w : World) : Calls Try.prog 32 #[.int .i64 i, .int .i64 u] w (RetOwn w (sesNew i u)) := by
  go_enter Try.func32, Try.ntmps32
  go_upto_region 1 with fail
  refine gen_wp (fun w1 => Hid (Below w.heap.size w w1) ∧ Hid (w1.heap[w.heap.size]? = some (.cells #[.int .i64 0, .int .i64 0, .int .i64 0, .int .i64 0, .int .u8 0, .int .u8 0, .int .u8 0, .int .u8 0, .int .u8 0, .int .u8 0, .int .u8 0, .int .u8 0, .int .u8 0, .int .u8 0, .int .u8 0, .int .u8 0, .int .u8 0, .int .u8 0, .int .u8 0, .int .u8 0, .int .i64 0, .int .i64 0, .int .i64 0, .slice none 0 0, .int .i64 0, .int .i64 0, .int .i64 0, .slice none 0 0, .int .i64 0, .int .i64 0, .int .i64 0, .int .i64 0, .int .i64 0, .int .i64 0, .bool false] 38)) ∧ True) ⟨Lib.hid (by (repeat (first | (with_reducible exact Below.refl _ _) | (with_reducible refine bel_set (by first | omega | (simp; done) | (simp; omega)) ?_) | (with_reducible refine bel_alloc (by first | omega | (simp; done) | (simp; omega)) ?_) | (with_reducible refine bel_drew ?_) | (with_reducible refine bel_drewN ?_ _))); first | done | fail "left"), Lib.hid (by first | (simp [World.setCell, Array.getElem?_modify]; done) | (simp [World.setCell, Array.getElem?_modify]; omega) | ((repeat (first | (with_reducible exact heap_new _ _ _ (by first | rfl | (simp; done))) | (with_reducible refine keepa ?_ _) | (simp [World.setCell, Array.getElem?_modify]; done))); done)), trivial⟩ ?_
  rintro w1 ⟨BA, A4, -⟩
  have c_A4 := cell_of_block A4.out
  have f_A4 := frozen_of_block A4.out
  have hs4 := block_lt A4.out
  go_wp2_with fail
  refine (rstart12_any _).mono ?_; rintro e w2 ⟨rfl, B2⟩
  have HO := Lib.hid (show Own 57 2 w1.heap.size w2 (.slice (some ⟨w1.heap.size, 0, none⟩) 1 1) 1 (flat Bt.cells [⟨0, 5⟩]) from Own.keep (own_lit _ _ _ _ _ _ 1 rfl (Nat.le_refl _) (by decide) rfl _ rfl) B2.out)
  have BX := Lib.hid (chain (BA.out.alloc BA.out.size (.cells #[.int .i64 0, .int .i64 5] 57)) B2.out)
  have A4x := Lib.hid (keepb (keepa A4.out (.cells #[.int .i64 0, .int .i64 5] 57)) B2.out)
  obtain ⟨y, hy⟩ : ∃ y : Sv, y = ⟨sesNew i u, some ⟨w1.heap.size, 0, none⟩, 1, none, 0⟩ := ⟨_, rfl⟩
  have HYs := Lib.hid (show y.s = sesNew i u by rw [hy])
  have HY := Lib.hid (show SOk 57 85 w1.heap.size w2 y by
    rw [hy]; exact ⟨HO.out, own_nil _ _ _ _, by show (1 : Int) ≤ 9223372036854775807; decide⟩)
  have HYv := Lib.hid (show y.cells.toArray = #[.int .i64 (sesNew i u).id, .int .i64 (sesNew i u).user, .int .i64 (sesNew i u).addr, .int .i64 (sesNew i u).nonce, .int .u8 (sesNew i u).key.k0, .int .u8 (sesNew i u).key.k1, .int .u8 (sesNew i u).key.k2, .int .u8 (sesNew i u).key.k3, .int .u8 (sesNew i u).key.k4, .int .u8 (sesNew i u).key.k5, .int .u8 (sesNew i u).key.k6, .int .u8 (sesNew i u).key.k7, .int .u8 (sesNew i u).key.k8, .int .u8 (sesNew i u).key.k9, .int .u8 (sesNew i u).key.k10, .int .u8 (sesNew i u).key.k11, .int .u8 (sesNew i u).key.k12, .int .u8 (sesNew i u).key.k13, .int .u8 (sesNew i u).key.k14, .int .u8 (sesNew i u).key.k15, .int .i64 (sesNew i u).status, .int .i64 (sesNew i u).opSeq, .int .i64 (sesNew i u).opCode, .slice (some ⟨w1.heap.size, 0, none⟩) (sesNew i u).beats.length 1, .int .i64 (sesNew i u).hst, .int .i64 (sesNew i u).hsi, .int .i64 (sesNew i u).ch.send.next, .slice none (sesNew i u).ch.send.fl.length 0, .int .i64 (sesNew i u).ch.send.cwnd, .int .i64 (sesNew i u).ch.send.acc, .int .i64 (sesNew i u).ch.rtt.s, .int .i64 (sesNew i u).ch.rtt.v, .int .i64 (sesNew i u).ch.rtt.rto, .int .i64 (sesNew i u).ch.rtt.fails, .bool (sesNew i u).ch.rtt.has] by rw [hy]; rfl)
  clear hy
  go_wp2_with (refine stl (x := y) A4x rfl rfl rfl rfl (by rw [HYv.out]; rfl) ?_; intro w6 A2' M6)
  have BX2 := Lib.hid (Mod.below M6.out BX.out (by have := BX.out.size; omega) (fun k hk => by omega))
  refine bodyPost_ret (v := .agg y.cells.toArray) (res_ses rfl rfl (rangeAt_block A2'.out)) rfl ⟨y, HYs.out, rfl, Lib.hid ?_, BX2⟩
  exact SOk.mono (SOk.mod HY.out M6.out (fun k hk => by have := HY.out.bt.block k hk; omega) (fun k hk => by have := HY.out.fl.block k hk; omega)) (by omega)

/-- what is sent, with another status -/
theorem sv_set20 (x : Sv) (v : Int) : x.cells.toArray.setIfInBounds 20 (.int .i64 v) = (Sv.cells ⟨{ x.s with status := v }, x.pb, x.cb, x.pf, x.cf⟩).toArray := rfl
theorem sv_nil23 (x : Sv) : x.cells.toArray.setIfInBounds 23 (.slice none 0 0) = (Sv.cells ⟨{ x.s with beats := [] }, none, 0, x.pf, x.cf⟩).toArray := rfl
def s31 : Ses := sesNew 3 1
def s52 : Ses := sesNew 5 2
def s52b : Ses := { s52 with status := 2 }
theorem sm1 : SmS [s31] := by unfold SmS; decide
theorem sm2 : SmS [s31, s52] := by unfold SmS; decide
theorem sm3 : SmS [s31, s52b] := by unfold SmS; decide
theorem sm4 : SmS [s52b] := by unfold SmS; decide

set_option maxRecDepth 100000 in
set_option maxHeartbeats 16000000 in
theorem small18_any (w : World) :
    Calls Try.prog 8 #[] w fun e w' => e = .returned (.bool true) ∧ Hid (Below w.heap.size w w') := by
  go_enter Try.func8, Try.ntmps8
  have BA := Lib.hid (Below.refl w.heap.size w)
  go_wp2_with fail
  refine (of_any 3 1 _).mono ?_
  rintro e w1 ⟨y1, hy1, rfl, HY1, B1⟩
  have Y1 := Lib.hid HY1.out.ok
  replace BA := Lib.hid (chain BA.out B1.out)
  clear B1 HY1
  go_wp2_with fail
  refine (sesopen_any _ [] y1 _ (sess_nil _) ⟨by decide, by simp [cons]⟩ Y1.out [s31] 0 (by rw [hy1]; decide)).mono ?_
  rintro e w2 ⟨p1, cap1, L1, hL1, rfl, HO1, B2⟩
  have T1 := Lib.hid HO1.out.sess
  replace BA := Lib.hid (chain BA.out B2.out)
  clear B2 HO1 Y1 hy1
  go_wp2_with fail
  refine (of_any 5 2 _).mono ?_
  rintro e w3 ⟨y3, hy3, rfl, HY3, B3⟩
  have Y3 := Lib.hid HY3.out.ok
  replace T1 := Lib.hid (T1.out.keep B3.out)
  replace BA := Lib.hid (chain BA.out B3.out)
  clear B3 HY3
  go_wp2_with fail
  refine (sesopen_any _ L1 y3 _ T1.out (by rw [hL1]; exact sm1) Y3.out [s31, s52] 0 (by rw [hL1, hy3]; decide)).mono ?_
  rintro e w4 ⟨p3, cap3, L3, hL3, rfl, HO3, B4⟩
  have T3 := Lib.hid HO3.out.sess
  replace T1 := Lib.hid (T1.out.keep B4.out)
  replace BA := Lib.hid (chain BA.out B4.out)
  clear B4 HO3 Y3 hy3 T1
  go_wp2_with fail
  refine (of_any 5 2 _).mono ?_
  rintro e w5 ⟨y5, hy5, rfl, HY5, B5⟩
  have Y5 := Lib.hid HY5.out.ok
  replace T3 := Lib.hid (T3.out.keep B5.out)
  replace BA := Lib.hid (chain BA.out B5.out)
  clear B5 HY5
  go_wp2_with fail
  refine (sesopen_any _ L3 y5 _ T3.out (by rw [hL3]; exact sm2) Y5.out [s31, s52] 1 (by rw [hL3, hy5]; decide)).mono ?_
  rintro e w6 ⟨p5, cap5, L5, hL5, rfl, -, B6⟩
  replace T3 := Lib.hid (T3.out.keep B6.out)
  replace BA := Lib.hid (chain BA.out B6.out)
  clear B6 Y5 hy5
  go_wp2_with fail
  refine (sfind_any _ L3 5 _ T3.out (by rw [hL3]; exact sm2) s52 true (by rw [hL3]; decide)).mono ?_
  rintro e w7 ⟨y7, hy7, rfl, HY7, B7⟩
  have Y7 := Lib.hid HY7.out.ok
  replace T3 := Lib.hid (T3.out.keep B7.out)
  replace BA := Lib.hid (chain BA.out B7.out)
  clear B7 HY7
  go_upto_region 5 with (refine stl (Lib.hid (heap_new w7 (.cells #[.int .i64 0, .int .i64 0, .int .i64 0, .int .i64 0, .int .u8 0, .int .u8 0, .int .u8 0, .int .u8 0, .int .u8 0, .int .u8 0, .int .u8 0, .int .u8 0, .int .u8 0, .int .u8 0, .int .u8 0, .int .u8 0, .int .u8 0, .int .u8 0, .int .u8 0, .int .u8 0, .int .i64 0, .int .i64 0, .int .i64 0, .slice none 0 0, .int .i64 0, .int .i64 0, .int .i64 0, .slice none 0 0, .int .i64 0, .int .i64 0, .int .i64 0, .int .i64 0, .int .i64 0, .int .i64 0, .bool false] 38) w7.heap.size rfl)) rfl rfl rfl rfl rfl ?_; intro w8 A7 M8; have B8 := Lib.hid (Mod.below (B := w7.heap.size) M8.out ((Below.refl w7.heap.size w7).alloc (Nat.le_refl _) _) (by simp) (fun k hk => by omega)))
  (try simp only [Act.put])
  clear M8
  obtain ⟨z7, hz7⟩ : ∃ z : Sv, z = ⟨{ y7.s with status := 2 }, y7.pb, y7.cb, y7.pf, y7.cf⟩ := ⟨_, rfl⟩
  have Z7s := Lib.hid (show z7.s = s52b by rw [hz7, hy7]; rfl)
  have Z7 := Lib.hid (show Sok w7 z7 by rw [hz7]; exact ⟨Y7.out.bt, Y7.out.fl, Y7.out.nx⟩)
  have f7 := frozen_of_block A7.out
  have k7 := g_status (rangeAt_block A7.out)
  have hs7 := block_lt A7.out
  go_upto_region 6 with fail
  refine gen_wp (fun w9 => Hid (w9.heap[w7.heap.size]? = some (.cells z7.cells.toArray 38)) ∧ Hid (Below w7.heap.size w7 w9) ∧ True) ⟨Lib.hid (by rw [hz7, ← sv_set20 y7 2]; exact heap_set_same A7.out _ _), Lib.hid (by have hbsz := Below.size (B8.out); (repeat (first | (with_reducible exact B8.out) | (with_reducible refine bel_set (by first | omega | (simp; done) | (simp; omega)) ?_) | (with_reducible refine bel_alloc (by first | omega | (simp; done) | (simp; omega)) ?_) | (with_reducible refine bel_drew ?_) | (with_reducible refine bel_drewN ?_ _))); first | done | fail "left"), trivial⟩ ?_
  rintro w9 ⟨A7n, B9, -⟩
  clear f7 k7 hs7 A7 B8 hz7 Y7 hy7
  replace T3 := Lib.hid (T3.out.keep B9.out)
  replace Z7 := Lib.hid (Z7.out.keep B9.out)
  replace BA := Lib.hid (chain BA.out B9.out)
  clear B9
  have R7 := Lib.hid (rangeAt_block A7n.out)
  go_wp2_with (refine ldl R7 rfl rfl rfl ?_)
  refine (sesput_any _ L3 z7 _ T3.out (by rw [hL3]; exact sm2) Z7.out [s31, s52b] true (by rw [hL3, Z7s.out]; decide)).mono ?_
  rintro e w10 ⟨p9, cap9, L9, hL9, rfl, HO9, B10⟩
  have T9 := Lib.hid HO9.out.sess
  replace T3 := Lib.hid (T3.out.keep B10.out)
  replace Z7 := Lib.hid (Z7.out.keep B10.out)
  replace A7n := Lib.hid (keepb A7n.out B10.out)
  replace BA := Lib.hid (chain BA.out B10.out)
  clear B10 HO9 R7
  go_wp2_with fail
  refine (of_any 4 1 _).mono ?_
  rintro e w11 ⟨y11, hy11, rfl, HY11, B11⟩
  have Y11 := Lib.hid HY11.out.ok
  replace T3 := Lib.hid (T3.out.keep B11.out)
  replace T9 := Lib.hid (T9.out.keep B11.out)
  replace Z7 := Lib.hid (Z7.out.keep B11.out)
  replace A7n := Lib.hid (keepb A7n.out B11.out)
  replace BA := Lib.hid (chain BA.out B11.out)
  clear B11 HY11
  go_wp2_with fail
  refine (sesput_any _ L3 y11 _ T3.out (by rw [hL3]; exact sm2) Y11.out [s31, s52] false (by rw [hL3, hy11]; decide)).mono ?_
  rintro e w12 ⟨p11, cap11, L11, hL11, rfl, -, B12⟩
  replace T3 := Lib.hid (T3.out.keep B12.out)
  replace T9 := Lib.hid (T9.out.keep B12.out)
  replace Z7 := Lib.hid (Z7.out.keep B12.out)
  replace A7n := Lib.hid (keepb A7n.out B12.out)
  replace BA := Lib.hid (chain BA.out B12.out)
  clear B12 Y11 hy11
  go_wp2_with fail
  refine (sesclose_any _ L9 3 _ T9.out (by rw [hL9]; exact sm3) [s52b] true (by rw [hL9]; decide)).mono ?_
  rintro e w13 ⟨p13, cap13, L13, hL13, rfl, HO13, B13⟩
  have T13 := Lib.hid HO13.out.sess
  replace T3 := Lib.hid (T3.out.keep B13.out)
  replace T9 := Lib.hid (T9.out.keep B13.out)
  replace Z7 := Lib.hid (Z7.out.keep B13.out)
  replace A7n := Lib.hid (keepb A7n.out B13.out)
  replace BA := Lib.hid (chain BA.out B13.out)
  clear B13 HO13
  go_wp2_with fail
  refine (sfind_any _ L13 3 _ T13.out (by rw [hL13]; exact sm4) ses0 false (by rw [hL13]; decide)).mono ?_
  rintro e w14 ⟨y14, hy14, rfl, -, B14⟩
  replace T3 := Lib.hid (T3.out.keep B14.out)
  replace T9 := Lib.hid (T9.out.keep B14.out)
  replace Z7 := Lib.hid (Z7.out.keep B14.out)
  replace A7n := Lib.hid (keepb A7n.out B14.out)
  replace BA := Lib.hid (chain BA.out B14.out)
  clear B14 T13
  go_upto_region 10 with (refine stl (Lib.hid (heap_new w14 (.cells #[.int .i64 0, .int .i64 0, .int .i64 0, .int .i64 0, .int .u8 0, .int .u8 0, .int .u8 0, .int .u8 0, .int .u8 0, .int .u8 0, .int .u8 0, .int .u8 0, .int .u8 0, .int .u8 0, .int .u8 0, .int .u8 0, .int .u8 0, .int .u8 0, .int .u8 0, .int .u8 0, .int .i64 0, .int .i64 0, .int .i64 0, .slice none 0 0, .int .i64 0, .int .i64 0, .int .i64 0, .slice none 0 0, .int .i64 0, .int .i64 0, .int .i64 0, .int .i64 0, .int .i64 0, .int .i64 0, .bool false] 38) w14.heap.size rfl)) rfl rfl rfl rfl rfl ?_; intro w15 A15 M15; have B15 := Lib.hid (Mod.below (B := w14.heap.size) M15.out ((Below.refl w14.heap.size w14).alloc (Nat.le_refl _) _) (by simp) (fun k hk => by omega)))
  (try simp only [Act.put])
  replace T3 := Lib.hid (T3.out.keep B15.out)
  replace T9 := Lib.hid (T9.out.keep B15.out)
  replace Z7 := Lib.hid (Z7.out.keep B15.out)
  replace A7n := Lib.hid (keepb A7n.out B15.out)
  replace BA := Lib.hid (chain BA.out B15.out)
  clear B15 M15 A15 hy14
  go_wp2_with fail
  refine (of_any 9 1 _).mono ?_
  rintro e w16 ⟨y16, hy16, rfl, HY16, B16⟩
  replace T3 := Lib.hid (T3.out.keep B16.out)
  replace T9 := Lib.hid (T9.out.keep B16.out)
  replace Z7 := Lib.hid (Z7.out.keep B16.out)
  replace A7n := Lib.hid (keepb A7n.out B16.out)
  replace BA := Lib.hid (chain BA.out B16.out)
  clear B16
  go_upto_region 11 with (refine stl (Lib.hid (heap_new w16 (.cells #[.int .i64 0, .int .i64 0, .int .i64 0, .int .i64 0, .int .u8 0, .int .u8 0, .int .u8 0, .int .u8 0, .int .u8 0, .int .u8 0, .int .u8 0, .int .u8 0, .int .u8 0, .int .u8 0, .int .u8 0, .int .u8 0, .int .u8 0, .int .u8 0, .int .u8 0, .int .u8 0, .int .i64 0, .int .i64 0, .int .i64 0, .slice none 0 0, .int .i64 0, .int .i64 0, .int .i64 0, .slice none 0 0, .int .i64 0, .int .i64 0, .int .i64 0, .int .i64 0, .int .i64 0, .int .i64 0, .bool false] 38) w16.heap.size rfl)) rfl rfl rfl rfl rfl ?_; intro w17 A17 M17; have B17 := Lib.hid (Mod.below (B := w16.heap.size) M17.out ((Below.refl w16.heap.size w16).alloc (Nat.le_refl _) _) (by simp) (fun k hk => by omega)))
  (try simp only [Act.put])
  clear M17
  obtain ⟨z17, hz17⟩ : ∃ z : Sv, z = ⟨{ y16.s with beats := [] }, none, 0, y16.pf, y16.cf⟩ := ⟨_, rfl⟩
  have Z17s := Lib.hid (show sesFits z17.s = false by rw [hz17]; show sesFits { y16.s with beats := [] } = false; rw [hy16]; decide)
  have Z17 := Lib.hid (show Sok w16 z17 by rw [hz17]; exact ⟨sl_nil 2 _, HY16.out.ok.fl, HY16.out.nx⟩)
  have f17 := frozen_of_block A17.out
  have k17 := g_bts (rangeAt_block A17.out)
  have hs17 := block_lt A17.out
  clear HY16
  go_upto_region 12 with fail
  refine gen_wp (fun w18 => Hid (w18.heap[w16.heap.size]? = some (.cells z17.cells.toArray 38)) ∧ Hid (Below w16.heap.size w16 w18) ∧ True) ⟨Lib.hid (by rw [hz17, ← sv_nil23 y16]; exact heap_set_same A17.out _ _), Lib.hid (by have hbsz := Below.size (B17.out); (repeat (first | (with_reducible exact B17.out) | (with_reducible refine bel_set (by first | omega | (simp; done) | (simp; omega)) ?_) | (with_reducible refine bel_alloc (by first | omega | (simp; done) | (simp; omega)) ?_) | (with_reducible refine bel_drew ?_) | (with_reducible refine bel_drewN ?_ _))); first | done | fail "left"), trivial⟩ ?_
  rintro w18 ⟨A17n, B18, -⟩
  clear f17 k17 hs17 A17 B17 hz17 hy16
  replace T3 := Lib.hid (T3.out.keep B18.out)
  replace T9 := Lib.hid (T9.out.keep B18.out)
  replace Z7 := Lib.hid (Z7.out.keep B18.out)
  replace Z17 := Lib.hid (Z17.out.keep B18.out)
  replace A7n := Lib.hid (keepb A7n.out B18.out)
  replace BA := Lib.hid (chain BA.out B18.out)
  clear B18
  have hl9 : L9.length ≤ 1000 := by have := congrArg List.length hL9; simp [cons] at this; omega
  have g13 := int_rule (show (L13.length : Int) = 1 by have := congrArg List.length hL13; simp [cons] at this; omega)
  have BZ := Lib.hid (Below.refl w18.heap.size w18)
  have HC1 := Lib.hid (fun W (B : Below w18.heap.size w18 W) => sesof_any _ L9 2 W (T9.out.keep B) hl9 [5] (by rw [hL9]; decide))
  have HC2 := Lib.hid (fun W (B : Below w18.heap.size w18 W) => sesstatuses_any _ L9 2 W (T9.out.keep B) hl9 [2] (by rw [hL9]; decide))
  have HC3 := Lib.hid (fun v v' D W (h : Ints W v D) (h' : Ints W v' D) => (isame_any v v' D D W h h').mono fun e W' hh => (⟨by rw [hh.1]; simp, hh.2⟩ : e = Ending.returned (.bool true) ∧ Hid (Below W.heap.size W W')))
  have HC4 := Lib.hid (fun W (B : Below w18.heap.size w18 W) => sesright_any _ L9 W (T9.out.keep B))
  rw [show sesRight (cons L9) = true by rw [hL9]; decide] at HC4
  have HC5 := Lib.hid (fun W (B : Below w18.heap.size w18 W) => sfits_any z7 W (Z7.out.keep B))
  rw [show sesFits z7.s = true by rw [Z7s.out]; decide] at HC5
  have HC6 := Lib.hid (fun W (B : Below w18.heap.size w18 W) => sfits_any z17 W (Z17.out.keep B))
  rw [Z17s.out] at HC6
  have HC7 := Lib.hid (fun W => sfits_any sv0 W (sok0 57 85 0 W).ok)
  rw [show sesFits sv0.s = false by decide] at HC7
  have HC8 := Lib.hid (fun W (B : Below w18.heap.size w18 W) => sescopy_any _ L9 W (T9.out.keep B) (by rw [hL9]; exact sm3))
  have HC9 := Lib.hid (fun v (L : List Sv) W (B : Below w18.heap.size w18 W) (h : Sess W v L) (hL : cons L = cons L9) => sesame_any v _ L L9 true W h (T9.out.keep B) (by rw [hL]; simp))
  have HC10 := Lib.hid (fun W (B : Below w18.heap.size w18 W) => sesame_any _ _ L9 L3 false W (T9.out.keep B) (T3.out.keep B) (by rw [hL9, hL3]; decide))
  clear T3 T9 Z7 Z17 hL1 hL3 hL5 hL9 hL11 hL13 hl9 Z7s Z17s
  go_wp2_with (first
    | (go_at_call 26; refine (HC1.out _ BZ.out).mono ?_; rintro e wa ⟨pa, capa, rfl, OA, Ba⟩; replace BZ := Lib.hid (chain BZ.out Ba.out); clear HC1 Ba)
    | (go_at_call 28; refine (HC2.out _ BZ.out).mono ?_; rintro e wb ⟨pb, capb, rfl, OB, Bb⟩; replace BZ := Lib.hid (chain BZ.out Bb.out); clear HC2 Bb)
    | (go_at_call 25; refine (HC3.out _ _ [5] _ (ints_of_own (OA.out.alloc _)).2 (ints_of_own (xs := [5]) (own_lit 3 1 wa.heap.size wa _ #[.int .i64 5] 1 rfl (Nat.le_refl _) (by decide) rfl _ rfl)).2).mono ?_; rintro e wc ⟨rfl, Bc⟩; replace BZ := Lib.hid (chain (BZ.out.alloc BZ.out.size _) Bc.out); clear OA Bc)
    | (go_at_call 25; refine (HC3.out _ _ [2] _ (ints_of_own (OB.out.alloc _)).2 (ints_of_own (xs := [2]) (own_lit 3 1 wb.heap.size wb _ #[.int .i64 2] 1 rfl (Nat.le_refl _) (by decide) rfl _ rfl)).2).mono ?_; rintro e wd ⟨rfl, Bd⟩; replace BZ := Lib.hid (chain (BZ.out.alloc BZ.out.size _) Bd.out); clear OB Bd HC3)
    | (go_at_call 10; refine (HC4.out _ BZ.out).mono ?_; rintro e we ⟨rfl, Be⟩; replace BZ := Lib.hid (chain BZ.out Be.out); have R7 := Lib.hid (rangeAt_block (keepb A7n.out BZ.out)); clear HC4 Be A7n)
    | (refine ldg R7 rfl rfl rfl ?_)
    | (go_at_call 13; refine (HC5.out _ BZ.out).mono ?_; rintro e wf ⟨rfl, Bf⟩; replace BZ := Lib.hid (chain BZ.out Bf.out); have R17 := Lib.hid (rangeAt_block (keepb A17n.out BZ.out)); clear HC5 Bf R7 A17n)
    | (refine ldg R17 rfl rfl rfl ?_)
    | (go_at_call 13; refine (HC6.out _ BZ.out).mono ?_; rintro e wg ⟨rfl, Bg⟩; replace BZ := Lib.hid (chain BZ.out Bg.out); clear HC6 Bg R17)
    | (go_at_call 13; refine (HC7.out _).mono ?_; rintro e wh ⟨rfl, Bh⟩; replace BZ := Lib.hid (chain BZ.out Bh.out); clear HC7 Bh)
    | (go_at_call 31; refine (HC8.out _ BZ.out).mono ?_; rintro e wi ⟨pi, capi, Li, hLi, rfl, Oi, Bi⟩; replace BZ := Lib.hid (chain BZ.out Bi.out); clear HC8 Bi)
    | (go_at_call 30; refine (HC9.out _ Li _ BZ.out Oi.out.sess hLi).mono ?_; rintro e wj ⟨rfl, Bj⟩; replace BZ := Lib.hid (chain BZ.out Bj.out); clear HC9 Bj Oi hLi)
    | (go_at_call 30; refine (HC10.out _ BZ.out).mono ?_; rintro e wk ⟨rfl, Bk⟩; replace BZ := Lib.hid (chain BZ.out Bk.out)))
  go_ret
  exact ⟨rfl, Lib.hid (chain BA.out BZ.out)⟩
end Go.Proofs.Ytlmkkfigmoefdaa.K

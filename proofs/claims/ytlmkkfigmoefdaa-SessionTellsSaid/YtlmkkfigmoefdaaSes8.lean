/-
  CONTRACTS: slices.Equal of heartbeats, session.Same$1.
-/
import Derived.Test.YtlmkkfigmoefdaaSes1
import Derived.Test.YtlmkkfigmoefdaaSesBaseC
import Derived.Deep.DeepCutAuto
import Derived.ChangeKeysEq
set_option linter.unusedVariables false
set_option linter.unusedSimpArgs false
namespace Go.Proofs.Ytlmkkfigmoefdaa.K
open Go Go.RowKit Nj

theorem bts_shape {w : World} {v : Value} {l : List Bt} (h : Bts w v l) : ∃ p cap, v = .slice p l.length cap ∧ l.length ≤ cap := by
  obtain ⟨_, _, p, cap, rfl, hcap, _⟩ := h
  exact ⟨p, cap, rfl, hcap⟩
theorem bts_row {w w' : World} {b o cap : Nat} {l : List Bt} {n : Nat} (h : Hid (Bts w (.slice (some ⟨b, o, none⟩) n cap) l)) (hb : Below w.heap.size w w') (i : Nat) (hi : i < l.length) (x : Bt) (hx : x = l[i]) :
    w'.cell? ⟨b, o + i * 2, none⟩ = some (.int .i64 x.seq) ∧ w'.cell? ⟨b, o + i * 2 + 1, none⟩ = some (.int .i64 x.at_) := by
  subst hx
  exact ⟨Sl.elem bt_two (h.out.keep (by decide) hb) i 0 hi (by decide) _ rfl, Sl.elem bt_two (h.out.keep (by decide) hb) i 1 hi (by decide) _ rfl⟩

set_option maxHeartbeats 2000000 in
theorem bequal_any (v v' : Value) (l m : List Bt) (w : World) (h : Bts w v l) (h' : Bts w v' m) :
    Calls Try.prog 52 #[v, v'] w fun e w' => e = .returned (.bool (decide (l = m))) ∧ Hid (Below w.heap.size w w') := by
  have HS := Lib.hid h
  have HS' := Lib.hid h'
  have hm : l.length ≤ 9223372036854775807 := h.1
  have hm' : m.length ≤ 9223372036854775807 := h'.1
  obtain ⟨p, cap, rfl, hcap⟩ := bts_shape h
  obtain ⟨p', cap', rfl, hcap'⟩ := bts_shape h'
  clear h h'
  by_cases hlen : l.length = m.length
  · have HL := Lib.hid hlen
    obtain ⟨n, hn⟩ : ∃ n, n = l.length := ⟨_, rfl⟩
    have hn' : n = m.length := by omega
    rw [← hn] at hm hcap
    rw [← hn'] at hm' hcap'
    have HN := Lib.hid hn
    have HN' := Lib.hid hn'
    rw [← hn, ← hn']
    rw [← hn] at HS
    rw [← hn'] at HS'
    clear hlen hn hn' hm'
    go_enter Try.func52, Try.ntmps52
    go_wp2_with fail
    go_loopw [13] (fun i wr => ∃ k : Nat, k ≤ n ∧ i = .int .i64 k ∧ l.take k = m.take k ∧ Below w.heap.size w wr) (fun i _ => n - (intOf i).toNat)
    case atStart => exact ⟨0, by omega, rfl, by simp, Below.refl _ _⟩
    case round =>
      obtain ⟨k, hk, rfl, hall, hwb⟩ := hrel
      have HA := Lib.hid hall
      have HW := Lib.hid hwb
      clear hall hwb
      by_cases hlt : k < n
      · have hltl : k < l.length := by rw [← HN.out]; exact hlt
        have hltm : k < m.length := by rw [← HN'.out]; exact hlt
        obtain ⟨b, o, rfl, _⟩ := HS.out.open (by omega)
        obtain ⟨b', o', rfl, _⟩ := HS'.out.open (by omega)
        obtain ⟨x, hx⟩ : ∃ x, x = l[k] := ⟨_, rfl⟩
        obtain ⟨y, hy⟩ : ∃ y, y = m[k] := ⟨_, rfl⟩
        obtain ⟨c0, c1⟩ := bts_row HS HW.out k hltl x hx
        obtain ⟨d0, d1⟩ := bts_row HS' HW.out k hltm y hy
        have HX := Lib.hid hx
        have HY := Lib.hid hy
        have t1 : (k : Int) < (n : Int) := by omega
        have t2 : (0 : Int) ≤ (k : Int) := by omega
        clear hx hy
        by_cases hxy : x = y
        · have hne := fun w => neq_bt x y w
          simp only [hxy, decide_true, Bool.not_true] at hne
          have HT := Lib.hid (show l.take (k + 1) = m.take (k + 1) by
            rw [List.take_add_one, List.take_add_one, HA.out, List.getElem?_eq_getElem hltl, List.getElem?_eq_getElem hltm, ← HX.out, ← HY.out, hxy])
          subst hxy
          go_wp2_with fail
          go_quiet (fail)
          go_wp2_with fail
          go_roundw
          case rel => exact ⟨k + 1, by omega, by go_num, HT.out, bel_drewN HW.out _⟩
          case measure => simp [intOf]; omega
        · have hne := fun w => neq_bt x y w
          simp only [hxy, decide_false, Bool.not_false] at hne
          have HF := Lib.hid (show decide (l = m) = false by
            simp only [decide_eq_false_iff_not]
            rintro rfl
            exact hxy (by rw [HX.out, HY.out]))
          clear hxy
          go_wp2_with fail
          go_quiet (fail)
          go_wp2_with fail
          go_ret
          exact ⟨ret_bool HF.out.symm, Lib.hid (bel_drewN HW.out _)⟩
      · have hke : k = n := by omega
        subst hke
        have HF := Lib.hid (show decide (l = m) = true by
          have := HA.out
          rw [List.take_of_length_le (by rw [← HN.out]; exact Nat.le_refl _), List.take_of_length_le (by rw [← HN'.out]; exact Nat.le_refl _)] at this
          simpa using this)
        have t1 : decide ((k : Int) < (k : Int)) = false := by simp
        go_wp2_with fail
        go_ret
        exact ⟨ret_bool HF.out.symm, HW⟩
  · have HF := Lib.hid (show decide (l = m) = false by
      simp only [decide_eq_false_iff_not]
      rintro rfl
      exact hlen rfl)
    have t1 : ((l.length : Int) != (m.length : Int)) = true := by simp; omega
    go_enter Try.func52, Try.ntmps52
    go_wp2_with fail
    go_ret
    exact ⟨ret_bool HF.out.symm, Lib.hid (Below.refl _ _)⟩


theorem eql_u8 (a b : Int) (w : World) : (Op.equalIn 9999 5 (.int .u8 a) (.int .u8 b)).run Try.prog w = .ok (a == b) w := by
  have he0 : ∀ (d : Nat) (a b : Int) W, (Op.equalIn (d + 1) 5 (.int .u8 a) (.int .u8 b)).run Try.prog W = .ok (a == b) W := fun d a b W => by
    simp [Op.equalIn, run_underlying Try.underlying5]
  exact he0 9998 a b w
theorem eq_items (xs ys : Array Value) (A B : Nat → Int) (w : World) : ∀ (is : List Nat), (∀ i ∈ is, (part 5 xs (i * 1)).run Try.prog w = .ok (.int .u8 (A i)) w ∧ (part 5 ys (i * 1)).run Try.prog w = .ok (.int .u8 (B i)) w) →
    (Op.eqItems 9999 5 1 xs ys is).run Try.prog w = .ok (is.all fun i => A i == B i) w
  | [], _ => by simp [Op.eqItems]
  | i :: is, h => by
    obtain ⟨h1, h2⟩ := h i (by simp)
    have ih := eq_items xs ys A B w is (fun j hj => h j (by simp [hj]))
    simp only [Op.eqItems, Sem.run_bind, h1, h2, eql_u8, Result.andThen_ok, List.all_cons]
    cases A i == B i
    · simp
    · simpa using ih
theorem part_u8 (xs : Array Value) (i : Nat) (a : Int) (w : World) (h : xs[i]? = some (.int .u8 a)) : (part 5 xs (i * 1)).run Try.prog w = .ok (.int .u8 a) w := by
  rw [Nat.mul_one]
  simp [part, isAgg, run_underlying Try.underlying5, Sem.run_bind, h]
set_option maxRecDepth 100000 in
set_option maxHeartbeats 4000000 in
theorem eql_key (k k' : K16) (w : World) : (binOp .eql 26 (.agg #[.int .u8 k.k0, .int .u8 k.k1, .int .u8 k.k2, .int .u8 k.k3, .int .u8 k.k4, .int .u8 k.k5, .int .u8 k.k6, .int .u8 k.k7, .int .u8 k.k8, .int .u8 k.k9, .int .u8 k.k10, .int .u8 k.k11, .int .u8 k.k12, .int .u8 k.k13, .int .u8 k.k14, .int .u8 k.k15]) (.agg #[.int .u8 k'.k0, .int .u8 k'.k1, .int .u8 k'.k2, .int .u8 k'.k3, .int .u8 k'.k4, .int .u8 k'.k5, .int .u8 k'.k6, .int .u8 k'.k7, .int .u8 k'.k8, .int .u8 k'.k9, .int .u8 k'.k10, .int .u8 k'.k11, .int .u8 k'.k12, .int .u8 k'.k13, .int .u8 k'.k14, .int .u8 k'.k15])).run Try.prog w = .ok (.bool (decide (k = k'))) w := by
  obtain ⟨i5, hi5⟩ : ∃ i, Try.prog.info? 5 = some i := ⟨_, rfl⟩
  have hc : Try.prog.cellsOf 5 = 1 := by kernel_rfl
  have E := Lib.hid (show (k = k') ↔ k.k0 = k'.k0 ∧ k.k1 = k'.k1 ∧ k.k2 = k'.k2 ∧ k.k3 = k'.k3 ∧ k.k4 = k'.k4 ∧ k.k5 = k'.k5 ∧ k.k6 = k'.k6 ∧ k.k7 = k'.k7 ∧ k.k8 = k'.k8 ∧ k.k9 = k'.k9 ∧ k.k10 = k'.k10 ∧ k.k11 = k'.k11 ∧ k.k12 = k'.k12 ∧ k.k13 = k'.k13 ∧ k.k14 = k'.k14 ∧ k.k15 = k'.k15 by cases k; cases k'; simp)
  go_simp
  rw [show (10000 : Nat) = 9999 + 1 from rfl, run_equalIn_array w 9999 _ _ Try.underlying26 hi5, hc,
    eq_items _ _ (fun i => [k.k0, k.k1, k.k2, k.k3, k.k4, k.k5, k.k6, k.k7, k.k8, k.k9, k.k10, k.k11, k.k12, k.k13, k.k14, k.k15].getD i 0) (fun i => [k'.k0, k'.k1, k'.k2, k'.k3, k'.k4, k'.k5, k'.k6, k'.k7, k'.k8, k'.k9, k'.k10, k'.k11, k'.k12, k'.k13, k'.k14, k'.k15].getD i 0) w (List.range 16) (fun i hi => by
      have hi16 : i < 16 := by simpa using hi
      obtain rfl | rfl | rfl | rfl | rfl | rfl | rfl | rfl | rfl | rfl | rfl | rfl | rfl | rfl | rfl | rfl : i = 0 ∨ i = 1 ∨ i = 2 ∨ i = 3 ∨ i = 4 ∨ i = 5 ∨ i = 6 ∨ i = 7 ∨ i = 8 ∨ i = 9 ∨ i = 10 ∨ i = 11 ∨ i = 12 ∨ i = 13 ∨ i = 14 ∨ i = 15 := by omega
      all_goals exact ⟨part_u8 _ _ _ _ rfl, part_u8 _ _ _ _ rfl⟩)]
  simp only [Result.andThen_ok]
  congr 2
  rw [show List.range 16 = [0, 1, 2, 3, 4, 5, 6, 7, 8, 9, 10, 11, 12, 13, 14, 15] from rfl, Bool.eq_iff_iff, decide_eq_true_eq, E.out]
  simp [List.all_cons]
theorem eql_health (a b a' b' : Int) (w : World) : (binOp .eql 29 (.agg #[.int .i64 a, .int .i64 b]) (.agg #[.int .i64 a', .int .i64 b'])).run Try.prog w = .ok (.bool (decide (a = a' ∧ b = b'))) w := by
  go_simp
  (repeat' split) <;> simp_all
theorem ses_eq (x y : Ses) : decide (x = y) = ((decide (x.beats = y.beats) && (decide (x.ch = y.ch) && (decide (x.key = y.key) && decide (x.hst = y.hst ∧ x.hsi = y.hsi)))) && decide (x.id = y.id ∧ x.user = y.user ∧ x.addr = y.addr ∧ x.nonce = y.nonce ∧ x.status = y.status ∧ x.opSeq = y.opSeq ∧ x.opCode = y.opCode)) := by
  cases x; cases y
  rw [Bool.eq_iff_iff]
  simp
  constructor <;> (intro h; simp_all)

set_option maxRecDepth 100000 in
set_option maxHeartbeats 8000000 in
theorem ssame1_any (x y : Sv) (w : World) (hx : Sok w x) (hy : Sok w y) :
    Calls Try.prog 51 #[.agg x.cells.toArray, .agg y.cells.toArray] w fun e w' => e = .returned (.bool (decide (x.s = y.s))) ∧ Hid (Below w.heap.size w w') := by
  have HX := Lib.hid hx
  have HY := Lib.hid hy
  clear hx hy
  obtain ⟨b1, hb1⟩ : ∃ b, decide (x.s.beats = y.s.beats) = b := ⟨_, rfl⟩
  obtain ⟨b2, hb2⟩ : ∃ b, decide (x.s.ch = y.s.ch) = b := ⟨_, rfl⟩
  obtain ⟨b3, hb3⟩ : ∃ b, decide (x.s.key = y.s.key) = b := ⟨_, rfl⟩
  obtain ⟨b4, hb4⟩ : ∃ b, decide (x.s.hst = y.s.hst ∧ x.s.hsi = y.s.hsi) = b := ⟨_, rfl⟩
  obtain ⟨b5, hb5⟩ : ∃ b, b = decide (x.s.id = y.s.id ∧ x.s.user = y.s.user ∧ x.s.addr = y.s.addr ∧ x.s.nonce = y.s.nonce ∧ x.s.status = y.s.status ∧ x.s.opSeq = y.s.opSeq ∧ x.s.opCode = y.s.opCode) := ⟨_, rfl⟩
  have HE := Lib.hid (show decide (x.s = y.s) = ((b1 && (b2 && (b3 && b4))) && b5) by rw [ses_eq, hb1, hb2, hb3, hb4, hb5])
  have HB5 := Lib.hid hb5
  have HC1 := Lib.hid (fun W (h : Sok W x) (h' : Sok W y) => bequal_any _ _ x.s.beats y.s.beats W h.bt h'.bt)
  have HC2 := Lib.hid (fun W (h : Sok W x) (h' : Sok W y) => csame_any x.s.ch.send.next _ x.s.ch.send.cwnd x.s.ch.send.acc x.s.ch.rtt x.s.ch.send.fl y.s.ch.send.next _ y.s.ch.send.cwnd y.s.ch.send.acc y.s.ch.rtt y.s.ch.send.fl W h.fl h'.fl)
  rw [hb1] at HC1
  rw [show (Ch.mk ⟨x.s.ch.send.next, x.s.ch.send.fl, x.s.ch.send.cwnd, x.s.ch.send.acc⟩ x.s.ch.rtt) = x.s.ch from rfl, show (Ch.mk ⟨y.s.ch.send.next, y.s.ch.send.fl, y.s.ch.send.cwnd, y.s.ch.send.acc⟩ y.s.ch.rtt) = y.s.ch from rfl, hb2] at HC2
  have hkey := fun W => eql_key x.s.key y.s.key W
  have hhea := fun W => eql_health x.s.hst x.s.hsi y.s.hst y.s.hsi W
  rw [hb3] at hkey
  rw [hb4] at hhea
  clear hb1 hb2 hb3 hb4 hb5
  go_enter Try.func51, Try.ntmps51
  go_upto_region 1 with fail
  refine gen_wp (fun w1 => Hid (w1.heap[w.heap.size]? = some (.cells x.cells.toArray 38)) ∧ Hid (w1.heap[w.heap.size + 1]? = some (.cells y.cells.toArray 38)) ∧ Hid (Below w.heap.size w w1) ∧ True) ⟨Lib.hid (keepa (heap_new _ _ _ rfl) _), Lib.hid (heap_new _ _ _ (by simp)), Lib.hid (by (repeat (first | (with_reducible exact Below.refl _ _) | (with_reducible refine bel_set (by first | omega | (simp; done) | (simp; omega)) ?_) | (with_reducible refine bel_alloc (by first | omega | (simp; done) | (simp; omega)) ?_) | (with_reducible refine bel_drew ?_) | (with_reducible refine bel_drewN ?_ _))); first | done | fail "left"), trivial⟩ ?_
  rintro w1 ⟨A1, A2, BA, -⟩
  replace HX := Lib.hid (HX.out.keep BA.out)
  replace HY := Lib.hid (HY.out.keep BA.out)
  have g23 := g_bts (rangeAt_block A1.out)
  have k23 := g_bts (rangeAt_block A2.out)
  go_cut [5] (fun s5 wx => s5 = .bool (b1 && (b2 && (b3 && b4))) ∧ Below w1.heap.size w1 wx)
  case first =>
    go_wp2_with (first
      | (go_at_call 52; refine (HC1.out _ HX.out HY.out).mono ?_; rintro e w2 ⟨rfl, B2⟩; have A1b := Lib.hid (keepb A1.out B2.out); have A2b := Lib.hid (keepb A2.out B2.out); have HX2 := Lib.hid (HX.out.keep B2.out); have HY2 := Lib.hid (HY.out.keep B2.out); obtain ⟨g26, g28, g29, g30, g31, g32, g33, g34⟩ := g_sd (rangeAt_block A1b.out); obtain ⟨k26, k28, k29, k30, k31, k32, k33, k34⟩ := g_sd (rangeAt_block A2b.out); have g27 := g_fls (rangeAt_block A1b.out); have k27 := g_fls (rangeAt_block A2b.out); cases b1)
      | (go_at_call 53; refine (HC2.out _ HX2.out HY2.out).mono ?_; rintro e w3 ⟨rfl, B3⟩; have B4 := Lib.hid (chain B2.out B3.out); have A1c := rangeAt_block (keepb A1b.out B3.out); have A2c := rangeAt_block (keepb A2b.out B3.out); obtain ⟨h4, h5, h6, h7, h8, h9, h10, h11, h12, h13, h14, h15, h16, h17, h18, h19⟩ := g_key A1c; obtain ⟨q4, q5, q6, q7, q8, q9, q10, q11, q12, q13, q14, q15, q16, q17, q18, q19⟩ := g_key A2c; have h24 := g_hst A1c; have h25 := g_hsi A1c; have q24 := g_hst A2c; have q25 := g_hsi A2c; clear A1c A2c; cases b2 <;> cases b3 <;> cases b4))
    all_goals go_meet
    all_goals first
      | (refine ⟨?_, B4.out⟩; simp; done)
      | (refine ⟨?_, B2.out⟩; simp; done)
  case rest =>
    obtain ⟨rfl, hbx⟩ := hcut
    obtain ⟨w2, hw2⟩ : ∃ w2, w2 = wc := ⟨_, rfl⟩
    subst hw2
    have HBX := Lib.hid hbx
    clear hbx g23 k23 hkey hhea HC1 HC2
    have BX := Lib.hid (chain BA.out HBX.out)
    have R1 := rangeAt_block (keepb A1.out HBX.out)
    have R2 := rangeAt_block (keepb A2.out HBX.out)
    have g0 := g_id R1
    have g1 := g_user R1
    have g2 := g_addr R1
    have g3 := g_nonce R1
    have g20 := g_status R1
    have g21 := g_opSeq R1
    have g22 := g_opCode R1
    have k0 := g_id R2
    have k1 := g_user R2
    have k2 := g_addr R2
    have k3 := g_nonce R2
    have k20 := g_status R2
    have k21 := g_opSeq R2
    have k22 := g_opCode R2
    clear R1 R2
    obtain ⟨bb, hbb⟩ : ∃ bb, bb = (b1 && (b2 && (b3 && b4))) := ⟨_, rfl⟩
    rw [← hbb] at HE ⊢
    clear hbb
    go_upto_region 2 with fail
    cases bb with
    | false =>
      go_wp2_with fail
      go_ret
      exact ⟨ret_bool (by rw [HE.out]; simp), BX⟩
    | true =>
      go_wp2_with fail
      all_goals go_ret
      all_goals exact ⟨ret_bool (by rw [HE.out, HB5.out, Bool.eq_iff_iff]; simp_all), BX⟩
end Go.Proofs.Ytlmkkfigmoefdaa.K

/-
  CONTRACT of nightjarref18.One.
-/
import Derived.Test.YtlmkkfigmoefdaaSes8
set_option linter.unusedVariables false
set_option linter.unusedSimpArgs false
namespace Go.Proofs.Ytlmkkfigmoefdaa.K
open Go Go.RowKit Nj

set_option maxRecDepth 100000 in
set_option maxHeartbeats 8000000 in
theorem rone_any (x y : Sv) (w : World) (hx : Sok w x) (hy : Sok w y) :
    Calls Try.prog 23 #[.agg x.cells.toArray, .agg y.cells.toArray] w fun e w' => e = .returned (.bool (decide (x.s = y.s))) ∧ Hid (Below w.heap.size w w') := by
  have HX := Lib.hid hx
  have HY := Lib.hid hy
  clear hx hy
  obtain ⟨b1, hb1⟩ : ∃ b, decide (x.s.beats = y.s.beats) = b := ⟨_, rfl⟩
  obtain ⟨b2, hb2⟩ : ∃ b, decide (x.s.ch = y.s.ch) = b := ⟨_, rfl⟩
  obtain ⟨b3, hb3⟩ : ∃ b, decide (x.s.key = y.s.key) = b := ⟨_, rfl⟩
  obtain ⟨b4, hb4⟩ : ∃ b, decide (x.s.hst = y.s.hst ∧ x.s.hsi = y.s.hsi) = b := ⟨_, rfl⟩
  obtain ⟨b5, hb5⟩ : ∃ b, b = decide (x.s.id = y.s.id ∧ x.s.user = y.s.user ∧ x.s.addr = y.s.addr ∧ x.s.nonce = y.s.nonce ∧ x.s.status = y.s.status ∧ x.s.opSeq = y.s.opSeq ∧ x.s.opCode = y.s.opCode) := ⟨_, rfl⟩
  have HE := Lib.hid (show decide (x.s = y.s) = ((b1 && (b2 && (b3 && b4))) && b5) by rw [ses_eq, hb1, hb2, hb3, hb4, hb5])
  have HB5 := Lib.hid hb5
  have HC1 := Lib.hid (fun W (h : Sok W x) (h' : Sok W y) => drsame_any _ _ x.s.beats y.s.beats W h.bt h'.bt)
  have HC2 := Lib.hid (fun W (h : Sok W x) (h' : Sok W y) => qcsame_any x.s.ch.send.next _ x.s.ch.send.cwnd x.s.ch.send.acc x.s.ch.rtt x.s.ch.send.fl y.s.ch.send.next _ y.s.ch.send.cwnd y.s.ch.send.acc y.s.ch.rtt y.s.ch.send.fl W h.fl h'.fl)
  rw [hb1] at HC1
  rw [show (Ch.mk ⟨x.s.ch.send.next, x.s.ch.send.fl, x.s.ch.send.cwnd, x.s.ch.send.acc⟩ x.s.ch.rtt) = x.s.ch from rfl, show (Ch.mk ⟨y.s.ch.send.next, y.s.ch.send.fl, y.s.ch.send.cwnd, y.s.ch.send.acc⟩ y.s.ch.rtt) = y.s.ch from rfl, hb2] at HC2
  have hkey := fun W => eql_key x.s.key y.s.key W
  have hhea := fun W => eql_health x.s.hst x.s.hsi y.s.hst y.s.hsi W
  rw [hb3] at hkey
  rw [hb4] at hhea
  clear hb1 hb2 hb3 hb4 hb5
  go_enter Try.func23, Try.ntmps23
  go_upto_region 1 with fail
  refine gen_wp (fun w1 => Hid (w1.heap[w.heap.size]? = some (.cells x.cells.toArray 38)) ∧ Hid (w1.heap[w.heap.size + 1]? = some (.cells y.cells.toArray 38)) ∧ Hid (Below w.heap.size w w1) ∧ True) ⟨Lib.hid (keepa (heap_new _ _ _ rfl) _), Lib.hid (heap_new _ _ _ (by simp)), Lib.hid (by (repeat (first | (with_reducible exact Below.refl _ _) | (with_reducible refine bel_set (by first | omega | (simp; done) | (simp; omega)) ?_) | (with_reducible refine bel_alloc (by first | omega | (simp; done) | (simp; omega)) ?_) | (with_reducible refine bel_drew ?_) | (with_reducible refine bel_drewN ?_ _))); first | done | fail "left"), trivial⟩ ?_
  rintro w1 ⟨A1, A2, BA, -⟩
  replace HX := Lib.hid (HX.out.keep BA.out)
  replace HY := Lib.hid (HY.out.keep BA.out)
  have g23 := g_bts (rangeAt_block A1.out)
  have k23 := g_bts (rangeAt_block A2.out)
  go_wp2_with fail
  refine (HC1.out _ HX.out HY.out).mono ?_
  rintro e w2 ⟨rfl, B2'⟩
  have B2 := Lib.hid B2'
  clear B2'
  have A1b := Lib.hid (keepb A1.out B2.out)
  have A2b := Lib.hid (keepb A2.out B2.out)
  have HX2 := Lib.hid (HX.out.keep B2.out)
  have HY2 := Lib.hid (HY.out.keep B2.out)
  obtain ⟨g26, g28, g29, g30, g31, g32, g33, g34⟩ := g_sd (rangeAt_block A1b.out)
  obtain ⟨k26, k28, k29, k30, k31, k32, k33, k34⟩ := g_sd (rangeAt_block A2b.out)
  have g27 := g_fls (rangeAt_block A1b.out)
  have k27 := g_fls (rangeAt_block A2b.out)
  go_wp2_with fail
  refine (HC2.out _ HX2.out HY2.out).mono ?_
  rintro e w3 ⟨rfl, B3⟩
  have BX := Lib.hid (chain BA.out (chain B2.out B3.out))
  have R1 := rangeAt_block (keepb A1b.out B3.out)
  have R2 := rangeAt_block (keepb A2b.out B3.out)
  clear g23 k23 g26 g27 g28 g29 g30 g31 g32 g33 g34 k26 k27 k28 k29 k30 k31 k32 k33 k34 HC1 HC2 HX HY HX2 HY2 A1 A2 A1b A2b B2 B3
  cases b1 with
  | false =>
    go_wp2_with fail
    go_ret
    exact ⟨ret_bool (by rw [HE.out]; simp), BX⟩
  | true =>
    cases b2 with
    | false =>
      go_wp2_with fail
      go_ret
      exact ⟨ret_bool (by rw [HE.out]; simp), BX⟩
    | true =>
      have g0 := g_id R1
      have g1 := g_user R1
      have g2 := g_addr R1
      have g3 := g_nonce R1
      have g20 := g_status R1
      have g21 := g_opSeq R1
      have g22 := g_opCode R1
      have g24 := g_hst R1
      have g25 := g_hsi R1
      obtain ⟨h4, h5, h6, h7, h8, h9, h10, h11, h12, h13, h14, h15, h16, h17, h18, h19⟩ := g_key R1
      have k0 := g_id R2
      have k1 := g_user R2
      have k2 := g_addr R2
      have k3 := g_nonce R2
      have k20 := g_status R2
      have k21 := g_opSeq R2
      have k22 := g_opCode R2
      have k24 := g_hst R2
      have k25 := g_hsi R2
      obtain ⟨q4, q5, q6, q7, q8, q9, q10, q11, q12, q13, q14, q15, q16, q17, q18, q19⟩ := g_key R2
      clear R1 R2
      go_wp2_with fail
      all_goals go_ret
      all_goals
        refine ⟨ret_bool ?_, BX⟩
        rw [HE.out, HB5.out, Bool.eq_iff_iff]
        clear g0 g1 g2 g3 g20 g21 g22 g24 g25 h4 h5 h6 h7 h8 h9 h10 h11 h12 h13 h14 h15 h16 h17 h18 h19 k0 k1 k2 k3 k20 k21 k22 k24 k25 q4 q5 q6 q7 q8 q9 q10 q11 q12 q13 q14 q15 q16 q17 q18 q19 hkey hhea
        clear HE HB5 BX BA
        simp_all
end Go.Proofs.Ytlmkkfigmoefdaa.K

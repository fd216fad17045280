/-
  CONTRACT of nightjarref18.Fits.
-/
import Derived.Test.YtlmkkfigmoefdaaSes1
import Derived.Test.YtlmkkfigmoefdaaSesBaseC
import Derived.Deep.DeepCutAuto
set_option linter.unusedVariables false
set_option linter.unusedSimpArgs false
namespace Go.Proofs.Ytlmkkfigmoefdaa.K
open Go Go.RowKit Nj

set_option maxRecDepth 100000 in
set_option maxHeartbeats 8000000 in
theorem rfits_any (x : Sv) (w : World) (h : Sok w x) :
    Calls Try.prog 14 #[.agg x.cells.toArray] w fun e w' => e = .returned (.bool (sesFits x.s)) ∧ Hid (Below w.heap.size w w') := by
  have HS := Lib.hid h
  clear h
  obtain ⟨bb, hbb⟩ : ∃ b, b = btRight x.s.beats := ⟨_, rfl⟩
  obtain ⟨bc, hbc⟩ : ∃ b, b = chRight x.s.ch := ⟨_, rfl⟩
  have HE := Lib.hid (show sesFits x.s = (sesWho x.s && (sesSaid x.s && (sesHow x.s && (bb && bc)))) by rw [hbb, hbc]; rfl)
  have HCb := Lib.hid (fun W (hW : Sok W x) => drright_any _ x.s.beats W hW.bt)
  have HCc := Lib.hid (fun W (hW : Sok W x) => qcright_any x.s.ch.send.next _ x.s.ch.send.cwnd x.s.ch.send.acc x.s.ch.rtt x.s.ch.send.fl W hW.fl hW.nx)
  rw [← hbb] at HCb
  rw [show (Ch.mk ⟨x.s.ch.send.next, x.s.ch.send.fl, x.s.ch.send.cwnd, x.s.ch.send.acc⟩ x.s.ch.rtt) = x.s.ch from rfl, ← hbc] at HCc
  clear hbb hbc
  go_enter Try.func14, Try.ntmps14
  go_upto_region 1 with fail
  refine gen_wp (fun w1 => Hid (w1.heap[w.heap.size]? = some (.cells x.cells.toArray 38)) ∧ Hid (Below w.heap.size w w1) ∧ True) ⟨Lib.hid (heap_new _ _ _ rfl), Lib.hid (by (repeat (first | (with_reducible exact Below.refl _ _) | (with_reducible refine bel_set (by first | omega | (simp; done) | (simp; omega)) ?_) | (with_reducible refine bel_alloc (by first | omega | (simp; done) | (simp; omega)) ?_) | (with_reducible refine bel_drew ?_) | (with_reducible refine bel_drewN ?_ _))); first | done | fail "left"), trivial⟩ ?_
  rintro w1 ⟨A1, BA, -⟩
  replace HS := Lib.hid (HS.out.keep BA.out)
  have R1 := rangeAt_block A1.out
  have g0 := g_id R1
  have g1 := g_user R1
  have g2 := g_addr R1
  have g3 := g_nonce R1
  have g20 := g_status R1
  have g21 := g_opSeq R1
  have g22 := g_opCode R1
  have g23 := g_bts R1
  have g24 := g_hst R1
  have g25 := g_hsi R1
  have g27 := g_fls R1
  obtain ⟨g26, g28, g29, g30, g31, g32, g33, g34⟩ := g_sd R1
  clear R1
  by_cases hws : sesWho x.s = true ∧ sesSaid x.s = true
  · by_cases hh : sesHow x.s = true
    · have HE2 := Lib.hid (show sesFits x.s = (bb && bc) by rw [HE.out, hws.1, hws.2, hh]; simp)
      obtain ⟨h1, h2⟩ := hws
      simp only [sesWho, sesSaid, sesHow, decide_eq_true_eq] at h1 h2 hh
      obtain ⟨a1, a2, a3, a4, a5, a6, a7, a8⟩ := h1
      obtain ⟨b1, b2, b3, b4, b5, b6⟩ := h2
      obtain ⟨c1, c2, c3, c4⟩ := hh
      have t1 : ¬ x.s.id < 1 := by omega
      have t2 : ¬ 1073741824 < x.s.id := by omega
      have t3 : ¬ x.s.user < 1 := by omega
      have t4 : ¬ 16 < x.s.user := by omega
      have t5 : ¬ x.s.addr < 0 := by omega
      have t6 : ¬ 65535 < x.s.addr := by omega
      have t7 : ¬ x.s.nonce < 0 := by omega
      have t8 : ¬ 1073741824 < x.s.nonce := by omega
      have t9 : ¬ x.s.status < 1 := by omega
      have t10 : ¬ 3 < x.s.status := by omega
      have t11 : ¬ x.s.opSeq < 0 := by omega
      have t12 : ¬ 1073741824 < x.s.opSeq := by omega
      have t13 : ¬ x.s.opCode < 0 := by omega
      have t14 : ¬ 15 < x.s.opCode := by omega
      have t15 : ¬ x.s.hst < 1 := by omega
      have t16 : ¬ 2 < x.s.hst := by omega
      have t17 : ¬ x.s.hsi < 0 := by omega
      have t18 : ¬ 1099511627776 < x.s.hsi := by omega
      clear a1 a2 a3 a4 a5 a6 a7 a8 b1 b2 b3 b4 b5 b6 c1 c2 c3 c4
      go_wp2_with (first
        | (go_at_call 38; refine (HCb.out _ HS.out).mono ?_; rintro e w5 ⟨rfl, B5'⟩; have B5 := Lib.hid B5'; have A1b := Lib.hid (keepb A1.out B5.out); have R1b := rangeAt_block A1b.out; have g27b := g_fls R1b; obtain ⟨g26b, g28b, g29b, g30b, g31b, g32b, g33b, g34b⟩ := g_sd R1b; clear R1b; have HS5 := Lib.hid (HS.out.keep B5.out); replace BA := Lib.hid (chain BA.out B5.out))
        | (go_at_call 39; refine (HCc.out _ HS5.out).mono ?_; rintro e w6 ⟨rfl, B6⟩; replace BA := Lib.hid (chain BA.out B6.out); cases bb))
      all_goals go_ret
      all_goals exact ⟨ret_bool (by rw [HE2.out]; simp), BA⟩
    · have HF := Lib.hid (show sesFits x.s = false by rw [HE.out, show sesHow x.s = false from by simpa using hh]; simp)
      obtain ⟨h1, h2⟩ := hws
      simp only [sesWho, sesSaid, decide_eq_true_eq] at h1 h2
      obtain ⟨a1, a2, a3, a4, a5, a6, a7, a8⟩ := h1
      obtain ⟨b1, b2, b3, b4, b5, b6⟩ := h2
      have t1 : ¬ x.s.id < 1 := by omega
      have t2 : ¬ 1073741824 < x.s.id := by omega
      have t3 : ¬ x.s.user < 1 := by omega
      have t4 : ¬ 16 < x.s.user := by omega
      have t5 : ¬ x.s.addr < 0 := by omega
      have t6 : ¬ 65535 < x.s.addr := by omega
      have t7 : ¬ x.s.nonce < 0 := by omega
      have t8 : ¬ 1073741824 < x.s.nonce := by omega
      have t9 : ¬ x.s.status < 1 := by omega
      have t10 : ¬ 3 < x.s.status := by omega
      have t11 : ¬ x.s.opSeq < 0 := by omega
      have t12 : ¬ 1073741824 < x.s.opSeq := by omega
      have t13 : ¬ x.s.opCode < 0 := by omega
      have t14 : ¬ 15 < x.s.opCode := by omega
      clear a1 a2 a3 a4 a5 a6 a7 a8 b1 b2 b3 b4 b5 b6
      have HH := Lib.hid hh
      clear hh
      by_cases u0 : x.s.hst < 1
      · go_wp2_with fail
        go_ret
        exact ⟨ret_bool HF.out.symm, BA⟩
      by_cases u1 : 2 < x.s.hst
      · go_wp2_with fail
        go_ret
        exact ⟨ret_bool HF.out.symm, BA⟩
      by_cases u2 : x.s.hsi < 0
      · go_wp2_with fail
        go_ret
        exact ⟨ret_bool HF.out.symm, BA⟩
      by_cases u3 : 1099511627776 < x.s.hsi
      · go_wp2_with fail
        go_ret
        exact ⟨ret_bool HF.out.symm, BA⟩
      exact absurd (by simp only [sesHow, decide_eq_true_eq]; omega) HH.out
  · have HF := Lib.hid (show sesFits x.s = false by
      rw [HE.out]
      cases h1 : sesWho x.s
      · simp
      · cases h2 : sesSaid x.s
        · simp
        · exact absurd ⟨h1, h2⟩ hws)
    have HH := Lib.hid hws
    clear hws
    by_cases t0 : x.s.id < 1
    · go_wp2_with fail
      go_ret
      exact ⟨ret_bool HF.out.symm, BA⟩
    by_cases t1 : 1073741824 < x.s.id
    · go_wp2_with fail
      go_ret
      exact ⟨ret_bool HF.out.symm, BA⟩
    by_cases t2 : x.s.user < 1
    · go_wp2_with fail
      go_ret
      exact ⟨ret_bool HF.out.symm, BA⟩
    by_cases t3 : 16 < x.s.user
    · go_wp2_with fail
      go_ret
      exact ⟨ret_bool HF.out.symm, BA⟩
    by_cases t4 : x.s.addr < 0
    · go_wp2_with fail
      go_ret
      exact ⟨ret_bool HF.out.symm, BA⟩
    by_cases t5 : 65535 < x.s.addr
    · go_wp2_with fail
      go_ret
      exact ⟨ret_bool HF.out.symm, BA⟩
    by_cases t6 : x.s.nonce < 0
    · go_wp2_with fail
      go_ret
      exact ⟨ret_bool HF.out.symm, BA⟩
    by_cases t7 : 1073741824 < x.s.nonce
    · go_wp2_with fail
      go_ret
      exact ⟨ret_bool HF.out.symm, BA⟩
    by_cases t8 : x.s.status < 1
    · go_wp2_with fail
      go_ret
      exact ⟨ret_bool HF.out.symm, BA⟩
    by_cases t9 : 3 < x.s.status
    · go_wp2_with fail
      go_ret
      exact ⟨ret_bool HF.out.symm, BA⟩
    by_cases t10 : x.s.opSeq < 0
    · go_wp2_with fail
      go_ret
      exact ⟨ret_bool HF.out.symm, BA⟩
    by_cases t11 : 1073741824 < x.s.opSeq
    · go_wp2_with fail
      go_ret
      exact ⟨ret_bool HF.out.symm, BA⟩
    by_cases t12 : x.s.opCode < 0
    · go_wp2_with fail
      go_ret
      exact ⟨ret_bool HF.out.symm, BA⟩
    by_cases t13 : 15 < x.s.opCode
    · go_wp2_with fail
      go_ret
      exact ⟨ret_bool HF.out.symm, BA⟩
    exact absurd ⟨by simp only [sesWho, decide_eq_true_eq]; omega, by simp only [sesSaid, decide_eq_true_eq]; omega⟩ HH.out
end Go.Proofs.Ytlmkkfigmoefdaa.K

/-
  CONTRACT of session.Fits.
-/
import Derived.Test.YtlmkkfigmoefdaaSes1
import Derived.Test.YtlmkkfigmoefdaaSesBaseC
import Derived.Deep.DeepCutAuto
set_option linter.unusedVariables false
set_option linter.unusedSimpArgs false
namespace Go.Proofs.Ytlmkkfigmoefdaa.K
open Go Go.RowKit Nj

set_option maxRecDepth 100000 in
set_option maxHeartbeats 8000000 in
theorem sfits_any (x : Sv) (w : World) (h : Sok w x) :
    Calls Try.prog 13 #[.agg x.cells.toArray] w fun e w' => e = .returned (.bool (sesFits x.s)) ∧ Hid (Below w.heap.size w w') := by
  have HS := Lib.hid h
  have hnx := h.nx
  clear h
  obtain ⟨bw, hbw⟩ : ∃ b, b = sesWho x.s := ⟨_, rfl⟩
  obtain ⟨bs, hbs⟩ : ∃ b, b = sesSaid x.s := ⟨_, rfl⟩
  obtain ⟨bh, hbh⟩ : ∃ b, b = sesHow x.s := ⟨_, rfl⟩
  obtain ⟨bb, hbb⟩ : ∃ b, b = btRight x.s.beats := ⟨_, rfl⟩
  obtain ⟨bc, hbc⟩ : ∃ b, b = chRight x.s.ch := ⟨_, rfl⟩
  have HE := Lib.hid (show sesFits x.s = (bw && (bs && (bh && (bb && bc)))) by rw [hbw, hbs, hbh, hbb, hbc]; rfl)
  have HBw := Lib.hid hbw
  have HBs := Lib.hid hbs
  have HBh := Lib.hid hbh
  have HCb := Lib.hid (fun W (hW : Sok W x) => dright_any _ x.s.beats W hW.bt)
  have HCc := Lib.hid (fun W (hW : Sok W x) => cright_any x.s.ch.send.next _ x.s.ch.send.cwnd x.s.ch.send.acc x.s.ch.rtt x.s.ch.send.fl W hW.fl hW.nx)
  rw [← hbb] at HCb
  rw [show (Ch.mk ⟨x.s.ch.send.next, x.s.ch.send.fl, x.s.ch.send.cwnd, x.s.ch.send.acc⟩ x.s.ch.rtt) = x.s.ch from rfl, ← hbc] at HCc
  clear hbw hbs hbh hbb hbc
  go_enter Try.func13, Try.ntmps13
  go_upto_region 1 with fail
  refine gen_wp (fun w1 => Hid (w1.heap[w.heap.size]? = some (.cells x.cells.toArray 38)) ∧ Hid (Below w.heap.size w w1) ∧ True) ⟨Lib.hid (heap_new _ _ _ rfl), Lib.hid (by (repeat (first | (with_reducible exact Below.refl _ _) | (with_reducible refine bel_set (by first | omega | (simp; done) | (simp; omega)) ?_) | (with_reducible refine bel_alloc (by first | omega | (simp; done) | (simp; omega)) ?_) | (with_reducible refine bel_drew ?_) | (with_reducible refine bel_drewN ?_ _))); first | done | fail "left"), trivial⟩ ?_
  rintro w1 ⟨A1, BA, -⟩
  replace HS := Lib.hid (HS.out.keep BA.out)
  have R1 := rangeAt_block A1.out
  have g0 := g_id R1
  have g1 := g_user R1
  have g2 := g_addr R1
  have g3 := g_nonce R1
  have g20 := g_status R1
  have g21 := g_opSeq R1
  have g22 := g_opCode R1
  have g23 := g_bts R1
  have g24 := g_hst R1
  have g25 := g_hsi R1
  have g27 := g_fls R1
  obtain ⟨g26, g28, g29, g30, g31, g32, g33, g34⟩ := g_sd R1
  clear R1
  go_cut [3] (fun s3 wx => s3 = .bool bw ∧ wx = w1)
  case first =>
    go_wp2_with (go_at_call 35; refine (swithin_any _ _ _ _).mono ?_; rintro e w' ⟨rfl, rfl⟩)
    all_goals go_meet
    all_goals
      refine ⟨?_, rfl⟩
      simp only [Value.bool.injEq]
      rw [HBw.out, Bool.eq_iff_iff]
      simp_all [sesWho]
      try omega
  case rest =>
    obtain ⟨rfl, rfl⟩ := hcut
    go_upto_region 2 with fail
    go_cut [4] (fun s4 wx => s4 = .bool bs ∧ wx = wc)
    case first =>
      go_wp2_with (go_at_call 35; refine (swithin_any _ _ _ _).mono ?_; rintro e w' ⟨rfl, rfl⟩)
      all_goals go_meet
      all_goals
        refine ⟨?_, rfl⟩
        simp only [Value.bool.injEq]
        rw [HBs.out, Bool.eq_iff_iff]
        simp_all [sesSaid]
        try omega
    case rest =>
      obtain ⟨rfl, rfl⟩ := hcut
      go_upto_region 3 with fail
      go_cut [5] (fun s5 wx => s5 = .bool bh ∧ wx = wc)
      case first =>
        go_wp2_with (go_at_call 35; refine (swithin_any _ _ _ _).mono ?_; rintro e w' ⟨rfl, rfl⟩)
        all_goals go_meet
        all_goals
          refine ⟨?_, rfl⟩
          simp only [Value.bool.injEq]
          rw [HBh.out, Bool.eq_iff_iff]
          simp_all [sesHow]
          try omega
      case rest =>
        obtain ⟨rfl, rfl⟩ := hcut
        cases bw <;> cases bs <;> cases bh
        all_goals
          go_upto_region 4 with fail
        all_goals
          go_wp2_with (first
            | (go_at_call 36; refine (HCb.out _ HS.out).mono ?_; rintro e w5 ⟨rfl, B5⟩; have A1b := Lib.hid (keepb A1.out B5); have R1b := rangeAt_block A1b.out; have g27b := g_fls R1b; obtain ⟨g26b, g28b, g29b, g30b, g31b, g32b, g33b, g34b⟩ := g_sd R1b; clear R1b; have HS5 := Lib.hid (HS.out.keep B5); replace BA := Lib.hid (chain BA.out B5); cases bb)
            | (go_at_call 37; refine (HCc.out _ HS5.out).mono ?_; rintro e w6 ⟨rfl, B6⟩; replace BA := Lib.hid (chain BA.out B6.out)))
        all_goals go_ret
        all_goals exact ⟨ret_bool (by rw [HE.out]; simp), BA⟩
end Go.Proofs.Ytlmkkfigmoefdaa.K

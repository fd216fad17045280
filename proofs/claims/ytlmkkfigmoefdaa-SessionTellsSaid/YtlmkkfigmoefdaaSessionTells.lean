/-
  THE STATEMENT 'Rows.SessionTellsSaid': nightjarlaw18.SessionTells returns true for every input, and its arguments read afterwards as they read before. No condition.
-/
import Derived.Test.YtlmkkfigmoefdaaSes15
import Derived.Test.YtlmkkfigmoefdaaSesR1
import Derived.Test.YtlmkkfigmoefdaaSesR3
import Derived.Test.YtlmkkfigmoefdaaSesR7
import Derived.Test.YtlmkkfigmoefdaaSesTlP
import Derived.Test.YtlmkkfigmoefdaaSesTlC
import Derived.Test.YtlmkkfigmoefdaaSesTlM
import Derived.Test.YtlmkkfigmoefdaaRows
import Derived.Deep.DeepCutAuto
import Derived.Deep.Light
import Derived.Deep.CutBlock
import Derived.ProofKit
import Derived.OpenShut
import Derived.ShutString
import Derived.ChangeOld
import Derived.Below
set_option linter.unusedVariables false
set_option linter.unusedSimpArgs false
namespace Go.Proofs.Ytlmkkfigmoefdaa.lawSessionTells
open Go Go.RowKit Nj K

set_option maxRecDepth 100000 in
set_option maxHeartbeats 8000000 in
theorem walk (v : Value) (l : List Sv) (va : Value) (la : List Sa) (us : Int) (w : World) (h : Sess w v l) (ha : Sas w va la) (hu : (Lit.int .i64 us).wf = true) :
    Calls Try.prog 3 #[v, va, .int .i64 us] w fun e w' => e = .returned (.bool true) ∧ Below w.heap.size w w' := by
  have HS := Lib.hid h
  have HA := Lib.hid ha
  obtain ⟨p, cap, rfl, hcap⟩ := sess_shape h
  obtain ⟨pa, capa, rfl, hcapa⟩ := sas_shape ha
  have hm : la.length ≤ 9223372036854775807 := ha.1.1
  clear h ha hu
  obtain ⟨fw, hfw⟩ : ∃ fw, fewB (cons l) = fw := ⟨_, rfl⟩
  obtain ⟨rb, hrb⟩ : ∃ rb, sesRight (cons l) = rb := ⟨_, rfl⟩
  have HR := Lib.hid hrb
  have HC0 := Lib.hid (fun W (B : Below w.heap.size w W) => few_any _ l W (HS.out.keep B))
  have HC := Lib.hid (fun W (B : Below w.heap.size w W) => sesright_any _ l W (HS.out.keep B))
  have HC1 := Lib.hid (fun W (B : Below w.heap.size w W) => rtright_any _ l W (HS.out.keep B))
  rw [hfw] at HC0
  rw [hrb] at HC HC1
  clear hrb hfw
  go_enter Try.func3, Try.ntmps3
  go_wp2_with fail
  refine (small18_any _).mono ?_; rintro e w1 ⟨rfl, BA⟩
  go_wp2_with fail
  refine (HC0.out _ BA.out).mono ?_; rintro e w2 ⟨rfl, B2⟩
  replace BA := Lib.hid (chain BA.out B2.out)
  clear B2 HC0
  cases fw with
  | false =>
    go_wp2_with fail
    go_ret
    exact ⟨rfl, BA.out⟩
  | true =>
    by_cases h50 : 50 < la.length
    · have t1 : (50 : Int) < (la.length : Int) := by omega
      go_wp2_with fail
      go_ret
      exact ⟨rfl, BA.out⟩
    have t1 : ¬ (50 : Int) < (la.length : Int) := by omega
    have t1d := dec_f t1
    go_wp2_with fail
    refine (HC.out _ BA.out).mono ?_; rintro e w3 ⟨rfl, B3⟩
    replace BA := Lib.hid (chain BA.out B3.out)
    clear B3 HC
    go_wp2_with fail
    refine (HC1.out _ BA.out).mono ?_; rintro e w4 ⟨rfl, B4⟩
    replace BA := Lib.hid (chain BA.out B4.out)
    clear B4
    have x0 := bne_self_eq_false rb
    go_wp2_with fail
    refine (HC1.out _ BA.out).mono ?_; rintro e w5 ⟨rfl, B5⟩
    replace BA := Lib.hid (chain BA.out B5.out)
    clear B5 HC1 x0
    cases rb with
    | false =>
      go_wp2_with fail
      go_ret
      exact ⟨rfl, BA.out⟩
    | true =>
      go_wp2_with fail
      clear t1 t1d h50
      go_loopw [9, 10] (fun s9 s10 wr => ∃ (k : Nat) (X : List Sv) (px : Option Addr) (cx : Nat), k ≤ la.length ∧ s10 = .int .i64 k ∧ s9 = .slice px X.length cx ∧ sesRight (cons X) = true ∧ Sess wr (.slice px X.length cx) X ∧ Below w.heap.size w wr) (fun _ i _ => la.length - (intOf i).toNat)
      case atStart => exact ⟨0, l, p, cap, by omega, rfl, rfl, HR.out, HS.out.keep BA.out, BA.out⟩
      case round =>
        obtain ⟨k, X, px, cx, hk, rfl, rfl, hR, hT, hb⟩ := hrel
        clear BA HR
        have HR := Lib.hid hR
        have HT := Lib.hid hT
        have BA := Lib.hid hb
        clear hR hT hb
        have HSm := Lib.hid (right_small HR.out)
        by_cases hlt : k < la.length
        · obtain ⟨b, o, rfl, _⟩ := HA.out.1.open (by omega)
          obtain ⟨a, ha⟩ : ∃ a, a = la[k] := ⟨_, rfl⟩
          have RA := Lib.hid (act_row (HA.out.1.keep (by decide) BA.out) k hlt a ha)
          have HX := Lib.hid ((HA.out.2 a (by rw [ha]; exact List.getElem_mem hlt)).keep BA.out)
          have t1 : (k : Int) < (la.length : Int) := by omega
          have t2 : (0 : Int) ≤ (k : Int) := by omega
          clear ha
          go_upto_region 12 with (first | (refine lda RA rfl rfl rfl ?_) | (refine sta (Lib.hid (heap_new wr _ wr.heap.size rfl)) rfl rfl rfl rfl rfl ?_; intro w4 A8 M4; have B4 := Lib.hid (Mod.below (B := wr.heap.size) M4.out ((Below.refl wr.heap.size wr).alloc (Nat.le_refl _) _) (by simp) (fun k hk => by omega))))
          (try simp only [Act.put])
          replace BA := Lib.hid (chain BA.out B4.out)
          replace HT := Lib.hid (HT.out.keep B4.out)
          replace HX := Lib.hid (HX.out.keep B4.out)
          clear M4 B4 RA
          have g23 : w4.cell? ⟨wr.heap.size, 25, none⟩ = some (.slice a.x.pb a.x.s.beats.length a.x.cb) := f_bts (act_ses (rangeAt_block A8.out))
          have g27 : w4.cell? ⟨wr.heap.size, 29, none⟩ = some (.slice a.x.pf a.x.s.ch.send.fl.length a.x.cf) := f_fls (act_ses (rangeAt_block A8.out))
          by_cases hb1 : 50 < a.x.s.beats.length
          · have t3 : (50 : Int) < (a.x.s.beats.length : Int) := by omega
            go_wp2_with fail
            go_ret
            exact ⟨rfl, BA.out⟩
          have t3 : ¬ (50 : Int) < (a.x.s.beats.length : Int) := by omega
          by_cases hb2 : 50 < a.x.s.ch.send.fl.length
          · have t4 : (50 : Int) < (a.x.s.ch.send.fl.length : Int) := by omega
            go_wp2_with fail
            go_ret
            exact ⟨rfl, BA.out⟩
          have t4 : ¬ (50 : Int) < (a.x.s.ch.send.fl.length : Int) := by omega
          have t3d := dec_f t3
          have t4d := dec_f t4
          clear hb1 hb2
          go_wp2_with fail
          refine (rtcopy_any _ X _ HT.out HSm.out).mono ?_
          rintro e w5 ⟨pw, cw, Wl, hW, rfl, HOw, B5⟩
          have HWe := Lib.hid hW
          have HW := Lib.hid HOw.out.sess
          replace A8 := Lib.hid (keepb A8.out B5.out)
          replace BA := Lib.hid (chain BA.out B5.out)
          replace HT := Lib.hid (HT.out.keep B5.out)
          replace HX := Lib.hid (HX.out.keep B5.out)
          clear hW HOw B5 g23 g27 t3 t4 t3d t4d
          have RX := Lib.hid (act_ses (rangeAt_block A8.out))
          obtain ⟨fb, hfb⟩ : ∃ fb, sesFits a.x.s = fb := ⟨_, rfl⟩
          have HFq := Lib.hid (fun d os => reg_of (sfits_any a.x (Go.Sort.grow (redrawn w5 d) os) (HX.out.keep (below_regrown w5 d os))))
          have HFr := Lib.hid (fun d os => reg_of (rfits_any a.x (Go.Sort.grow (redrawn w5 d) os) (HX.out.keep (below_regrown w5 d os))))
          rw [hfb] at HFq HFr
          have x6 := beq_self_eq_true fb
          clear hfb
          go_upto_region 17 with fail
          refine wp_region_quiet_below (by kernel_rfl) (by kernel_rfl) ?_
          (try simp only [List.append_eq, List.cons_append, List.nil_append])
          repeat (first | go_big_quiet_skip | (go_big_quiet_want; first | ((first | refine quiet_ld RX rfl rfl ?_); (try simp only [Act.put, List.setIfInBounds_toArray, List.set_cons_zero, List.set_cons_succ]); go_big_quiet_on) | (go_big_quiet_op; first | go_big_quiet_on | (apply Exists.intro; refine ⟨fun _ => ?_, ?_⟩; (focus ((first | (go_at_call 13; with_reducible exact HFq.out _ _) | (go_at_call 14; with_reducible exact HFr.out _ _)))); go_big_quiet_on))))
          refine wpQuiet_nil ?_
          intro _ hw'
          obtain ⟨⟨dq, osq⟩, hw''⟩ := hw'
          subst hw''
          have BQ := Lib.hid (below_regrown w5 dq osq)
          generalize Go.Sort.grow (redrawn w5 dq) osq = w6 at BQ ⊢
          clear HFq HFr RX
          replace A8 := Lib.hid (keepb A8.out BQ.out)
          replace BA := Lib.hid (chain BA.out BQ.out)
          replace HT := Lib.hid (HT.out.keep BQ.out)
          replace HW := Lib.hid (HW.out.keep BQ.out)
          replace HX := Lib.hid (HX.out.keep BQ.out)
          have hz6 : w.heap.size ≤ w6.heap.size := BA.out.size
          clear BQ
          have g0 := act_do (rangeAt_block A8.out)
          obtain ⟨wo, hwo⟩ : ∃ wo : World, wo = w6 := ⟨_, rfl⟩
          subst hwo
          go_upto_block 2 with fail
          clear g0 x6
          refine tact_all px cx _ X a _ _ _ _ _ _ _ _ _ _ _ _ _ _ _ _ _ _ _ _ _ _ _ _ _ _ _ _ _ _ _ _ _ _ _ _ _ _ _ _ _ _ _ _ _ _ _ _ _ _ _ _ _ _ _ _ _ _ _ _ _ _ _ _ _ _ _ _ _ _ _ _ _ _ _ _ _ _ _ _ _ _ _ _ _ _ _ _ _ _ _ _ _ _ _ _ _ _ _ _ _ _ _ _ _ _ _ _ _ _ _ _ _ _ _ _ _ _ _ _ _ _ _ _ _ _ _ _ _ _ _ _ _ _ _ _ _ _ _ _ _ _ _ _ _ _ _ _ _ _ _ _ _ _ _ _ _ _ _ _ _ _ _ _ _ _ _ _ _ _ _ _ _ _ _ _ _ _ _ _ _ _ _ _ _ _ _ _ _ _ _ _ _ _ _ _ _ _ _ _ _ _ _ _ _ _ _ _ _ _ _ _ _ _ _ _ _ _ _ _ _ _ _ _ _ _ _ _ _ _ _ _ _ _ _ _ _ _ _ _ _ _ _ _ _ _ _ _ _ _ _ _ _ _ _ _ _ _ _ _ _ _ _ _ _ _ _ _ _ _ _ HT.out A8.out HX.out HR.out ?_
          intro p13 c13 P p14 c14 R w7 h1 h2 h3 h4 h5 u16 u17 u18 u19 u20 u21 u22 u23 u24 u25 u26 u27 u102 u103 u104 u105 u106 u107 u108 u109 u110 u111 u112 u113 u114 u115 u116 u117 u118 u119 u120 u121 u122 u123 u124 u125 u126 u127 u128 u129 u130 u131 u132 u133 u134 u135 u136 u137 u138 u139 u140 u141 u142 u143 u144 u145 u146 u147 u148 u149 u150 u151 u152 u153 u154 u155 u156 u157 u158 u159 u160 u161 u162 u163 u164 u165 u166 u167 u168 u169 u170 u171
          have HRp := Lib.hid h1
          have HPR := Lib.hid h2
          have HP := Lib.hid h3
          have HRs := Lib.hid h4
          have B7 := Lib.hid h5
          clear h1 h2 h3 h4 h5 HX
          replace A8 := Lib.hid (keepb A8.out B7.out)
          replace BA := Lib.hid (chain BA.out B7.out)
          replace HT := Lib.hid (HT.out.keep B7.out)
          replace HW := Lib.hid (HW.out.keep B7.out)
          clear B7
          have HSmP := Lib.hid (right_small HRp.out)
          have HSmR := Lib.hid (show SmS (cons R) by rw [← HPR.out]; exact HSmP.out)
          obtain ⟨fs, fok, hfd⟩ : ∃ fs fok, sesFind (cons P) a.id = (fs, fok) := ⟨_, _, rfl⟩
          have HFd := Lib.hid hfd
          have HFd2 := Lib.hid (show sesFind (cons R) a.id = (fs, fok) by rw [← HPR.out]; exact hfd)
          clear hfd
          have g1 := act_id (rangeAt_block A8.out)
          go_wp2_with fail
          refine (sfind_any _ P a.id _ HP.out.sess HSmP.out fs fok HFd.out).mono ?_
          rintro e w8 ⟨y8, hy8, rfl, HY8, B8⟩
          have HYe := Lib.hid hy8
          have HY := Lib.hid HY8.out.ok
          clear hy8 HY8 g1
          replace A8 := Lib.hid (keepb A8.out B8.out)
          replace BA := Lib.hid (chain BA.out B8.out)
          replace HT := Lib.hid (HT.out.keep B8.out)
          replace HW := Lib.hid (HW.out.keep B8.out)
          replace HP := Lib.hid (HP.out.keep B8.out)
          replace HRs := Lib.hid (HRs.out.keep B8.out)
          clear B8
          go_upto_region 37 with (refine stl (Lib.hid (heap_new w8 (.cells #[.int .i64 0, .int .i64 0, .int .i64 0, .int .i64 0, .int .u8 0, .int .u8 0, .int .u8 0, .int .u8 0, .int .u8 0, .int .u8 0, .int .u8 0, .int .u8 0, .int .u8 0, .int .u8 0, .int .u8 0, .int .u8 0, .int .u8 0, .int .u8 0, .int .u8 0, .int .u8 0, .int .i64 0, .int .i64 0, .int .i64 0, .slice none 0 0, .int .i64 0, .int .i64 0, .int .i64 0, .slice none 0 0, .int .i64 0, .int .i64 0, .int .i64 0, .int .i64 0, .int .i64 0, .int .i64 0, .bool false] 38) w8.heap.size rfl)) rfl rfl rfl rfl rfl ?_; intro w9 A28 M9; have B9 := Lib.hid (Mod.below (B := w8.heap.size) M9.out ((Below.refl w8.heap.size w8).alloc (Nat.le_refl _) _) (by simp) (fun k hk => by omega)))
          (try simp only [Act.put])
          replace A8 := Lib.hid (keepb A8.out B9.out)
          replace BA := Lib.hid (chain BA.out B9.out)
          replace HT := Lib.hid (HT.out.keep B9.out)
          replace HW := Lib.hid (HW.out.keep B9.out)
          replace HP := Lib.hid (HP.out.keep B9.out)
          replace HRs := Lib.hid (HRs.out.keep B9.out)
          replace HY := Lib.hid (HY.out.keep B9.out)
          clear B9 M9
          have g1 := act_id (rangeAt_block A8.out)
          go_wp2_with fail
          refine (rfind_any _ R a.id _ HRs.out HSmR.out fs fok HFd2.out).mono ?_
          rintro e w10 ⟨z10, hz10, rfl, HZ10, B10⟩
          have HZe := Lib.hid hz10
          have HZ := Lib.hid HZ10.out.ok
          clear hz10 HZ10 g1 A8
          replace A28 := Lib.hid (keepb A28.out B10.out)
          replace BA := Lib.hid (chain BA.out B10.out)
          replace HT := Lib.hid (HT.out.keep B10.out)
          replace HW := Lib.hid (HW.out.keep B10.out)
          replace HP := Lib.hid (HP.out.keep B10.out)
          replace HRs := Lib.hid (HRs.out.keep B10.out)
          replace HY := Lib.hid (HY.out.keep B10.out)
          clear B10
          go_upto_region 38 with (refine stl (Lib.hid (heap_new w10 (.cells #[.int .i64 0, .int .i64 0, .int .i64 0, .int .i64 0, .int .u8 0, .int .u8 0, .int .u8 0, .int .u8 0, .int .u8 0, .int .u8 0, .int .u8 0, .int .u8 0, .int .u8 0, .int .u8 0, .int .u8 0, .int .u8 0, .int .u8 0, .int .u8 0, .int .u8 0, .int .u8 0, .int .i64 0, .int .i64 0, .int .i64 0, .slice none 0 0, .int .i64 0, .int .i64 0, .int .i64 0, .slice none 0 0, .int .i64 0, .int .i64 0, .int .i64 0, .int .i64 0, .int .i64 0, .int .i64 0, .bool false] 38) w10.heap.size rfl)) rfl rfl rfl rfl rfl ?_; intro w11 A30 M11; have B11 := Lib.hid (Mod.below (B := w10.heap.size) M11.out ((Below.refl w10.heap.size w10).alloc (Nat.le_refl _) _) (by simp) (fun k hk => by omega)))
          (try simp only [Act.put])
          replace A28 := Lib.hid (keepb A28.out B11.out)
          replace BA := Lib.hid (chain BA.out B11.out)
          replace HT := Lib.hid (HT.out.keep B11.out)
          replace HW := Lib.hid (HW.out.keep B11.out)
          replace HP := Lib.hid (HP.out.keep B11.out)
          replace HRs := Lib.hid (HRs.out.keep B11.out)
          replace HY := Lib.hid (HY.out.keep B11.out)
          replace HZ := Lib.hid (HZ.out.keep B11.out)
          clear B11 M11
          obtain ⟨wq, hwq⟩ : ∃ wq : World, wq = w11 := ⟨_, rfl⟩
          subst hwq
          refine tchk_all us px pw p13 p14 cx cw c13 c14 _ _ X Wl P R fok y8 z10 _ _ _ _ _ _ _ _ _ _ _ _ _ _ _ _ _ _ _ _ _ _ _ _ _ _ _ _ _ _ _ _ _ _ _ _ _ _ _ _ _ _ _ _ _ _ _ _ _ _ _ _ _ _ _ _ _ _ _ _ _ _ _ _ _ _ _ _ _ _ _ _ _ _ _ _ _ _ _ _ _ _ _ _ _ _ _ _ _ _ _ _ _ _ _ _ _ _ _ _ _ _ _ _ _ _ _ _ _ _ _ _ _ _ _ _ _ _ _ _ _ _ _ _ _ _ _ _ _ _ _ _ _ _ _ _ _ _ _ _ _ _ _ _ _ _ _ _ _ _ _ _ _ _ _ _ _ _ _ _ _ _ _ _ _ _ _ _ _ _ _ _ _ _ _ _ _ _ _ _ _ _ _ _ _ _ _ _ _ _ _ _ _ _ _ _ _ _ _ _ _ _ _ _ _ _ _ _ _ _ _ _ _ _ _ _ _ _ _ _ _ _ _ _ _ _ _ _ _ _ _ _ _ _ _ _ _ _ _ _ _ _ _ _ _ _ _ _ _ _ _ _ _ _ _ _ _ _ _ _ _ _ _ _ _ _ _ HT.out HW.out HP.out.sess HRs.out A28.out HY.out A30.out HZ.out (by rw [HYe.out, HZe.out]) HPR.out HWe.out HSmP.out.1 ?_
          intro w12 h1 u186 u187 u188 u189 u190 u191 u192 u193 u194 u195 u196 u197 u198 u199 u200 u201 u202 u203 u204 u205 u206 u207 u208 u209 u210 u211 u212 u213 u214 u215 u216 u217 u218 u219 u220 u221 u222 u223 u224 u225 u226 u227 u228 u229 u230 u231 u232 u233 u234 u235 u236 u237 u238
          have B12 := Lib.hid h1
          clear h1 A28 A30 HY HZ HYe HZe HFd HFd2 HW HWe HT HR HSm
          replace BA := Lib.hid (chain BA.out B12.out)
          replace HP := Lib.hid (HP.out.keep B12.out)
          replace HRs := Lib.hid (HRs.out.keep B12.out)
          clear B12
          have HLt := Lib.hid (show (∀ k, (Value.slice p13 P.length c13).ownBlock = some k → k < w12.heap.size) ∧ ∀ d ∈ P, ∀ k, d.bsl.ownBlock = some k → k < w12.heap.size from ⟨HP.out.row.lt, fun d hd => (HP.out.ok d hd).bt.lt⟩)
          go_wp2_with fail
          refine (sescopy_any _ P _ HP.out.sess HSmP.out).mono ?_
          rintro e w13 ⟨pz, cz, Z, hZ, rfl, HOZ, B13⟩
          have HZc := Lib.hid hZ
          clear hZ
          replace BA := Lib.hid (chain BA.out B13.out)
          replace HP := Lib.hid (HP.out.keep B13.out)
          replace HRs := Lib.hid (HRs.out.keep B13.out)
          clear B13
          go_wp2_with fail
          refine (rtsame_any _ _ Z R true _ HOZ.out.sess HRs.out (by rw [HZc.out, HPR.out]; simp)).mono ?_
          rintro e w14 ⟨rfl, B14⟩
          replace BA := Lib.hid (chain BA.out B14.out)
          replace HP := Lib.hid (HP.out.keep B14.out)
          replace HOZ := Lib.hid (HOZ.out.keep B14.out)
          clear B14 HRs HSmR
          have HZr := Lib.hid (show sesRight (cons Z) = true by rw [HZc.out]; exact HRp.out)
          by_cases h0 : P.length = 0
          · have e8 := List.length_eq_zero_iff.1 h0
            subst e8
            simp only [List.length_nil] at *
            go_wp2_with fail
            go_loopw [32] (fun i wr => i = .int .i64 0 ∧ wr = w14) (fun _ _ => 0)
            case atStart => exact ⟨rfl, rfl⟩
            obtain ⟨rfl, rfl⟩ := hrel
            go_wp2_with fail
            go_roundw
            case rel => exact ⟨k + 1, Z, pz, cz, by omega, by go_num, rfl, HZr.out, HOZ.out.sess, BA.out⟩
            case measure => go_light; simp [intOf]; omega
          · obtain ⟨g, hg⟩ := own_head HP.out.row (by omega)
            subst hg
            have HMu := Lib.hid (muts_of HP.out)
            have HL2 := Lib.hid (show P.length ≤ 1000 ∧ ∀ d ∈ P, d.s.beats.length ≤ 1000 from ⟨by have := HSmP.out.1; simpa [cons] using this, fun d hd => (HSmP.out.2 d.s (by simp only [cons, List.mem_map]; exact ⟨d, hd, rfl⟩)).1⟩)
            clear h0
            obtain ⟨wr2, hwr2⟩ : ∃ wr2 : World, wr2 = w14 := ⟨_, rfl⟩
            subst hwr2
            go_upto_block 3 with fail
            refine tses_mut g c13 P _ w12.heap.size _ _ _ _ _ _ _ _ _ _ _ _ _ _ _ _ _ _ _ _ _ _ _ _ _ _ _ _ _ _ _ _ _ _ _ _ _ _ _ _ _ _ _ _ _ _ _ _ _ _ _ _ _ _ _ _ _ _ _ _ _ _ _ _ _ _ _ _ _ _ _ _ _ _ _ _ _ _ _ _ _ _ _ _ _ _ _ _ _ _ _ _ _ _ _ _ _ _ _ _ _ _ _ _ _ _ _ _ _ _ _ _ _ _ _ _ _ _ _ _ _ _ _ _ _ _ _ _ _ _ _ _ _ _ _ _ _ _ _ _ _ _ _ _ _ _ _ _ _ _ _ _ _ _ _ _ _ _ _ _ _ _ _ _ _ _ _ _ _ _ _ _ _ _ _ _ _ _ _ _ _ _ _ _ _ _ _ _ _ _ _ _ _ _ _ _ _ _ _ _ _ _ _ _ _ _ _ _ _ _ _ _ _ _ _ _ _ _ _ _ _ _ _ _ _ _ _ _ _ _ _ _ _ _ _ _ _ _ _ _ _ _ _ _ _ _ _ _ _ _ _ _ _ _ _ _ _ _ _ _ _ _ _ _ _ _ _ _ _ _ _ _ _ _ _ HMu.out HL2.out.1 HL2.out.2 (HLt.out.1 g rfl) HLt.out.2 ?_
            intro w15 hM u32 u33 u246 u247 u248 u249 u250 u251 u252 u253 u254 u255 u256 u257 u258 u259 u260 u261 u262 u263 u264 u265 u266 u267 u268 u269 u270 u271 u272 u273
            have M15 := Lib.hid hM
            clear hM
            replace HOZ := Lib.hid (HOZ.out.mod M15.out (fun k hk => hk.2))
            replace BA := Lib.hid (M15.out.below BA.out BA.out.size (fun k hk => by have := hk.1; omega))
            clear M15 HMu HP HLt HL2
            go_wp2_with fail
            go_roundw
            case rel => exact ⟨k + 1, Z, pz, cz, by omega, by go_num, rfl, HZr.out, HOZ.out.sess, BA.out⟩
            case measure => go_light; simp [intOf]; omega
        · have hke : k = la.length := by omega
          subst hke
          have t1 : decide ((la.length : Int) < (la.length : Int)) = false := by simp
          go_wp2_with fail
          go_ret
          exact ⟨rfl, BA.out⟩

end Go.Proofs.Ytlmkkfigmoefdaa.lawSessionTells
namespace Go.Proofs.Ytlmkkfigmoefdaa.lawSessionTells
open Go.ChangeShapes Go.WideShapes Go.RowKit
set_option linter.unusedVariables false
theorem own : ownKnob Try.prog.godebug = none := by kernel_rfl
theorem laidOut : laidOutB Try.prog = true := by kernel_rfl
set_option maxRecDepth 100000 in
theorem lifted (os : Os) (started : os.Started) (H : Type) (enc : TypeId × Value → H) :
    ReturnsInHanded {} Try.checked os 3 .any (Rows.sessionTellsSpec.pre6 enc Try.prog Try.f3 Rows.sessionTellsRow.domain false) (Rows.sessionTellsSpec.post enc Try.prog Try.f3 false true false false) := by
  refine returnsInHanded_of_change (C := Try.checked) own started (by kernel_rfl) Try.func3
    (ChangeSpec.witness6 (enc := enc) (C := Try.checked) false ⟨#[], #[.slice none 0 0, .slice none 0 0, .int .i64 0], []⟩ 8 (by kernel_rfl) (by kernel_rfl) (by kernel_rfl) (by kernel_rfl)) ?_
  intro W base args ds gs before hval0 hW hcnd _
  have hval : ∀ (j : Nat) t v, Try.f3.params[j]? = some t → args[j]? = some v → Value.okWide Try.prog W .any base t v := hval0
  have hW' := hW
  obtain ⟨p, q, hA0, hV, rfl, hfz, hnd⟩ := hW
  have hA : DataW.TrodAll enc Try.prog W 0 (fun _ => true) true Try.f3.params.toList args.toList ds p := hA0
  rw [Try.params3] at hA hval
  obtain ⟨v0, vs0, d0, ds0, p0, q0, hargs, rfl, rfl, h0, r0⟩ := trodAll_cons hA
  obtain ⟨v1, vs1, d1, ds1, p1, q1, rfl, rfl, rfl, h1, r1⟩ := trodAll_cons r0
  obtain ⟨v2, vs2, d2, ds2, p2, q2, rfl, rfl, rfl, h2, r2⟩ := trodAll_cons r1
  obtain ⟨rfl, rfl, rfl⟩ := trodAll_nil r2
  obtain rfl : args = #[v0, v1, v2] := by cases args; simp_all
  obtain ⟨rfl, rfl⟩ := trodVars_none hV
  obtain ⟨a0, len0, cap0, rfl⟩ := okWide_slice Try.underlying22 (hval 0 22 v0 rfl rfl)
  have k0 := h0
  have lt0 : ∀ x ∈ p0, x.block < W.heap.size := by obtain ⟨m, hm⟩ := k0; exact DataW.trod_lt m _ _ _ hm
  obtain ⟨z0, _, w0⟩ : ∃ l : List Nj.Sv, l.length = len0 ∧ Nj.Sess W (.slice a0 len0 cap0) l := by
    obtain ⟨fuel, hf⟩ := h0
    exact K.open_sess hf
  obtain ⟨a1, len1, cap1, rfl⟩ := okWide_slice Try.underlying23 (hval 1 23 v1 rfl rfl)
  have k1 := h1
  have lt1 : ∀ x ∈ p1, x.block < W.heap.size := by obtain ⟨m, hm⟩ := k1; exact DataW.trod_lt m _ _ _ hm
  obtain ⟨z1, _, w1⟩ : ∃ l : List Nj.Sa, l.length = len1 ∧ Nj.Sas W (.slice a1 len1 cap1) l := by
    obtain ⟨fuel, hf⟩ := h1
    exact K.open_sas hf
  obtain ⟨a2, rfl, rfl, rfl, w2⟩ := open_int Try.underlying3 (hval 2 3 v2 rfl rfl) h2
  clear hA0 hval0
  refine (walk _ z0 _ z1 a2 W w0 w1 w2).mono fun e W' ⟨he, bel⟩ => ?_
  subst he
  exact ⟨_, rfl, _, _, _, [], _, [], hW', trodAll_mk1 (shut_bool Try.underlying4 _), (trodAll_cons_mk (Below.trod laidOut (by kernel_rfl) (of_decide_eq_true (by kernel_rfl)) k0 bel lt0) (trodAll_cons_mk (Below.trod laidOut (by kernel_rfl) (of_decide_eq_true (by kernel_rfl)) k1 bel lt1) (trodAll_cons_mk (shut_int Try.underlying3 w2) trodAll_mk0))), rfl, bel.frame _, fun h => by cases h⟩
theorem over : Rows.sessionTellsRow.holds Try.pinned (OpenSpec.ofChange Rows.sessionTellsSpec) :=
  OpenClaim.holds_of_wide 3 Try.f3 rfl rfl rfl rfl rfl rfl rfl ⟨rfl, rfl, rfl, rfl, rfl⟩ rfl rfl rfl rfl rfl (by kernel_rfl) Try.func3 (by kernel_rfl)
    (of_decide_eq_true (by kernel_rfl)) (by unfold Func.isWrapper; first | (rw [if_pos (by decide +kernel)]; kernel_rfl) | (rw [if_neg (by decide +kernel)]; exact ⟨rfl, rfl⟩))
    (fun os started H enc _ => lifted os started H enc)
/-- THE STATEMENT -/
theorem proved : Rows.SessionTellsSaid := over
end Go.Proofs.Ytlmkkfigmoefdaa.lawSessionTells
#print axioms Go.Proofs.Ytlmkkfigmoefdaa.lawSessionTells.proved

/-
  THE STATEMENT 'Rows.SessionRightSaid': nightjarlaw18.SessionRight returns true for every input, and its arguments read afterwards as they read before. No condition.
-/
import Derived.Test.YtlmkkfigmoefdaaSes15
import Derived.Test.YtlmkkfigmoefdaaSesPlain2
import Derived.Test.YtlmkkfigmoefdaaSesAct
import Derived.Test.YtlmkkfigmoefdaaSesRtP
import Derived.Test.YtlmkkfigmoefdaaSesRtC
import Derived.Test.YtlmkkfigmoefdaaRows
import Derived.Deep.DeepCutAuto
import Derived.Deep.Light
import Derived.Deep.CutBlock
import Derived.ProofKit
import Derived.OpenShut
import Derived.ShutString
import Derived.ChangeOld
import Derived.Below
set_option linter.unusedVariables false
set_option linter.unusedSimpArgs false
namespace Go.Proofs.Ytlmkkfigmoefdaa.lawSessionRight
open Go Go.RowKit Nj K

set_option maxRecDepth 100000 in
set_option maxHeartbeats 8000000 in
theorem walk (v : Value) (l : List Sv) (va : Value) (la : List Sa) (w : World) (h : Sess w v l) (ha : Sas w va la) :
    Calls Try.prog 4 #[v, va] w fun e w' => e = .returned (.bool true) ∧ Below w.heap.size w w' := by
  have HS := Lib.hid h
  have HA := Lib.hid ha
  obtain ⟨p, cap, rfl, hcap⟩ := sess_shape h
  obtain ⟨pa, capa, rfl, hcapa⟩ := sas_shape ha
  have hm : la.length ≤ 9223372036854775807 := ha.1.1
  clear h ha
  obtain ⟨fw, hfw⟩ : ∃ fw, fewB (cons l) = fw := ⟨_, rfl⟩
  obtain ⟨rb, hrb⟩ : ∃ rb, sesRight (cons l) = rb := ⟨_, rfl⟩
  have HR := Lib.hid hrb
  have HC0 := Lib.hid (fun W (B : Below w.heap.size w W) => few_any _ l W (HS.out.keep B))
  have HC := Lib.hid (fun W (B : Below w.heap.size w W) => sesright_any _ l W (HS.out.keep B))
  rw [hfw] at HC0
  rw [hrb] at HC
  clear hrb hfw
  go_enter Try.func4, Try.ntmps4
  go_wp2_with fail
  refine (small18_any _).mono ?_; rintro e w1 ⟨rfl, BA⟩
  go_wp2_with fail
  refine (HC0.out _ BA.out).mono ?_; rintro e w2 ⟨rfl, B2⟩
  replace BA := Lib.hid (chain BA.out B2.out)
  clear B2 HC0
  cases fw with
  | false =>
    go_wp2_with fail
    go_ret
    exact ⟨rfl, BA.out⟩
  | true =>
    by_cases h50 : 50 < la.length
    · have t1 : (50 : Int) < (la.length : Int) := by omega
      go_wp2_with fail
      go_ret
      exact ⟨rfl, BA.out⟩
    have t1 : ¬ (50 : Int) < (la.length : Int) := by omega
    have t1d := dec_f t1
    go_wp2_with fail
    refine (HC.out _ BA.out).mono ?_; rintro e w3 ⟨rfl, B3⟩
    replace BA := Lib.hid (chain BA.out B3.out)
    clear B3 HC
    cases rb with
    | false =>
      go_wp2_with fail
      go_ret
      exact ⟨rfl, BA.out⟩
    | true =>
      go_wp2_with fail
      clear t1 t1d h50
      go_loopw [0, 7] (fun s0 s7 wr => ∃ (k : Nat) (L : List Sv) (pl : Option Addr) (cl : Nat), k ≤ la.length ∧ s7 = .int .i64 k ∧ s0 = .slice pl L.length cl ∧ sesRight (cons L) = true ∧ Sess wr (.slice pl L.length cl) L ∧ Below w.heap.size w wr) (fun _ i _ => la.length - (intOf i).toNat)
      case atStart => exact ⟨0, l, p, cap, by omega, rfl, rfl, HR.out, HS.out.keep BA.out, BA.out⟩
      case round =>
        obtain ⟨k, L, pl, cl, hk, rfl, rfl, hR, hT, hb⟩ := hrel
        clear BA HR
        have HR := Lib.hid hR
        have HT := Lib.hid hT
        have BA := Lib.hid hb
        clear hR hT hb
        have HSm := Lib.hid (right_small HR.out)
        by_cases hlt : k < la.length
        · obtain ⟨b, o, rfl, _⟩ := HA.out.1.open (by omega)
          obtain ⟨a, ha⟩ : ∃ a, a = la[k] := ⟨_, rfl⟩
          have RA := Lib.hid (act_row (HA.out.1.keep (by decide) BA.out) k hlt a ha)
          have HX := Lib.hid ((HA.out.2 a (by rw [ha]; exact List.getElem_mem hlt)).keep BA.out)
          have t1 : (k : Int) < (la.length : Int) := by omega
          have t2 : (0 : Int) ≤ (k : Int) := by omega
          clear ha
          obtain ⟨fs, fok, hfd⟩ : ∃ fs fok, sesFind (cons L) a.x.s.id = (fs, fok) := ⟨_, _, rfl⟩
          have HFd := Lib.hid hfd
          clear hfd
          go_upto_region 9 with (first | (refine lda RA rfl rfl rfl ?_) | (refine sta (Lib.hid (heap_new wr _ wr.heap.size rfl)) rfl rfl rfl rfl rfl ?_; intro w4 A8 M4; have B4 := Lib.hid (Mod.below (B := wr.heap.size) M4.out ((Below.refl wr.heap.size wr).alloc (Nat.le_refl _) _) (by simp) (fun k hk => by omega))))
          (try simp only [Act.put])
          replace BA := Lib.hid (chain BA.out B4.out)
          replace HT := Lib.hid (HT.out.keep B4.out)
          replace HX := Lib.hid (HX.out.keep B4.out)
          have RX := Lib.hid (act_ses (rangeAt_block A8.out))
          have g2 := f_id RX.out
          go_wp2_with fail
          refine (sfind_any _ L a.x.s.id _ HT.out HSm.out fs fok HFd.out).mono ?_
          rintro e w5 ⟨y5, hy5, rfl, -, B5⟩
          replace A8 := Lib.hid (keepb A8.out B5.out)
          replace BA := Lib.hid (chain BA.out B5.out)
          replace HT := Lib.hid (HT.out.keep B5.out)
          replace HX := Lib.hid (HX.out.keep B5.out)
          go_upto_region 11 with (refine stl (Lib.hid (heap_new w5 (.cells #[.int .i64 0, .int .i64 0, .int .i64 0, .int .i64 0, .int .u8 0, .int .u8 0, .int .u8 0, .int .u8 0, .int .u8 0, .int .u8 0, .int .u8 0, .int .u8 0, .int .u8 0, .int .u8 0, .int .u8 0, .int .u8 0, .int .u8 0, .int .u8 0, .int .u8 0, .int .u8 0, .int .i64 0, .int .i64 0, .int .i64 0, .slice none 0 0, .int .i64 0, .int .i64 0, .int .i64 0, .slice none 0 0, .int .i64 0, .int .i64 0, .int .i64 0, .int .i64 0, .int .i64 0, .int .i64 0, .bool false] 38) w5.heap.size rfl)) rfl rfl rfl rfl rfl ?_; intro w6 A10 M6; have B6 := Lib.hid (Mod.below (B := w5.heap.size) M6.out ((Below.refl w5.heap.size w5).alloc (Nat.le_refl _) _) (by simp) (fun k hk => by omega)))
          (try simp only [Act.put])
          replace A8 := Lib.hid (keepb A8.out B6.out)
          replace BA := Lib.hid (chain BA.out B6.out)
          replace HT := Lib.hid (HT.out.keep B6.out)
          replace HX := Lib.hid (HX.out.keep B6.out)
          clear M4 M6 B4 B5 B6 RA RX g2 A10 hy5
          have RX := Lib.hid (act_ses (rangeAt_block A8.out))
          have g0 := act_do (rangeAt_block A8.out)
          obtain ⟨wo, hwo⟩ : ∃ wo : World, wo = w6 := ⟨_, rfl⟩
          subst hwo
          go_upto_block 2 with fail
          clear g0
          refine ract_all pl cl _ L a fok _ _ _ _ _ _ _ _ _ _ _ _ _ _ _ _ _ _ _ _ _ _ _ _ _ _ _ _ _ _ _ _ _ _ _ _ _ _ _ _ _ _ _ _ _ _ _ _ _ _ _ _ _ _ _ _ _ _ _ _ _ _ _ _ _ _ _ _ _ _ _ _ _ _ _ _ _ _ _ _ _ _ _ _ _ _ _ _ _ _ _ _ _ _ _ _ _ _ _ _ _ _ _ _ _ _ _ _ _ _ _ _ _ _ _ _ _ _ _ _ _ _ _ _ _ _ _ _ _ _ _ _ _ _ _ _ _ _ _ _ _ _ _ _ _ _ _ _ _ _ _ _ _ _ _ _ _ _ _ _ _ _ _ _ _ _ _ _ _ _ _ _ _ _ _ _ _ _ _ _ _ _ _ _ _ HT.out A8.out HX.out HR.out (by rw [HFd.out]) ?_
          intro p4 cp4 U ok w7 h1 h2 h3 u4 u14 u15 u16 u17 u18 u19 u60 u61 u62 u63 u64 u65 u66 u67 u68 u69 u70 u71 u72 u73 u74 u75 u76 u77 u78 u79 u80 u81 u82 u83 u84 u85 u86 u87 u88 u89 u90 u91 u92 u93 u94 u95 u96 u97 u98 u99 u100 u101 u102 u103 u104 u105 u106 u107 u108 u109 u110 u111 u112 u113 u114 u115 u116 u117 u118 u119 u120 u121 u122 u123 u124 u125 u126 u127 u128 u129 u130 u131 u132 u133 u134 u135 u136 u137 u138 u139 u140
          have HAf := Lib.hid h1
          have HU := Lib.hid h2
          have B7 := Lib.hid h3
          clear h1 h2 h3 RX
          replace A8 := Lib.hid (keepb A8.out B7.out)
          replace BA := Lib.hid (chain BA.out B7.out)
          replace HT := Lib.hid (HT.out.keep B7.out)
          replace HX := Lib.hid (HX.out.keep B7.out)
          obtain ⟨gs, has, hf2⟩ : ∃ gs has, sesFind (cons U) a.x.s.id = (gs, has) := ⟨_, _, rfl⟩
          have HF2 := Lib.hid hf2
          have HSmU := Lib.hid (right_small HAf.out.1)
          clear hf2
          go_wp2_with fail
          refine (sfind_any _ U a.x.s.id _ HU.out HSmU.out gs has HF2.out).mono ?_
          rintro e w8 ⟨y8, rfl, rfl, HY8, B8⟩
          replace A8 := Lib.hid (keepb A8.out B8.out)
          replace BA := Lib.hid (chain BA.out B8.out)
          replace HT := Lib.hid (HT.out.keep B8.out)
          replace HU := Lib.hid (HU.out.keep B8.out)
          replace HX := Lib.hid (HX.out.keep B8.out)
          have HY := Lib.hid HY8.out.ok
          go_upto_region 32 with (refine stl (Lib.hid (heap_new w8 (.cells #[.int .i64 0, .int .i64 0, .int .i64 0, .int .i64 0, .int .u8 0, .int .u8 0, .int .u8 0, .int .u8 0, .int .u8 0, .int .u8 0, .int .u8 0, .int .u8 0, .int .u8 0, .int .u8 0, .int .u8 0, .int .u8 0, .int .u8 0, .int .u8 0, .int .u8 0, .int .u8 0, .int .i64 0, .int .i64 0, .int .i64 0, .slice none 0 0, .int .i64 0, .int .i64 0, .int .i64 0, .slice none 0 0, .int .i64 0, .int .i64 0, .int .i64 0, .int .i64 0, .int .i64 0, .int .i64 0, .bool false] 38) w8.heap.size rfl)) rfl rfl rfl rfl rfl ?_; intro w9 A20 M9; have B9 := Lib.hid (Mod.below (B := w8.heap.size) M9.out ((Below.refl w8.heap.size w8).alloc (Nat.le_refl _) _) (by simp) (fun k hk => by omega)))
          (try simp only [Act.put])
          replace A8 := Lib.hid (keepb A8.out B9.out)
          replace BA := Lib.hid (chain BA.out B9.out)
          replace HT := Lib.hid (HT.out.keep B9.out)
          replace HU := Lib.hid (HU.out.keep B9.out)
          replace HX := Lib.hid (HX.out.keep B9.out)
          replace HY := Lib.hid (HY.out.keep B9.out)
          clear M9 B8 B9 HY8 B7
          obtain ⟨wp, hwp⟩ : ∃ wp : World, wp = w9 := ⟨_, rfl⟩
          subst hwp
          refine rchk_all pl p4 cl cp4 _ _ L U a ok has y8 _ _ _ _ _ _ _ _ _ _ _ _ _ _ _ _ _ _ _ _ _ _ _ _ _ _ _ _ _ _ _ _ _ _ _ _ _ _ _ _ _ _ _ _ _ _ _ _ _ _ _ _ _ _ _ _ _ _ _ _ _ _ _ _ _ _ _ _ _ _ _ _ _ _ _ _ _ _ _ _ _ _ _ _ _ _ _ _ _ _ _ _ _ _ _ _ _ _ _ _ _ _ _ _ _ _ _ _ _ _ _ _ _ _ _ _ _ _ _ _ _ _ _ _ _ _ _ _ _ _ _ _ _ _ _ _ _ _ _ _ _ _ _ _ _ _ _ _ _ _ _ _ _ _ _ _ _ _ _ _ _ _ _ _ _ _ _ _ _ _ _ _ _ _ _ _ _ _ _ _ _ _ _ _ _ _ HT.out HU.out A8.out HX.out A20.out HY.out HAf.out HF2.out ?_
          intro w10 h1 u147 u148 u149 u150 u151 u152 u153 u154 u155 u156 u157 u158 u159 u160 u161 u162 u163 u164 u165 u166 u167 u168 u169 u170 u171 u172 u173 u174 u175 u176 u177 u178 u179 u180 u181 u182 u183 u184 u185 u186
          have B10 := Lib.hid h1
          clear h1
          replace BA := Lib.hid (chain BA.out B10.out)
          replace HU := Lib.hid (HU.out.keep B10.out)
          clear A8 A20 HT HX HY HF2 HFd B10
          go_wp2_with fail
          go_roundw
          case rel => exact ⟨k + 1, U, p4, cp4, by omega, by go_num, rfl, HAf.out.1, HU.out, BA.out⟩
          case measure => go_light; simp [intOf]; omega
        · have hke : k = la.length := by omega
          subst hke
          have t1 : decide ((la.length : Int) < (la.length : Int)) = false := by simp
          go_wp2_with fail
          go_ret
          exact ⟨rfl, BA.out⟩

end Go.Proofs.Ytlmkkfigmoefdaa.lawSessionRight
namespace Go.Proofs.Ytlmkkfigmoefdaa.lawSessionRight
open Go.ChangeShapes Go.WideShapes Go.RowKit
set_option linter.unusedVariables false
theorem own : ownKnob Try.prog.godebug = none := by kernel_rfl
theorem laidOut : laidOutB Try.prog = true := by kernel_rfl
set_option maxRecDepth 100000 in
theorem lifted (os : Os) (started : os.Started) (H : Type) (enc : TypeId × Value → H) :
    ReturnsInHanded {} Try.checked os 4 .any (Rows.sessionRightSpec.pre6 enc Try.prog Try.f4 Rows.sessionRightRow.domain false) (Rows.sessionRightSpec.post enc Try.prog Try.f4 false true false false) := by
  refine returnsInHanded_of_change (C := Try.checked) own started (by kernel_rfl) Try.func4
    (ChangeSpec.witness6 (enc := enc) (C := Try.checked) false ⟨#[], #[.slice none 0 0, .slice none 0 0], []⟩ 8 (by kernel_rfl) (by kernel_rfl) (by kernel_rfl) (by kernel_rfl)) ?_
  intro W base args ds gs before hval0 hW hcnd _
  have hval : ∀ (j : Nat) t v, Try.f4.params[j]? = some t → args[j]? = some v → Value.okWide Try.prog W .any base t v := hval0
  have hW' := hW
  obtain ⟨p, q, hA0, hV, rfl, hfz, hnd⟩ := hW
  have hA : DataW.TrodAll enc Try.prog W 0 (fun _ => true) true Try.f4.params.toList args.toList ds p := hA0
  rw [Try.params4] at hA hval
  obtain ⟨v0, vs0, d0, ds0, p0, q0, hargs, rfl, rfl, h0, r0⟩ := trodAll_cons hA
  obtain ⟨v1, vs1, d1, ds1, p1, q1, rfl, rfl, rfl, h1, r1⟩ := trodAll_cons r0
  obtain ⟨rfl, rfl, rfl⟩ := trodAll_nil r1
  obtain rfl : args = #[v0, v1] := by cases args; simp_all
  obtain ⟨rfl, rfl⟩ := trodVars_none hV
  obtain ⟨a0, len0, cap0, rfl⟩ := okWide_slice Try.underlying22 (hval 0 22 v0 rfl rfl)
  have k0 := h0
  have lt0 : ∀ x ∈ p0, x.block < W.heap.size := by obtain ⟨m, hm⟩ := k0; exact DataW.trod_lt m _ _ _ hm
  obtain ⟨z0, _, w0⟩ : ∃ l : List Nj.Sv, l.length = len0 ∧ Nj.Sess W (.slice a0 len0 cap0) l := by
    obtain ⟨fuel, hf⟩ := h0
    exact K.open_sess hf
  obtain ⟨a1, len1, cap1, rfl⟩ := okWide_slice Try.underlying23 (hval 1 23 v1 rfl rfl)
  have k1 := h1
  have lt1 : ∀ x ∈ p1, x.block < W.heap.size := by obtain ⟨m, hm⟩ := k1; exact DataW.trod_lt m _ _ _ hm
  obtain ⟨z1, _, w1⟩ : ∃ l : List Nj.Sa, l.length = len1 ∧ Nj.Sas W (.slice a1 len1 cap1) l := by
    obtain ⟨fuel, hf⟩ := h1
    exact K.open_sas hf
  clear hA0 hval0
  refine (walk _ z0 _ z1 W w0 w1).mono fun e W' ⟨he, bel⟩ => ?_
  subst he
  exact ⟨_, rfl, _, _, _, [], _, [], hW', trodAll_mk1 (shut_bool Try.underlying4 _), (trodAll_cons_mk (Below.trod laidOut (by kernel_rfl) (of_decide_eq_true (by kernel_rfl)) k0 bel lt0) (trodAll_cons_mk (Below.trod laidOut (by kernel_rfl) (of_decide_eq_true (by kernel_rfl)) k1 bel lt1) trodAll_mk0)), rfl, bel.frame _, fun h => by cases h⟩
theorem over : Rows.sessionRightRow.holds Try.pinned (OpenSpec.ofChange Rows.sessionRightSpec) :=
  OpenClaim.holds_of_wide 4 Try.f4 rfl rfl rfl rfl rfl rfl rfl ⟨rfl, rfl, rfl, rfl, rfl⟩ rfl rfl rfl rfl rfl (by kernel_rfl) Try.func4 (by kernel_rfl)
    (of_decide_eq_true (by kernel_rfl)) (by unfold Func.isWrapper; first | (rw [if_pos (by decide +kernel)]; kernel_rfl) | (rw [if_neg (by decide +kernel)]; exact ⟨rfl, rfl⟩))
    (fun os started H enc _ => lifted os started H enc)
/-- THE STATEMENT -/
theorem proved : Rows.SessionRightSaid := over
end Go.Proofs.Ytlmkkfigmoefdaa.lawSessionRight
#print axioms Go.Proofs.Ytlmkkfigmoefdaa.lawSessionRight.proved

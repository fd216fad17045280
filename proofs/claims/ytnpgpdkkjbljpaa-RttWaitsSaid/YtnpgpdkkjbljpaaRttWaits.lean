/-
  THE STATEMENT 'Rows.RttWaitsSaid': nightjarlaw09.RttWaits returns true for every input, and its arguments read afterwards as they read before. No condition.
-/
import Derived.Test.YtnpgpdkkjbljpaaRows
import Derived.Test.YtnpgpdkkjbljpaaRttLaw
import Derived.ProofKit
import Derived.OpenShut
import Derived.ShutString
import Derived.ChangeOld
import Derived.Below
set_option linter.unusedVariables false
set_option linter.unusedSimpArgs false
namespace Go.Proofs.Ytnpgpdkkjbljpaa.lawRttWaits
open Go Go.RowKit Nj Go.Proofs.Ytnpgpdkkjbljpaa.K

set_option maxHeartbeats 2000000 in
theorem walk (s v rto fails : Int) (has : Bool) (r : Int) (w : World) (_h : (Lit.int .i64 r).wf = true) :
    Calls Try.prog 6 #[.agg #[.int .i64 s, .int .i64 v, .int .i64 rto, .int .i64 fails, .bool has], .int .i64 r] w fun e w' => e = .returned (.bool true) ∧ Below w.heap.size w w' := by
  clear _h
  go_enter Try.func6, Try.ntmps6
  go_wp2_with fail
  refine (small09_any _).mono ?_; rintro e w1 ⟨rfl, hb⟩
  have HQ := Lib.hid (blocks1 hb)
  clear hb
  go_wp2_with fail
  go_loopw [6] (fun i wr => ∃ (k : Nat) (e' : Rt), k ≤ 6 ∧ i = .int .i64 k ∧ Waited e' k ∧ wr.heap[w.heap.size]? = some (.cells #[.int .i64 e'.s, .int .i64 e'.v, .int .i64 e'.rto, .int .i64 e'.fails, .bool e'.has] 23) ∧ Below w.heap.size w wr) (fun i _ => 6 - (intOf i).toNat)
  case atStart => exact ⟨0, ⟨s, v, rto, fails, has⟩, by omega, rfl, .inl rfl, HQ.out.1, HQ.out.2.2⟩
  case round =>
    obtain ⟨k, e', hk, rfl, hwt, hq, hwb⟩ := hrel
    have HWT := Lib.hid hwt
    have HX := Lib.hid hq
    have HWB := Lib.hid hwb
    have hc := cell_of_block hq
    have hf := frozen_of_block hq
    clear hwt hq hwb
    by_cases hlt : k < 6
    · have hd : (k : Int) < 6 := by omega
      obtain ⟨e2, he2⟩ : ∃ e2, e2 = rttBackoff e' := ⟨_, rfl⟩
      have HE := Lib.hid he2
      have HV := Lib.hid (show (rttBackoff ⟨e'.s, e'.v, e'.rto, e'.fails, e'.has⟩).val = .agg #[.int .i64 e2.s, .int .i64 e2.v, .int .i64 e2.rto, .int .i64 e2.fails, .bool e2.has] by rw [he2]; rfl)
      clear he2
      go_wp2_with fail
      refine (rttBackoff_any _ _ _ _ _ _).mono ?_; rintro e wx ⟨rfl, hb⟩
      rw [HV.out]
      have HX2 := Lib.hid (keepb HX.out hb)
      have hc2 := cell_of_block HX2.out
      have hf2 := frozen_of_block HX2.out
      have HB2 := Lib.hid (chain HWB.out hb)
      clear hb hc hf
      go_wp2_with fail
      go_roundw
      case rel => exact ⟨k + 1, e2, by omega, by go_num, by rw [HE.out]; exact waited_step HWT.out, store5 HX2.out _ _ _ _ _, store5_below HB2.out (Nat.le_refl _) _ _ _ _ _⟩
      case measure => simp [intOf]; omega
    · obtain rfl : k = 6 := by omega
      obtain ⟨hok, hr64, hf6⟩ := waited_end HWT.out
      have t1 : (e'.rto == 64) = true := by simpa using hr64
      have t2 : decide (6 ≤ e'.fails) = true := by simpa using hf6
      have t3 : decide (e'.fails ≤ 100) = true := by simpa using hok.f1
      obtain ⟨T, hT⟩ : ∃ T, T = (rttSample e' r).rto := ⟨_, rfl⟩
      obtain ⟨X1, X2, hX⟩ : ∃ X1 X2, (rttSample ⟨e'.s, e'.v, e'.rto, e'.fails, e'.has⟩ r).val = .agg #[.int .i64 X1, .int .i64 X2, .int .i64 T, .int .i64 0, .bool true] := ⟨_, _, by rw [hT]; rfl⟩
      have HV := Lib.hid hX
      have HTT := Lib.hid hT
      have HOK := Lib.hid hok
      clear hr64 hf6 hlt hX hT hok
      by_cases hh : e'.has = true
      · clear HTT HOK
        go_wp2_with fail
        refine (rttSample_any _ _ _ _ _ _ _).mono ?_; rintro e wx ⟨rfl, hb⟩
        rw [hh] at HV HX
        rw [HV.out]
        have hc2 := cell_of_block (keepa (keepb HX.out hb) (.cells #[.int .i64 X1, .int .i64 X2, .int .i64 T, .int .i64 0, .bool true] 23))
        have HB2 := Lib.hid (chain HWB.out hb)
        clear hb hc hf
        go_wp2_with fail
        go_ret
        exact ⟨rfl, chaina HB2.out _⟩
      · have hh : e'.has = false := by simpa using hh
        by_cases h1 : r < 0
        · clear HTT HOK
          go_wp2_with fail
          refine (rttSample_any _ _ _ _ _ _ _).mono ?_; rintro e wx ⟨rfl, hb⟩
          rw [hh] at HV HX
          rw [HV.out]
          have hc2 := cell_of_block (keepa (keepb HX.out hb) (.cells #[.int .i64 X1, .int .i64 X2, .int .i64 T, .int .i64 0, .bool true] 23))
          have HB2 := Lib.hid (chain HWB.out hb)
          clear hb hc hf
          go_wp2_with fail
          go_ret
          exact ⟨rfl, chaina HB2.out _⟩
        · by_cases h2 : 10 < r
          · clear HTT HOK
            go_wp2_with fail
            refine (rttSample_any _ _ _ _ _ _ _).mono ?_; rintro e wx ⟨rfl, hb⟩
            rw [hh] at HV HX
            rw [HV.out]
            have hc2 := cell_of_block (keepa (keepb HX.out hb) (.cells #[.int .i64 X1, .int .i64 X2, .int .i64 T, .int .i64 0, .bool true] 23))
            have HB2 := Lib.hid (chain HWB.out hb)
            clear hb hc hf
            go_wp2_with fail
            go_ret
            exact ⟨rfl, chaina HB2.out _⟩
          · obtain ⟨p, hp⟩ : ∃ p, (if 1 < 2 * r then 2 * r else 1) = p := ⟨_, rfl⟩
            obtain ⟨q, hq⟩ : ∃ q, (if 2 < r + p then r + p else 2) = q := ⟨_, rfl⟩
            have ht := sample_fresh HOK.out hh (Int.not_lt.1 h1) (Int.not_lt.1 h2)
            rw [← HTT.out] at ht
            have t4 : (T == q) = true := by simp; omega
            have p0 : 1 ≤ p := by omega
            have p1 : p ≤ 20 := by omega
            have g1 := int_rule hp
            have g2 := int_rule hq
            clear ht hp hq HTT HOK
            go_wp2_with fail
            refine (rttSample_any _ _ _ _ _ _ _).mono ?_; rintro e wx ⟨rfl, hb⟩
            rw [hh] at HV HX
            rw [HV.out]
            have hc2 := cell_of_block (keepa (keepb HX.out hb) (.cells #[.int .i64 X1, .int .i64 X2, .int .i64 T, .int .i64 0, .bool true] 23))
            have HB2 := Lib.hid (chain HWB.out hb)
            clear hb hc hf
            go_wp2_with fail
            go_ret
            exact ⟨rfl, chaina HB2.out _⟩

end Go.Proofs.Ytnpgpdkkjbljpaa.lawRttWaits
namespace Go.Proofs.Ytnpgpdkkjbljpaa.lawRttWaits
open Go.ChangeShapes Go.WideShapes Go.RowKit
set_option linter.unusedVariables false
theorem own : ownKnob Try.prog.godebug = none := by kernel_rfl
theorem laidOut : laidOutB Try.prog = true := by kernel_rfl
set_option maxRecDepth 100000 in
theorem lifted (os : Os) (started : os.Started) (H : Type) (enc : TypeId × Value → H) :
    ReturnsInHanded {} Try.checked os 6 .any (Rows.rttWaitsSpec.pre6 enc Try.prog Try.f6 Rows.rttWaitsRow.domain false) (Rows.rttWaitsSpec.post enc Try.prog Try.f6 false true false false) := by
  refine returnsInHanded_of_change (C := Try.checked) own started (by kernel_rfl) Try.func6
    (ChangeSpec.witness6 (enc := enc) (C := Try.checked) false ⟨#[], #[.agg #[.int .i64 0, .int .i64 0, .int .i64 0, .int .i64 0, .bool false], .int .i64 0], []⟩ 8 (by kernel_rfl) (by kernel_rfl) (by kernel_rfl) (by kernel_rfl)) ?_
  intro W base args ds gs before hval0 hW hcnd _
  have hval : ∀ (j : Nat) t v, Try.f6.params[j]? = some t → args[j]? = some v → Value.okWide Try.prog W .any base t v := hval0
  have hW' := hW
  obtain ⟨p, q, hA0, hV, rfl, hfz, hnd⟩ := hW
  have hA : DataW.TrodAll enc Try.prog W 0 (fun _ => true) true Try.f6.params.toList args.toList ds p := hA0
  rw [Try.params6] at hA hval
  obtain ⟨v0, vs0, d0, ds0, p0, q0, hargs, rfl, rfl, h0, r0⟩ := trodAll_cons hA
  obtain ⟨v1, vs1, d1, ds1, p1, q1, rfl, rfl, rfl, h1, r1⟩ := trodAll_cons r0
  obtain ⟨rfl, rfl, rfl⟩ := trodAll_nil r1
  obtain rfl : args = #[v0, v1] := by cases args; simp_all
  obtain ⟨rfl, rfl⟩ := trodVars_none hV
  obtain ⟨s0, x0, y0, z0, b0, rfl⟩ := K.open_rtt (hval 0 23 v0 rfl rfl) h0
  have k0 := h0
  have lt0 : ∀ x ∈ p0, x.block < W.heap.size := by obtain ⟨m, hm⟩ := k0; exact DataW.trod_lt m _ _ _ hm
  obtain ⟨a1, rfl, rfl, rfl, w1⟩ := open_int Try.underlying3 (hval 1 3 v1 rfl rfl) h1
  clear hA0 hval0
  refine (walk s0 x0 y0 z0 b0 a1 W w1).mono fun e W' ⟨he, bel⟩ => ?_
  subst he
  exact ⟨_, rfl, _, _, _, [], _, [], hW', trodAll_mk1 (shut_bool Try.underlying4 _), (trodAll_cons_mk (Below.trod laidOut (by kernel_rfl) (of_decide_eq_true (by kernel_rfl)) k0 bel lt0) (trodAll_cons_mk (shut_int Try.underlying3 w1) trodAll_mk0)), rfl, bel.frame _, fun h => by cases h⟩
theorem over : Rows.rttWaitsRow.holds Try.pinned (OpenSpec.ofChange Rows.rttWaitsSpec) :=
  OpenClaim.holds_of_wide 6 Try.f6 rfl rfl rfl rfl rfl rfl rfl ⟨rfl, rfl, rfl, rfl, rfl⟩ rfl rfl rfl rfl rfl (by kernel_rfl) Try.func6 (by kernel_rfl)
    (of_decide_eq_true (by kernel_rfl)) (by unfold Func.isWrapper; first | (rw [if_pos (by decide +kernel)]; kernel_rfl) | (rw [if_neg (by decide +kernel)]; exact ⟨rfl, rfl⟩))
    (fun os started H enc _ => lifted os started H enc)
/-- THE STATEMENT -/
theorem proved : Rows.RttWaitsSaid := over
end Go.Proofs.Ytnpgpdkkjbljpaa.lawRttWaits
#print axioms Go.Proofs.Ytnpgpdkkjbljpaa.lawRttWaits.proved

/-
  THE STATEMENT 'Rows.RttRightSaid': nightjarlaw09.RttRight returns true for every input, and its arguments read afterwards as they read before. No condition.
-/
import Derived.Test.YtnpgpdkkjbljpaaRows
import Derived.Test.YtnpgpdkkjbljpaaRttLaw
import Derived.StillTailTactics
import Derived.ProofKit
import Derived.OpenShut
import Derived.ShutString
import Derived.ChangeOld
import Derived.Below
set_option linter.unusedVariables false
set_option linter.unusedSimpArgs false
namespace Go.Proofs.Ytnpgpdkkjbljpaa.lawRttRight
open Go Go.RowKit Nj Go.Proofs.Ytnpgpdkkjbljpaa.K

set_option maxHeartbeats 1000000 in
theorem walk_out (s v rto fails : Int) (has : Bool) (l : Value) (xs : List Int) (w : World) (h : Ints w l xs) (hno : 500 < xs.length) :
    Calls Try.prog 4 #[.agg #[.int .i64 s, .int .i64 v, .int .i64 rto, .int .i64 fails, .bool has], l] w fun e w' => e = .returned (.bool true) ∧ Below w.heap.size w w' := by
  obtain ⟨hm, p, cap, rfl, hcap, hc⟩ := h
  clear hc
  have d1 : decide ((500 : Int) < (xs.length : Int)) = true := by simp; omega
  go_enter Try.func4, Try.ntmps4
  go_big_wp2_with fail
  refine (small09_any _).mono ?_; rintro e w1 ⟨rfl, hb⟩
  have HB := Lib.hid (blocks1 hb)
  clear hb
  go_big_wp2_with fail
  go_ret
  exact ⟨rfl, HB.out.2.2⟩

set_option maxRecDepth 100000 in
set_option maxHeartbeats 4000000 in
theorem walk_in (s v rto fails : Int) (has : Bool) (l : Value) (xs : List Int) (w : World) (h : Ints w l xs) (hle : xs.length ≤ 500) :
    Calls Try.prog 4 #[.agg #[.int .i64 s, .int .i64 v, .int .i64 rto, .int .i64 fails, .bool has], l] w fun e w' => e = .returned (.bool true) ∧ Below w.heap.size w w' := by
  have hk := Lib.hid h
  obtain ⟨hm, p, cap, rfl, hcap, hc⟩ := h
  clear hc
  have d1 : decide ((500 : Int) < (xs.length : Int)) = false := by simp; omega
  have hst : rttStart.val = .agg #[.int .i64 0, .int .i64 0, .int .i64 8, .int .i64 0, .bool false] := rfl
  obtain ⟨e0, he0⟩ : ∃ e0, e0 = rttNorm ⟨s, v, rto, fails, has⟩ := ⟨_, rfl⟩
  have HE0 := Lib.hid he0
  have HOK0 := Lib.hid (show RtOk e0 by rw [he0]; exact norm_ok _)
  clear he0
  go_enter Try.func4, Try.ntmps4
  go_big_wp2_with fail
  refine (small09_any _).mono ?_; rintro e w1 ⟨rfl, hb⟩
  obtain ⟨hq, _, hb1⟩ := blocks1 hb
  have HB := Lib.hid hb1
  have HQ := Lib.hid hq
  have hc := cell_of_block hq
  clear hb hb1 hq
  go_upto_if 15 with (go_at_call 11; refine (rttRight_any _ _ _ _ _ _).mono ?_; rintro e w2 ⟨rfl, hb⟩)
  have HB2 := Lib.hid (chain HB.out hb)
  have HQ2 := Lib.hid (keepb HQ.out hb)
  clear hb hc
  go_cut [] (fun wx => wx.heap[w.heap.size]? = some (.cells #[.int .i64 e0.s, .int .i64 e0.v, .int .i64 e0.rto, .int .i64 e0.fails, .bool e0.has] 23) ∧ Below w.heap.size w wx)
  case first =>
    by_cases hr : rttRight ⟨s, v, rto, fails, has⟩ = true
    · simp only [hr, Bool.not_true]
      go_big_wp2_with fail
      go_meet
      case rel => rw [HE0.out, norm_of_right hr]; exact ⟨HQ2.out, HB2.out⟩
    · have hr : rttRight ⟨s, v, rto, fails, has⟩ = false := by simpa using hr
      have hN := Lib.hid (show e0 = rttStart by rw [HE0.out]; exact norm_of_wrong hr)
      simp only [hr, Bool.not_false]
      go_big_wp2_with fail
      refine (rttStart_any _).mono ?_; rintro e w3 ⟨rfl, hb⟩
      rw [hst]
      have HB3 := Lib.hid (chain HB2.out hb)
      have HQ3 := Lib.hid (keepb HQ2.out hb)
      have hc3 := cell_of_block HQ3.out
      have hf3 := frozen_of_block HQ3.out
      clear hb
      go_big_wp2_with fail
      go_meet
      case rel => rw [hN.out]; exact ⟨store5 HQ3.out _ _ _ _ _, store5_below HB3.out (Nat.le_refl _) _ _ _ _ _⟩
  case rest =>
    have HC := Lib.hid hcut
    clear hcut
    go_big_wp2_with fail
    go_loopw [6] (fun i wr => ∃ (k : Nat) (e' : Rt), k ≤ xs.length ∧ i = .int .i64 k ∧ RtOk e' ∧ wr.heap[w.heap.size]? = some (.cells #[.int .i64 e'.s, .int .i64 e'.v, .int .i64 e'.rto, .int .i64 e'.fails, .bool e'.has] 23) ∧ Below w.heap.size w wr) (fun i _ => xs.length - (intOf i).toNat)
    case atStart => exact ⟨0, e0, by omega, rfl, HOK0.out, HC.out.1, HC.out.2⟩
    case round =>
      obtain ⟨k, e', hkl, rfl, hok, hq, hwb⟩ := hrel
      have HX := Lib.hid hq
      have HWB := Lib.hid hwb
      have HOK := Lib.hid hok
      have hc := cell_of_block hq
      clear hok hq hwb
      by_cases hlt : k < xs.length
      · have hd : (k : Int) < (xs.length : Int) := by omega
        obtain ⟨pb, po, rfl, hcell⟩ := (hk.out.keep HWB.out).atp k hlt
        obtain ⟨x, hx⟩ : ∃ x, x = xs[k] := ⟨_, rfl⟩
        rw [← hx] at hcell
        have HLT := Lib.hid hlt
        have hpb : pb < wr.heap.size := cell_lt hcell
        have hd0 : (0 : Int) ≤ (k : Int) := by omega
        clear hx
        have HA := Lib.hid (show (wr.alloc (.cells #[.int .i64 e'.s, .int .i64 e'.v, .int .i64 e'.rto, .int .i64 e'.fails, .bool e'.has] 23)).heap[w.heap.size]? = _ from keepa HX.out _)
        have HAW := Lib.hid (show (wr.alloc (.cells #[.int .i64 e'.s, .int .i64 e'.v, .int .i64 e'.rto, .int .i64 e'.fails, .bool e'.has] 23)).heap[wr.heap.size]? = _ from heap_new _ _ _ rfl)
        have HAB := Lib.hid (show Below w.heap.size w (wr.alloc (.cells #[.int .i64 e'.s, .int .i64 e'.v, .int .i64 e'.rto, .int .i64 e'.fails, .bool e'.has] 23)) from chaina HWB.out _)
        have hwlt := Lib.hid (show w.heap.size < wr.heap.size from block_lt HX.out)
        have hwl := hwlt.out
        by_cases hneg : x < 0
        · have t0 : decide (x < 0) = true := by simpa using hneg
          obtain ⟨e2, he2⟩ : ∃ e2, e2 = rttBackoff e' := ⟨_, rfl⟩
          have hn := norm_of_right ((right_iff e').2 HOK.out)
          have t1 : decide (e2.rto < e'.rto) = false := by have := HOK.out.r0; have := HOK.out.r1; rw [he2]; simp only [rttBackoff, rttFail, hn]; simp; omega
          have t2 : decide (e2.fails < e'.fails) = false := by have := HOK.out.f1; rw [he2]; simp only [rttBackoff, rttFail, hn]; simp; omega
          have t3 : (e2.s != e'.s) = false := by rw [he2]; simp [rttBackoff, rttFail, hn]
          have t4 : (e2.v != e'.v) = false := by rw [he2]; simp [rttBackoff, rttFail, hn]
          have hok2 : RtOk e2 := by rw [he2]; exact backoff_ok e'
          have t5 : rttRight ⟨e2.s, e2.v, e2.rto, e2.fails, e2.has⟩ = true := (right_iff e2).2 hok2
          have t6 : decide (e2.rto < 2) = false := by have := hok2.r0; rw [decide_eq_false_iff_not]; omega
          have t7 : decide (64 < e2.rto) = false := by have := hok2.r1; rw [decide_eq_false_iff_not]; omega
          have HV := Lib.hid (show (rttBackoff ⟨e'.s, e'.v, e'.rto, e'.fails, e'.has⟩).val = .agg #[.int .i64 e2.s, .int .i64 e2.v, .int .i64 e2.rto, .int .i64 e2.fails, .bool e2.has] by rw [he2]; rfl)
          have HOK2 := Lib.hid hok2
          clear he2 hn hok2 hneg hlt
          go_big_wp2_with fail
          refine (rttBackoff_any _ _ _ _ _ _).mono ?_; rintro e wx ⟨rfl, hb⟩
          rw [HV.out]
          have HX2 := Lib.hid (keepb HA.out hb)
          have HW2 := Lib.hid (keepb HAW.out hb)
          have hc2 := cell_of_block HX2.out
          have hf2 := frozen_of_block HX2.out
          have hc3 := cell_of_block HW2.out
          have HB2 := Lib.hid (chain HAB.out hb)
          clear hb hc
          go_big_wp2_with fail
          refine (rttRight_any _ _ _ _ _ _).mono ?_; rintro e wy ⟨rfl, hb⟩
          have HX4 := Lib.hid (keepb (store5 HX2.out (.int .i64 e2.s) (.int .i64 e2.v) (.int .i64 e2.rto) (.int .i64 e2.fails) (.bool e2.has)) hb)
          have HB4 := Lib.hid (chain (store5_below HB2.out (Nat.le_refl _) (.int .i64 e2.s) (.int .i64 e2.v) (.int .i64 e2.rto) (.int .i64 e2.fails) (.bool e2.has)) hb)
          have hc4 := cell_of_block HX4.out
          clear hb hc2 hf2 hc3
          go_big_wp2_with fail
          go_roundw
          case rel => exact ⟨k + 1, e2, by have := HLT.out; omega, by go_num, HOK2.out, HX4.out, HB4.out⟩
          case measure => have := HLT.out; simp [intOf]; omega
        · have t0 : decide (x < 0) = false := by simpa using hneg
          obtain ⟨e2, he2⟩ : ∃ e2, e2 = rttSample e' x := ⟨_, rfl⟩
          have hok2 : RtOk e2 := by rw [he2]; exact sample_ok e' x
          have t1 : (e2.fails != 0) = false := by rw [he2]; rfl
          have t2 : e2.has = true := by rw [he2]; rfl
          have t5 : rttRight ⟨e2.s, e2.v, e2.rto, e2.fails, true⟩ = true := by
            have h5 : rttRight ⟨e2.s, e2.v, e2.rto, e2.fails, e2.has⟩ = true := (right_iff e2).2 hok2
            rwa [t2] at h5
          have t6 : decide (e2.rto < 2) = false := by have := hok2.r0; rw [decide_eq_false_iff_not]; omega
          have t7 : decide (64 < e2.rto) = false := by have := hok2.r1; rw [decide_eq_false_iff_not]; omega
          have HV := Lib.hid (show (rttSample ⟨e'.s, e'.v, e'.rto, e'.fails, e'.has⟩ x).val = .agg #[.int .i64 e2.s, .int .i64 e2.v, .int .i64 e2.rto, .int .i64 e2.fails, .bool true] by rw [← t2, he2]; rfl)
          have HOK2 := Lib.hid hok2
          have HT2 := Lib.hid t2
          clear he2 hok2 hneg hlt t2
          go_upto_region 14 with fail
          obtain ⟨wa, hwa⟩ : ∃ wa, wa = wr.alloc (.cells #[.int .i64 e'.s, .int .i64 e'.v, .int .i64 e'.rto, .int .i64 e'.fails, .bool e'.has] 23) := ⟨_, rfl⟩
          rw [← hwa] at HA HAW HAB ⊢
          have hcx : wa.cell? ⟨pb, po + k, none⟩ = some (.int .i64 x) := by rw [hwa]; exact (World.cell?_alloc_lt wr _ ⟨pb, po + k, none⟩ hpb).trans hcell
          have hsz : wr.heap.size < wa.heap.size := by rw [hwa]; simp
          clear hwa hcell hpb hc
          refine wp_region_still_tail 5 (by kernel_rfl) (by kernel_rfl) ?_
          generalize hwd : ({ wa with drawn := wa.drawn + 1 } : World) = wd
          have hD : Below wa.heap.size wa wd := by subst hwd; exact ⟨rfl, rfl, rfl, Nat.le_refl _, fun _ _ => rfl⟩
          have HDX := Lib.hid (keepb HA.out hD)
          have HDB := Lib.hid (chain HAB.out hD)
          have hc := cell_of_block HDX.out
          have hcx2 : wd.cell? ⟨pb, po + k, none⟩ = some (.int .i64 x) := by rw [← hwd]; exact hcx
          clear hwd hD hcx
          simp only [List.take_succ_cons, List.take_zero, List.drop_succ_cons, List.drop_zero]
          repeat still_step
          refine wpStill_nil ?_
          go_big_wp2_with fail
          refine (rttSample_any _ _ _ _ _ _ _).mono ?_; rintro e wx ⟨rfl, hb⟩
          rw [HV.out]
          have HX2 := Lib.hid (keepb HDX.out hb)
          have hc2 := cell_of_block HX2.out
          have hf2 := frozen_of_block HX2.out
          have HB2 := Lib.hid (chain HDB.out hb)
          clear hb hc
          go_big_wp2_with fail
          refine (rttRight_any _ _ _ _ _ _).mono ?_; rintro e wy ⟨rfl, hb⟩
          have HX4 := Lib.hid (keepb (store5 HX2.out (.int .i64 e2.s) (.int .i64 e2.v) (.int .i64 e2.rto) (.int .i64 e2.fails) (.bool true)) hb)
          have HB4 := Lib.hid (chain (store5_below HB2.out (Nat.le_refl _) (.int .i64 e2.s) (.int .i64 e2.v) (.int .i64 e2.rto) (.int .i64 e2.fails) (.bool true)) hb)
          have hc4 := cell_of_block HX4.out
          clear hb hc2 hf2
          go_big_wp2_with fail
          go_roundw
          case rel => exact ⟨k + 1, e2, by have := HLT.out; omega, by go_num, HOK2.out, by rw [HT2.out]; exact HX4.out, HB4.out⟩
          case measure => have := HLT.out; simp [intOf]; omega
      · obtain rfl : k = xs.length := by omega
        clear hc
        go_big_wp2_with fail
        go_ret
        exact ⟨rfl, HWB.out⟩

theorem walk (s v rto fails : Int) (has : Bool) (l : Value) (xs : List Int) (w : World) (h : Ints w l xs) (_hz : ∀ n ∈ xs, (Lit.int .i64 n).wf = true) :
    Calls Try.prog 4 #[.agg #[.int .i64 s, .int .i64 v, .int .i64 rto, .int .i64 fails, .bool has], l] w fun e w' => e = .returned (.bool true) ∧ Below w.heap.size w w' := by
  by_cases hl : 500 < xs.length
  · exact walk_out s v rto fails has l xs w h hl
  · exact walk_in s v rto fails has l xs w h (by omega)

end Go.Proofs.Ytnpgpdkkjbljpaa.lawRttRight
namespace Go.Proofs.Ytnpgpdkkjbljpaa.lawRttRight
open Go.ChangeShapes Go.WideShapes Go.RowKit
set_option linter.unusedVariables false
theorem own : ownKnob Try.prog.godebug = none := by kernel_rfl
theorem laidOut : laidOutB Try.prog = true := by kernel_rfl
set_option maxRecDepth 100000 in
theorem lifted (os : Os) (started : os.Started) (H : Type) (enc : TypeId × Value → H) :
    ReturnsInHanded {} Try.checked os 4 .any (Rows.rttRightSpec.pre6 enc Try.prog Try.f4 Rows.rttRightRow.domain false) (Rows.rttRightSpec.post enc Try.prog Try.f4 false true false false) := by
  refine returnsInHanded_of_change (C := Try.checked) own started (by kernel_rfl) Try.func4
    (ChangeSpec.witness6 (enc := enc) (C := Try.checked) false ⟨#[], #[.agg #[.int .i64 0, .int .i64 0, .int .i64 0, .int .i64 0, .bool false], .slice none 0 0], []⟩ 8 (by kernel_rfl) (by kernel_rfl) (by kernel_rfl) (by kernel_rfl)) ?_
  intro W base args ds gs before hval0 hW hcnd _
  have hval : ∀ (j : Nat) t v, Try.f4.params[j]? = some t → args[j]? = some v → Value.okWide Try.prog W .any base t v := hval0
  have hW' := hW
  obtain ⟨p, q, hA0, hV, rfl, hfz, hnd⟩ := hW
  have hA : DataW.TrodAll enc Try.prog W 0 (fun _ => true) true Try.f4.params.toList args.toList ds p := hA0
  rw [Try.params4] at hA hval
  obtain ⟨v0, vs0, d0, ds0, p0, q0, hargs, rfl, rfl, h0, r0⟩ := trodAll_cons hA
  obtain ⟨v1, vs1, d1, ds1, p1, q1, rfl, rfl, rfl, h1, r1⟩ := trodAll_cons r0
  obtain ⟨rfl, rfl, rfl⟩ := trodAll_nil r1
  obtain rfl : args = #[v0, v1] := by cases args; simp_all
  obtain ⟨rfl, rfl⟩ := trodVars_none hV
  obtain ⟨s0, x0, y0, z0, b0, rfl⟩ := K.open_rtt (hval 0 23 v0 rfl rfl) h0
  have k0 := h0
  have lt0 : ∀ x ∈ p0, x.block < W.heap.size := by obtain ⟨m, hm⟩ := k0; exact DataW.trod_lt m _ _ _ hm
  obtain ⟨a1, len1, cap1, rfl⟩ := okWide_slice Try.underlying29 (hval 1 29 v1 rfl rfl)
  have k1 := h1
  have lt1 : ∀ x ∈ p1, x.block < W.heap.size := by obtain ⟨m, hm⟩ := k1; exact DataW.trod_lt m _ _ _ hm
  obtain ⟨z1, w1, y1⟩ : ∃ xs, Nj.Ints W (.slice a1 len1 cap1) xs ∧ ∀ n ∈ xs, (Lit.int .i64 n).wf = true := by
    obtain ⟨fuel, hf⟩ := h1
    exact Nj.ints_of_open Try.underlying29 Try.underlying3 (by kernel_rfl) hf
  clear hA0 hval0
  refine (walk s0 x0 y0 z0 b0 _ z1 W w1 y1).mono fun e W' ⟨he, bel⟩ => ?_
  subst he
  exact ⟨_, rfl, _, _, _, [], _, [], hW', trodAll_mk1 (shut_bool Try.underlying4 _), (trodAll_cons_mk (Below.trod laidOut (by kernel_rfl) (of_decide_eq_true (by kernel_rfl)) k0 bel lt0) (trodAll_cons_mk (Below.trod laidOut (by kernel_rfl) (of_decide_eq_true (by kernel_rfl)) k1 bel lt1) trodAll_mk0)), rfl, bel.frame _, fun h => by cases h⟩
theorem over : Rows.rttRightRow.holds Try.pinned (OpenSpec.ofChange Rows.rttRightSpec) :=
  OpenClaim.holds_of_wide 4 Try.f4 rfl rfl rfl rfl rfl rfl rfl ⟨rfl, rfl, rfl, rfl, rfl⟩ rfl rfl rfl rfl rfl (by kernel_rfl) Try.func4 (by kernel_rfl)
    (of_decide_eq_true (by kernel_rfl)) (by unfold Func.isWrapper; first | (rw [if_pos (by decide +kernel)]; kernel_rfl) | (rw [if_neg (by decide +kernel)]; exact ⟨rfl, rfl⟩))
    (fun os started H enc _ => lifted os started H enc)
/-- THE STATEMENT -/
theorem proved : Rows.RttRightSaid := over
end Go.Proofs.Ytnpgpdkkjbljpaa.lawRttRight
#print axioms Go.Proofs.Ytnpgpdkkjbljpaa.lawRttRight.proved

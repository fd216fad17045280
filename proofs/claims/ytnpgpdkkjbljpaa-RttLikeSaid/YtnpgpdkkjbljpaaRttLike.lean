/-
  THE STATEMENT 'Rows.RttLikeSaid': nightjarlaw09.RttLike returns true for every input, and its arguments read afterwards as they read before. No condition.
-/
import Derived.Test.YtnpgpdkkjbljpaaRows
import Derived.Test.YtnpgpdkkjbljpaaRttLaw
import Derived.ProofKit
import Derived.OpenShut
import Derived.ShutString
import Derived.ChangeOld
import Derived.Below
set_option linter.unusedVariables false
set_option linter.unusedSimpArgs false
namespace Go.Proofs.Ytnpgpdkkjbljpaa.lawRttLike
open Go Go.RowKit Nj Go.Proofs.Ytnpgpdkkjbljpaa.K

set_option maxHeartbeats 1000000 in
theorem walk_out (r n : Int) (w : World) (hno : r < 0 ∨ 4096 < r ∨ n < 1 ∨ 200 < n) :
    Calls Try.prog 5 #[.int .i64 r, .int .i64 n] w fun e w' => e = .returned (.bool true) ∧ Below w.heap.size w w' := by
  go_enter Try.func5, Try.ntmps5
  go_wp2_with fail
  refine (small09_any _).mono ?_; rintro e w1 ⟨rfl, hb⟩
  have HB := Lib.hid hb
  clear hb
  go_upto_region 4 with fail
  all_goals first
    | (exfalso; simp_all; done)
    | (exfalso; simp_all; omega)
    | (go_ret; exact ⟨rfl, HB.out⟩)

set_option maxHeartbeats 2000000 in
theorem walk_in (r : Int) (n : Nat) (w : World) (r0 : 0 ≤ r) (r1 : r ≤ 4096) (n0 : 1 ≤ n) (n1 : n ≤ 200) :
    Calls Try.prog 5 #[.int .i64 r, .int .i64 n] w fun e w' => e = .returned (.bool true) ∧ Below w.heap.size w w' := by
  have d1 : decide (r < 0) = false := by simpa using r0
  have d2 : decide (4096 < r) = false := by simpa using r1
  have d3 : decide ((n : Int) < 1) = false := by simp; omega
  have d4 : decide ((200 : Int) < (n : Int)) = false := by simp; omega
  have hst : rttStart.val = .agg #[.int .i64 0, .int .i64 0, .int .i64 8, .int .i64 0, .bool false] := rfl
  go_enter Try.func5, Try.ntmps5
  go_wp2_with fail
  refine (small09_any _).mono ?_; rintro e w1 ⟨rfl, hb⟩
  have HB := Lib.hid hb
  clear hb
  go_wp2_with fail
  refine (rttStart_any _).mono ?_; rintro e w2 ⟨rfl, hb⟩
  rw [hst]
  have HB2 := Lib.hid (chain HB.out hb)
  have hle := Lib.hid (show w.heap.size ≤ w2.heap.size from HB2.out.size)
  clear hb
  go_wp2_with fail
  go_loopw [7] (fun i wr => ∃ (k : Nat) (e' : Rt), k ≤ n ∧ i = .int .i64 k ∧ LikeAt e' r k ∧ wr.heap[w2.heap.size]? = some (.cells #[.int .i64 e'.s, .int .i64 e'.v, .int .i64 e'.rto, .int .i64 e'.fails, .bool e'.has] 23) ∧ Below w.heap.size w wr) (fun i _ => n - (intOf i).toNat)
  case atStart => exact ⟨0, rttStart, by omega, rfl, .inl ⟨rfl, rfl⟩, heap_new _ _ _ rfl, chaina HB2.out _⟩
  case round =>
    obtain ⟨k, e', hk, rfl, hla, hq, hwb⟩ := hrel
    have HX := Lib.hid hq
    have HWB := Lib.hid hwb
    have HLA := Lib.hid hla
    have hc := cell_of_block hq
    clear hla hq hwb
    by_cases hlt : k < n
    · have hd : (k : Int) < (n : Int) := by omega
      obtain ⟨e2, he2⟩ : ∃ e2, rttSample e' r = e2 := ⟨_, rfl⟩
      have HST := Lib.hid (like_step HLA.out r0 r1)
      rw [he2] at HST
      have HV := Lib.hid (show (rttSample ⟨e'.s, e'.v, e'.rto, e'.fails, e'.has⟩ r).val = .agg #[.int .i64 e2.s, .int .i64 e2.v, .int .i64 e2.rto, .int .i64 e2.fails, .bool e2.has] by rw [← he2]; rfl)
      have t1 : (e2.s != 8 * r) = false := by simpa using HST.out.2.1
      clear he2
      by_cases hk0 : 0 < k
      · have t2 : decide ((0 : Int) < (k : Int)) = true := by simp; omega
        have t3 : decide (e'.v < e2.v) = false := by have := HST.out.2.2 hk0; simp; omega
        clear hk0
        go_wp2_with fail
        refine (rttSample_any _ _ _ _ _ _ _).mono ?_; rintro e wx ⟨rfl, hb⟩
        rw [HV.out]
        have HX2 := Lib.hid (keepb HX.out hb)
        have hc2 := cell_of_block HX2.out
        have hf2 := frozen_of_block HX2.out
        have HB3 := Lib.hid (chain HWB.out hb)
        clear hb hc
        go_wp2_with fail
        all_goals
          go_roundw
          case rel => exact ⟨k + 1, e2, by omega, by go_num, HST.out.1, store5 HX2.out _ _ _ _ _, store5_below HB3.out hle.out _ _ _ _ _⟩
          case measure => simp [intOf]; omega
      · obtain rfl : k = 0 := by omega
        have t2 : decide ((0 : Int) < ((0 : Nat) : Int)) = false := by simp
        clear hk0
        go_wp2_with fail
        refine (rttSample_any _ _ _ _ _ _ _).mono ?_; rintro e wx ⟨rfl, hb⟩
        rw [HV.out]
        have HX2 := Lib.hid (keepb HX.out hb)
        have hc2 := cell_of_block HX2.out
        have hf2 := frozen_of_block HX2.out
        have HB3 := Lib.hid (chain HWB.out hb)
        clear hb hc
        go_wp2_with fail
        go_roundw
        case rel => exact ⟨0 + 1, e2, by omega, by go_num, HST.out.1, store5 HX2.out _ _ _ _ _, store5_below HB3.out hle.out _ _ _ _ _⟩
        case measure => simp [intOf]; omega
    · obtain rfl : k = n := by omega
      clear hc
      go_wp2_with fail
      go_ret
      exact ⟨rfl, HWB.out⟩

theorem walk (r n : Int) (w : World) (_h0 : (Lit.int .i64 r).wf = true) (_h1 : (Lit.int .i64 n).wf = true) :
    Calls Try.prog 5 #[.int .i64 r, .int .i64 n] w fun e w' => e = .returned (.bool true) ∧ Below w.heap.size w w' := by
  by_cases h : r < 0 ∨ 4096 < r ∨ n < 1 ∨ 200 < n
  · exact walk_out r n w h
  · obtain ⟨m, rfl⟩ : ∃ m : Nat, n = m := ⟨n.toNat, by omega⟩
    exact walk_in r m w (by omega) (by omega) (by omega) (by omega)

end Go.Proofs.Ytnpgpdkkjbljpaa.lawRttLike
namespace Go.Proofs.Ytnpgpdkkjbljpaa.lawRttLike
open Go.ChangeShapes Go.WideShapes Go.RowKit
set_option linter.unusedVariables false
theorem own : ownKnob Try.prog.godebug = none := by kernel_rfl
theorem laidOut : laidOutB Try.prog = true := by kernel_rfl
set_option maxRecDepth 100000 in
theorem lifted (os : Os) (started : os.Started) (H : Type) (enc : TypeId × Value → H) :
    ReturnsInHanded {} Try.checked os 5 .any (Rows.rttLikeSpec.pre6 enc Try.prog Try.f5 Rows.rttLikeRow.domain false) (Rows.rttLikeSpec.post enc Try.prog Try.f5 false true false false) := by
  refine returnsInHanded_of_change (C := Try.checked) own started (by kernel_rfl) Try.func5
    (ChangeSpec.witness6 (enc := enc) (C := Try.checked) false ⟨#[], #[.int .i64 0, .int .i64 0], []⟩ 8 (by kernel_rfl) (by kernel_rfl) (by kernel_rfl) (by kernel_rfl)) ?_
  intro W base args ds gs before hval0 hW hcnd _
  have hval : ∀ (j : Nat) t v, Try.f5.params[j]? = some t → args[j]? = some v → Value.okWide Try.prog W .any base t v := hval0
  have hW' := hW
  obtain ⟨p, q, hA0, hV, rfl, hfz, hnd⟩ := hW
  have hA : DataW.TrodAll enc Try.prog W 0 (fun _ => true) true Try.f5.params.toList args.toList ds p := hA0
  rw [Try.params5] at hA hval
  obtain ⟨v0, vs0, d0, ds0, p0, q0, hargs, rfl, rfl, h0, r0⟩ := trodAll_cons hA
  obtain ⟨v1, vs1, d1, ds1, p1, q1, rfl, rfl, rfl, h1, r1⟩ := trodAll_cons r0
  obtain ⟨rfl, rfl, rfl⟩ := trodAll_nil r1
  obtain rfl : args = #[v0, v1] := by cases args; simp_all
  obtain ⟨rfl, rfl⟩ := trodVars_none hV
  obtain ⟨a0, rfl, rfl, rfl, w0⟩ := open_int Try.underlying3 (hval 0 3 v0 rfl rfl) h0
  obtain ⟨a1, rfl, rfl, rfl, w1⟩ := open_int Try.underlying3 (hval 1 3 v1 rfl rfl) h1
  clear hA0 hval0
  refine (walk a0 a1 W w0 w1).mono fun e W' ⟨he, bel⟩ => ?_
  subst he
  exact ⟨_, rfl, _, _, _, [], _, [], hW', trodAll_mk1 (shut_bool Try.underlying4 _), (trodAll_cons_mk (shut_int Try.underlying3 w0) (trodAll_cons_mk (shut_int Try.underlying3 w1) trodAll_mk0)), rfl, bel.frame _, fun h => by cases h⟩
theorem over : Rows.rttLikeRow.holds Try.pinned (OpenSpec.ofChange Rows.rttLikeSpec) :=
  OpenClaim.holds_of_wide 5 Try.f5 rfl rfl rfl rfl rfl rfl rfl ⟨rfl, rfl, rfl, rfl, rfl⟩ rfl rfl rfl rfl rfl (by kernel_rfl) Try.func5 (by kernel_rfl)
    (of_decide_eq_true (by kernel_rfl)) (by unfold Func.isWrapper; first | (rw [if_pos (by decide +kernel)]; kernel_rfl) | (rw [if_neg (by decide +kernel)]; exact ⟨rfl, rfl⟩))
    (fun os started H enc _ => lifted os started H enc)
/-- THE STATEMENT -/
theorem proved : Rows.RttLikeSaid := over
end Go.Proofs.Ytnpgpdkkjbljpaa.lawRttLike
#print axioms Go.Proofs.Ytnpgpdkkjbljpaa.lawRttLike.proved

/-
  THE STATEMENT 'Rows.SatRangeSaid': nightjarlaw01.SatRange returns true for every input, and its arguments read afterwards as they read before. No condition.
-/
import Derived.Test.YtnmaipmfmafcmaaRows
import Derived.Test.YtnmaipmfmafcmaaSatSmall
import Derived.ProofKit
import Derived.OpenShut
import Derived.ShutString
import Derived.ChangeOld
import Derived.Below
namespace Go.Proofs.Ytnmaipmfmafcmaa.lawSatRange
open Go Go.RowKit Nj Go.Proofs.Ytnmaipmfmafcmaa.K

theorem clamp_neq (a : Int) : (clamp a != a) = (decide (a < 0) || decide (1099511627776 < a)) := by
  unfold clamp
  by_cases h : a < 0
  · simp [h]; omega
  · by_cases h2 : 1099511627776 < a
    · simp [h2]; omega
    · simp [h, h2]; omega

set_option maxHeartbeats 1000000 in
theorem walk (a : Int) (b : Int) (v : Value) (xs : List Int) (w : World) (_h0 : (Lit.int .i64 a).wf = true) (_h1 : (Lit.int .i64 b).wf = true) (h : Ints w v xs) (_hz : ∀ n ∈ xs, (Lit.int .i64 n).wf = true) :
    Calls Try.prog 4 #[.int .i64 a, .int .i64 b, v] w fun e w' => e = .returned (.bool true) ∧ Below w.heap.size w w' := by
  clear _h0 _h1 _hz
  have hk := Lib.hid h
  obtain ⟨hm, p, cap, rfl, hcap, hc⟩ := h
  clear hc
  by_cases hl : 1000 < xs.length
  · have h1 : decide ((1000 : Int) < (xs.length : Int)) = true := by simp; omega
    clear hl
    go_enter Try.func4, Try.ntmps4
    go_wp2_with fail
    refine (small01_any _).mono ?_; rintro e w1 ⟨rfl, hb⟩
    go_wp2_with fail
    go_ret
    exact ⟨rfl, hb⟩
  · have h1 : decide ((1000 : Int) < (xs.length : Int)) = false := by simp; omega
    clear hl
    obtain ⟨L, hL⟩ : ∃ L, L = [clamp a, add a b, sub a b, mul a b, sum xs, mean xs] := ⟨_, rfl⟩
    have hlen : L.length = 6 := by rw [hL]; rfl
    have hbd : ∀ k (h : k < L.length), 0 ≤ L[k] ∧ L[k] ≤ 1099511627776 := by
      intro k hk
      have hmem : L[k] ∈ L := List.getElem_mem hk
      generalize L[k] = x at *
      rw [hL] at hmem
      simp only [List.mem_cons, List.not_mem_nil, or_false] at hmem
      rcases hmem with rfl | rfl | rfl | rfl | rfl | rfl
      · exact clamp_bd a
      · exact add_bd a b
      · exact sub_bd a b
      · exact mul_bd a b
      · exact sum_bd xs
      · exact mean_bd xs
    have HL := Lib.hid hL
    have HN := Lib.hid hlen
    have HBD := Lib.hid hbd
    clear hL hlen hbd
    go_enter Try.func4, Try.ntmps4
    go_wp2_with fail
    refine (small01_any _).mono ?_; rintro e w1 ⟨rfl, hb⟩
    have hk1 := Lib.hid (hk.out.keep hb)
    have HB := Lib.hid hb
    clear hb hk
    go_wp2_with (first | (go_at_call 12; refine (clamp_any _ _).mono ?_; rintro e w' ⟨rfl, rfl⟩) | (go_at_call 14; refine (add_any _ _ _).mono ?_; rintro e w' ⟨rfl, rfl⟩) | (go_at_call 16; refine (sub_any _ _ _).mono ?_; rintro e w' ⟨rfl, rfl⟩) | (go_at_call 18; refine (mul_any _ _ _).mono ?_; rintro e w' ⟨rfl, rfl⟩) | (go_at_call 20; refine (sum_any _ _ _ hk1.out).mono ?_; rintro e w' ⟨rfl, rfl⟩) | (go_at_call 22; refine (mean_any _ _ _ hk1.out).mono ?_; rintro e w' ⟨rfl, rfl⟩))
    have hi := Lib.hid (show Ints (w1.alloc (.cells #[.int .i64 (clamp a), .int .i64 (add a b), .int .i64 (sub a b), .int .i64 (mul a b), .int .i64 (sum xs), .int .i64 (mean xs)] 3)) (.slice (some ⟨w1.heap.size, 0, none⟩) 6 6) L from ints_alloc _ _ _ _ _ _ _ _ rfl (by rw [HL.out]; rfl) (by rw [HN.out]) (by decide) (by decide))
    have hbe := Lib.hid (show Below w.heap.size w (w1.alloc (.cells #[.int .i64 (clamp a), .int .i64 (add a b), .int .i64 (sub a b), .int .i64 (mul a b), .int .i64 (sum xs), .int .i64 (mean xs)] 3)) from HB.out.alloc HB.out.size _)
    go_loopw [11] (fun i wr => ∃ k : Nat, k ≤ 6 ∧ i = .int .i64 k ∧ Ints wr (.slice (some ⟨w1.heap.size, 0, none⟩) 6 6) L ∧ Below w.heap.size w wr) (fun i _ => 6 - (intOf i).toNat)
    case atStart => exact ⟨0, by omega, rfl, hi.out, hbe.out⟩
    case round =>
      obtain ⟨k, hk, rfl, hwi, hwb⟩ := hrel
      have HWI := Lib.hid hwi
      have HWB := Lib.hid hwb
      clear hi hbe hwi hwb
      by_cases hlt : k < 6
      · obtain ⟨x, hx⟩ : ∃ x, x = L[k]'(by rw [HN.out]; exact hlt) := ⟨_, rfl⟩
        have hx1 : 0 ≤ x ∧ x ≤ 1099511627776 := by rw [hx]; exact HBD.out k _
        have hcell := HWI.out.at k (by rw [HN.out]; exact hlt)
        rw [← hx] at hcell
        have hc1 := cell_regrown hcell
        have hd1 : decide (x < 0) = false := by simp; omega
        have hd2 : decide (1099511627776 < x) = false := by simp; omega
        have hd3 : clamp x = x := clamp_id hx1.1 hx1.2
        have hd4 : (k : Int) < 6 := by omega
        have hd5 : (0 : Int) ≤ (k : Int) := by omega
        clear hx hx1 hcell
        go_wp2_with fail
        refine wp_region_quiet_below (by kernel_rfl) (by kernel_rfl) ?_
        repeat (first | go_big_quiet_skip | (go_big_quiet_want; go_big_quiet_op; first | go_big_quiet_on | (apply Exists.intro; refine ⟨fun _ => ?_, ?_⟩; (focus ((first | (go_at_call 12; exact same_regrown (clamp_any _ _))))); go_big_quiet_on)))
        refine wpQuiet_nil ?_
        intro _ hw'
        obtain ⟨⟨dq, osq⟩, hw''⟩ := hw'
        subst hw''
        go_wp2_with fail
        go_roundw
        case rel => exact ⟨k + 1, by omega, by go_num, HWI.out.regrown _ _, HWB.out.trans ((below_regrown _ _ _).mono HWB.out.size)⟩
        case measure => simp [intOf]; omega
      · obtain rfl : k = 6 := by omega
        have g1 := cell_regrown (show wr.cell? ⟨w1.heap.size, 1, none⟩ = some (.int .i64 (add a b)) by have := HWI.out.at 1 (by rw [HN.out]; decide); simpa [HL.out] using this)
        have g2 := cell_regrown (show wr.cell? ⟨w1.heap.size, 2, none⟩ = some (.int .i64 (sub a b)) by have := HWI.out.at 2 (by rw [HN.out]; decide); simpa [HL.out] using this)
        have g3 := cell_regrown (show wr.cell? ⟨w1.heap.size, 3, none⟩ = some (.int .i64 (mul a b)) by have := HWI.out.at 3 (by rw [HN.out]; decide); simpa [HL.out] using this)
        have s1 := add_clamp a b
        have s2 := sub_clamp a b
        have s3 := mul_clamp a b
        by_cases ha : a < 0
        · have q1 : decide (a < 0) = true := by simpa using ha
          have q2 : (clamp a != a) = true := by rw [clamp_neq, q1]; rfl
          clear ha
          go_wp2_with fail
          refine wp_region_quiet_below (by kernel_rfl) (by kernel_rfl) ?_
          repeat (first | go_big_quiet_skip | (go_big_quiet_want; go_big_quiet_op; first | go_big_quiet_on | (apply Exists.intro; refine ⟨fun _ => ?_, ?_⟩; (focus ((first | (go_at_call 12; exact same_regrown (clamp_any _ _)) | (go_at_call 14; exact same_regrown (add_any _ _ _)) | (go_at_call 16; exact same_regrown (sub_any _ _ _)) | (go_at_call 18; exact same_regrown (mul_any _ _ _))))); go_big_quiet_on)))
          refine wpQuiet_nil ?_
          intro _ hw'
          obtain ⟨⟨dq, osq⟩, hw''⟩ := hw'
          subst hw''
          go_wp2_with fail
          go_ret
          exact ⟨rfl, HWB.out.trans ((below_regrown _ _ _).mono HWB.out.size)⟩
        · have q1 : decide (a < 0) = false := by simpa using ha
          have q2 : (clamp a != a) = decide (1099511627776 < a) := by rw [clamp_neq, q1]; rfl
          clear ha
          go_wp2_with fail
          refine wp_region_quiet_below (by kernel_rfl) (by kernel_rfl) ?_
          repeat (first | go_big_quiet_skip | (go_big_quiet_want; go_big_quiet_op; first | go_big_quiet_on | (apply Exists.intro; refine ⟨fun _ => ?_, ?_⟩; (focus ((first | (go_at_call 12; exact same_regrown (clamp_any _ _)) | (go_at_call 14; exact same_regrown (add_any _ _ _)) | (go_at_call 16; exact same_regrown (sub_any _ _ _)) | (go_at_call 18; exact same_regrown (mul_any _ _ _))))); go_big_quiet_on)))
          refine wpQuiet_nil ?_
          intro _ hw'
          obtain ⟨⟨dq, osq⟩, hw''⟩ := hw'
          subst hw''
          go_wp2_with fail
          go_ret
          exact ⟨rfl, HWB.out.trans ((below_regrown _ _ _).mono HWB.out.size)⟩

end Go.Proofs.Ytnmaipmfmafcmaa.lawSatRange
namespace Go.Proofs.Ytnmaipmfmafcmaa.lawSatRange
open Go.ChangeShapes Go.WideShapes Go.RowKit
set_option linter.unusedVariables false
theorem own : ownKnob Try.prog.godebug = none := by kernel_rfl
theorem laidOut : laidOutB Try.prog = true := by kernel_rfl
set_option maxRecDepth 100000 in
theorem lifted (os : Os) (started : os.Started) (H : Type) (enc : TypeId × Value → H) :
    ReturnsInHanded {} Try.checked os 4 .any (Rows.satRangeSpec.pre6 enc Try.prog Try.f4 Rows.satRangeRow.domain false) (Rows.satRangeSpec.post enc Try.prog Try.f4 false true false false) := by
  refine returnsInHanded_of_change (C := Try.checked) own started (by kernel_rfl) Try.func4
    (ChangeSpec.witness6 (enc := enc) (C := Try.checked) false ⟨#[], #[.int .i64 0, .int .i64 0, .slice none 0 0], []⟩ 8 (by kernel_rfl) (by kernel_rfl) (by kernel_rfl) (by kernel_rfl)) ?_
  intro W base args ds gs before hval0 hW hcnd _
  have hval : ∀ (j : Nat) t v, Try.f4.params[j]? = some t → args[j]? = some v → Value.okWide Try.prog W .any base t v := hval0
  have hW' := hW
  obtain ⟨p, q, hA0, hV, rfl, hfz, hnd⟩ := hW
  have hA : DataW.TrodAll enc Try.prog W 0 (fun _ => true) true Try.f4.params.toList args.toList ds p := hA0
  rw [Try.params4] at hA hval
  obtain ⟨v0, vs0, d0, ds0, p0, q0, hargs, rfl, rfl, h0, r0⟩ := trodAll_cons hA
  obtain ⟨v1, vs1, d1, ds1, p1, q1, rfl, rfl, rfl, h1, r1⟩ := trodAll_cons r0
  obtain ⟨v2, vs2, d2, ds2, p2, q2, rfl, rfl, rfl, h2, r2⟩ := trodAll_cons r1
  obtain ⟨rfl, rfl, rfl⟩ := trodAll_nil r2
  obtain rfl : args = #[v0, v1, v2] := by cases args; simp_all
  obtain ⟨rfl, rfl⟩ := trodVars_none hV
  obtain ⟨a0, rfl, rfl, rfl, w0⟩ := open_int Try.underlying3 (hval 0 3 v0 rfl rfl) h0
  obtain ⟨a1, rfl, rfl, rfl, w1⟩ := open_int Try.underlying3 (hval 1 3 v1 rfl rfl) h1
  obtain ⟨a2, len2, cap2, rfl⟩ := okWide_slice Try.underlying22 (hval 2 22 v2 rfl rfl)
  have k2 := h2
  have lt2 : ∀ x ∈ p2, x.block < W.heap.size := by obtain ⟨m, hm⟩ := k2; exact DataW.trod_lt m _ _ _ hm
  obtain ⟨z2, w2, y2⟩ : ∃ xs, Nj.Ints W (.slice a2 len2 cap2) xs ∧ ∀ n ∈ xs, (Lit.int .i64 n).wf = true := by
    obtain ⟨fuel, hf⟩ := h2
    exact Nj.ints_of_open Try.underlying22 Try.underlying3 (by kernel_rfl) hf
  clear hA0 hval0
  refine (walk a0 a1 _ z2 W w0 w1 w2 y2).mono fun e W' ⟨he, bel⟩ => ?_
  subst he
  exact ⟨_, rfl, _, _, _, [], _, [], hW', trodAll_mk1 (shut_bool Try.underlying4 _), (trodAll_cons_mk (shut_int Try.underlying3 w0) (trodAll_cons_mk (shut_int Try.underlying3 w1) (trodAll_cons_mk (Below.trod laidOut (by kernel_rfl) (of_decide_eq_true (by kernel_rfl)) k2 bel lt2) trodAll_mk0))), rfl, bel.frame _, fun h => by cases h⟩
theorem over : Rows.satRangeRow.holds Try.pinned (OpenSpec.ofChange Rows.satRangeSpec) :=
  OpenClaim.holds_of_wide 4 Try.f4 rfl rfl rfl rfl rfl rfl rfl ⟨rfl, rfl, rfl, rfl, rfl⟩ rfl rfl rfl rfl rfl (by kernel_rfl) Try.func4 (by kernel_rfl)
    (of_decide_eq_true (by kernel_rfl)) (by unfold Func.isWrapper; first | (rw [if_pos (by decide +kernel)]; kernel_rfl) | (rw [if_neg (by decide +kernel)]; exact ⟨rfl, rfl⟩))
    (fun os started H enc _ => lifted os started H enc)
/-- THE STATEMENT -/
theorem proved : Rows.SatRangeSaid := over
end Go.Proofs.Ytnmaipmfmafcmaa.lawSatRange
#print axioms Go.Proofs.Ytnmaipmfmafcmaa.lawSatRange.proved

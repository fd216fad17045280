/-
  THE STATEMENT 'Rows.DetectForgetsSaid': nightjarlaw14.DetectForgets returns true for every input, and its arguments read afterwards as they read before. No condition.
-/
import Derived.Test.YtdflajgglgbphaaDetSmall
import Derived.Test.YtdflajgglgbphaaRows
import Derived.ProofKit
import Derived.OpenShut
import Derived.ShutString
import Derived.ChangeOld
import Derived.Below
set_option linter.unusedVariables false
set_option linter.unusedSimpArgs false
namespace Go.Proofs.Ytdflajgglgbphaa.lawDetectForgets
open Go Go.RowKit Nj K

set_option maxRecDepth 100000 in
set_option maxHeartbeats 4000000 in
theorem walk (v : Value) (l : List Bt) (v' : Value) (m : List Bt) (v'' : Value) (more : List Bt) (w : World) (hw : Bts w v l) (hw' : Bts w v' m) (hw'' : Bts w v'' more) :
    Calls Try.prog 8 #[v, v', v''] w fun e w' => e = .returned (.bool true) ∧ Below w.heap.size w w' := by
  have S0 := Lib.hid hw
  have T0 := Lib.hid hw'
  have M0 := Lib.hid hw''
  obtain ⟨p, cap, rfl, hcap⟩ := bts_shape hw
  obtain ⟨p', cap', rfl, hcap'⟩ := bts_shape hw'
  obtain ⟨p'', cap'', rfl, hcap''⟩ := bts_shape hw''
  clear hw hw' hw''
  by_cases h100 : 100 < more.length
  · have d1 := dec_t (show (100 : Int) < (more.length : Int) by omega)
    go_enter Try.func8, Try.ntmps8
    go_big_wp2_with fail
    refine (small_at _).mono ?_; rintro e w1 ⟨rfl, B1⟩
    go_big_wp2_with fail
    go_ret
    exact ⟨rfl, B1.out⟩
  have d1 := dec_f (show ¬ (100 : Int) < (more.length : Int) by omega)
  cases hr : btRight l with
  | false =>
    have HR := Lib.hid hr
    clear hr
    go_enter Try.func8, Try.ntmps8
    go_big_wp2_with fail
    refine (small_at _).mono ?_; rintro e w1 ⟨rfl, B1⟩
    go_big_wp2_with fail
    refine (right_at _ _ _ _ (bts_keep S0 B1).out HR.out).mono ?_; rintro e w2 ⟨rfl, B2⟩
    go_big_wp2_with fail
    go_ret
    exact ⟨rfl, chain B1.out B2.out⟩
  | true =>
    have HR := Lib.hid hr
    clear hr
    cases hr : btRight m with
    | false =>
      have HR2 := Lib.hid hr
      clear hr
      go_enter Try.func8, Try.ntmps8
      go_big_wp2_with fail
      refine (small_at _).mono ?_; rintro e w1 ⟨rfl, B1⟩
      go_big_wp2_with fail
      refine (right_at _ _ _ _ (bts_keep S0 B1).out HR.out).mono ?_; rintro e w2 ⟨rfl, B2⟩
      go_big_wp2_with fail
      refine (right_at _ _ _ _ (bts_keep (bts_keep T0 B1) B2).out HR2.out).mono ?_; rintro e w3 ⟨rfl, B3⟩
      go_big_wp2_with fail
      go_ret
      exact ⟨rfl, chain B1.out (chain B2.out B3.out)⟩
    | true =>
      have HR2 := Lib.hid hr
      clear hr
      obtain ⟨N, hN⟩ : ∃ N, N = more.length := ⟨_, rfl⟩
      rw [← hN] at M0 d1 h100 hcap'' ⊢
      have HN := Lib.hid hN
      clear hN
      go_enter Try.func8, Try.ntmps8
      go_big_wp2_with fail
      refine (small_at _).mono ?_; rintro e w1 ⟨rfl, B1⟩
      go_big_wp2_with fail
      refine (right_at _ _ _ _ (bts_keep S0 B1).out HR.out).mono ?_; rintro e w2 ⟨rfl, B2⟩
      go_big_wp2_with fail
      refine (right_at _ _ _ _ (bts_keep (bts_keep T0 B1) B2).out HR2.out).mono ?_; rintro e w3 ⟨rfl, B3⟩
      have B03 := Lib.hid (chain B1.out (chain B2.out B3.out))
      have S3 := Lib.hid (S0.out.keep (by decide) B03.out)
      have T3 := Lib.hid (T0.out.keep (by decide) B03.out)
      have TZ := Lib.hid (tail_zero (right_pos HR.out).2 (right_pos HR2.out).2)
      go_big_wp2_with fail
      go_loopw [0, 1, 8, 9] (fun lv mv nv i wr => ∃ (k : Nat) (L M : List Bt), k ≤ N ∧ i = .int .i64 k ∧ nv = .int .i64 k ∧ Bts wr lv L ∧ Bts wr mv M ∧ btRight L = true ∧ btRight M = true ∧ Tail k L M ∧ Below w.heap.size w wr) (fun _ _ _ i _ => N - (intOf i).toNat)
      case atStart => exact ⟨0, l, m, by omega, rfl, rfl, S3.out, T3.out, HR.out, HR2.out, TZ.out, B03.out⟩
      case round =>
        obtain ⟨k, L, M, hk, rfl, rfl, hs, ht, hLr, hMr, htail, hwb⟩ := hrel
        have HW := Lib.hid hwb
        have HS := Lib.hid hs
        have HT := Lib.hid ht
        have HL := Lib.hid hLr
        have HM := Lib.hid hMr
        have HTL := Lib.hid htail
        obtain ⟨p1, cap1, rfl, hcap1⟩ := bts_shape hs
        obtain ⟨p2, cap2, rfl, hcap2⟩ := bts_shape ht
        clear hs ht hwb hLr hMr htail
        by_cases hlt : k < N
        · have hkm : k < more.length := by rw [← HN.out]; exact hlt
          obtain ⟨pb, po, rfl, _⟩ := M0.out.open (by omega)
          obtain ⟨x, hx⟩ : ∃ x, x = more[k] := ⟨_, rfl⟩
          have HX := Lib.hid hx
          have t2 : (k : Int) < (N : Int) := by omega
          have t3 : (0 : Int) ≤ (k : Int) := by omega
          clear hx
          obtain ⟨L', ok, hbe⟩ : ∃ L' ok, btBeat L x.seq x.at_ = (L', ok) := ⟨_, _, rfl⟩
          obtain ⟨M', ok', hbe'⟩ : ∃ L' ok, btBeat M x.seq x.at_ = (L', ok) := ⟨_, _, rfl⟩
          have EB := Lib.hid hbe
          have EB' := Lib.hid hbe'
          have RL := Lib.hid (show btRight L' = true by have := beat_right x.seq x.at_ HL.out; rw [hbe] at this; exact this)
          have RM := Lib.hid (show btRight M' = true by have := beat_right x.seq x.at_ HM.out; rw [hbe'] at this; exact this)
          have HTL' := Lib.hid (show ok = true → ok' = true → Tail (k + 1) L' M' by
            intro e1 e2
            have a1 := beat_snd L x.seq x.at_
            have a2 := beat_snd M x.seq x.at_
            rw [hbe] at a1; rw [hbe'] at a2
            simp only at a1 a2
            rw [beat_yes (by rw [← a1]; exact e1)] at hbe
            rw [beat_yes (by rw [← a2]; exact e2)] at hbe'
            cases hbe; cases hbe'
            exact tail_step _ HTL.out)
          clear hbe hbe'
          obtain ⟨c2, c3⟩ := bts_at M0 HW.out k hkm
          rw [← HX.out] at c2 c3
          go_upto_region 8 with fail
          have BW := Lib.hid (show Below w.heap.size w wr.drew from HW.out.drew)
          go_region_held3 (fun w' => w'.cell? ⟨pb, po + k * 2, none⟩ = some (.int .i64 x.seq) ∧ w'.cell? ⟨pb, po + k * 2 + 1, none⟩ = some (.int .i64 x.at_)) (go_keep)
            ((first
              | (go_at_call 15; refine (beat_at _ _ _ _ _ _ wr.drew (show Bts wr.drew _ _ from HS.out) (right_pos HL.out).1 (by have := (right_pos HL.out).2; omega) EB.out).mono ?_; rintro e w4 ⟨p3, cap3, rfl, F4, B4⟩; have c4 := (bts_at M0 (chain BW.out B4.out) k hkm).1; have c5 := (bts_at M0 (chain BW.out B4.out) k hkm).2; rw [← HX.out] at c4 c5)))
          have B04 := Lib.hid (chain BW.out B4.out)
          have L4 : Hid (Bts w4 _ _) := Lib.hid F4.out.1
          have M4 : Hid (Bts w4 _ M) := Lib.hid ((show Bts wr.drew _ M from HT.out).keep (by decide) B4.out)
          clear c2 c3
          go_upto_region 9 with fail
          have BW2 := Lib.hid (show Below w.heap.size w w4.drew from B04.out.drew)
          go_region_held3 (fun w' => w'.cell? ⟨pb, po + k * 2, none⟩ = some (.int .i64 x.seq) ∧ w'.cell? ⟨pb, po + k * 2 + 1, none⟩ = some (.int .i64 x.at_)) (go_keep)
            ((first
              | (go_at_call 15; refine (beat_at _ _ _ _ _ _ w4.drew (show Bts w4.drew _ _ from M4.out) (right_pos HM.out).1 (by have := (right_pos HM.out).2; omega) EB'.out).mono ?_; rintro e w5 ⟨p4, cap4, rfl, F5, B5⟩; have c6 := (bts_at M0 (chain BW2.out B5.out) k hkm).1; have c7 := (bts_at M0 (chain BW2.out B5.out) k hkm).2; rw [← HX.out] at c6 c7)))
          have B05 := Lib.hid (chain BW2.out B5.out)
          have M5 : Hid (Bts w5 _ _) := Lib.hid F5.out.1
          have L5 : Hid (Bts w5 _ L') := Lib.hid ((show Bts w4.drew _ L' from L4.out).keep (by decide) B5.out)
          clear c4 c5 c6 c7
          cases ok with
          | false =>
            go_big_wp2_with fail
            go_ret
            exact ⟨rfl, B05.out⟩
          | true =>
            cases ok' with
            | false =>
              go_big_wp2_with fail
              go_ret
              exact ⟨rfl, B05.out⟩
            | true =>
              have HT2 := Lib.hid (HTL'.out rfl rfl)
              clear HTL'
              by_cases h8 : 8 ≤ k + 1
              · have HE := Lib.hid (tail_same HT2.out h8)
                have hEq := HE.out
                subst hEq
                have t4 := dec_t (show (8 : Int) ≤ (k : Int) + 1 by omega)
                obtain ⟨D, hD⟩ : ∃ D, btDeadline L' = D := ⟨_, rfl⟩
                have HD := Lib.hid hD
                clear hD
                go_big_wp2_with fail
                refine (same_at _ _ _ _ _ _ L5.out M5.out (by simp : decide (L' = L') = true)).mono ?_; rintro e w6 ⟨rfl, B6⟩
                go_big_wp2_with fail
                refine (dl_at _ _ _ _ (bts_keep L5 B6).out RL.out HD.out).mono ?_; rintro e w7 ⟨rfl, B7⟩
                go_big_wp2_with fail
                refine (dl_at _ _ _ _ (bts_keep (bts_keep M5 B6) B7).out RM.out HD.out).mono ?_; rintro e w8 ⟨rfl, B8⟩
                have L8 := bts_keep (bts_keep (bts_keep L5 B6) B7) B8
                have M8 := bts_keep (bts_keep (bts_keep M5 B6) B7) B8
                go_big_wp2_with fail
                go_roundw
                case rel => exact ⟨k + 1, L', L', by omega, by go_num, by go_num, L8.out, M8.out, RL.out, RM.out, HT2.out, chain B05.out (chain B6.out (chain B7.out B8.out))⟩
                case measure => simp [intOf]; omega
              · have t4 := dec_f (show ¬ (8 : Int) ≤ (k : Int) + 1 by omega)
                go_big_wp2_with fail
                go_roundw
                case rel => exact ⟨k + 1, L', M', by omega, by go_num, by go_num, L5.out, M5.out, RL.out, RM.out, HT2.out, B05.out⟩
                case measure => simp [intOf]; omega
        · have t2 := dec_f (show ¬ (k : Int) < (N : Int) by omega)
          go_big_wp2_with fail
          go_ret
          exact ⟨rfl, HW.out⟩

end Go.Proofs.Ytdflajgglgbphaa.lawDetectForgets
namespace Go.Proofs.Ytdflajgglgbphaa.lawDetectForgets
open Go.ChangeShapes Go.WideShapes Go.RowKit
set_option linter.unusedVariables false
theorem own : ownKnob Try.prog.godebug = none := by kernel_rfl
theorem laidOut : laidOutB Try.prog = true := by kernel_rfl
set_option maxRecDepth 100000 in
theorem lifted (os : Os) (started : os.Started) (H : Type) (enc : TypeId × Value → H) :
    ReturnsInHanded {} Try.checked os 8 .any (Rows.detectForgetsSpec.pre6 enc Try.prog Try.f8 Rows.detectForgetsRow.domain false) (Rows.detectForgetsSpec.post enc Try.prog Try.f8 false true false false) := by
  refine returnsInHanded_of_change (C := Try.checked) own started (by kernel_rfl) Try.func8
    (ChangeSpec.witness6 (enc := enc) (C := Try.checked) false ⟨#[], #[.slice none 0 0, .slice none 0 0, .slice none 0 0], []⟩ 8 (by kernel_rfl) (by kernel_rfl) (by kernel_rfl) (by kernel_rfl)) ?_
  intro W base args ds gs before hval0 hW hcnd _
  have hval : ∀ (j : Nat) t v, Try.f8.params[j]? = some t → args[j]? = some v → Value.okWide Try.prog W .any base t v := hval0
  have hW' := hW
  obtain ⟨p, q, hA0, hV, rfl, hfz, hnd⟩ := hW
  have hA : DataW.TrodAll enc Try.prog W 0 (fun _ => true) true Try.f8.params.toList args.toList ds p := hA0
  rw [Try.params8] at hA hval
  obtain ⟨v0, vs0, d0, ds0, p0, q0, hargs, rfl, rfl, h0, r0⟩ := trodAll_cons hA
  obtain ⟨v1, vs1, d1, ds1, p1, q1, rfl, rfl, rfl, h1, r1⟩ := trodAll_cons r0
  obtain ⟨v2, vs2, d2, ds2, p2, q2, rfl, rfl, rfl, h2, r2⟩ := trodAll_cons r1
  obtain ⟨rfl, rfl, rfl⟩ := trodAll_nil r2
  obtain rfl : args = #[v0, v1, v2] := by cases args; simp_all
  obtain ⟨rfl, rfl⟩ := trodVars_none hV
  obtain ⟨a0, len0, cap0, rfl⟩ := okWide_slice Try.underlying22 (hval 0 22 v0 rfl rfl)
  have k0 := h0
  have lt0 : ∀ x ∈ p0, x.block < W.heap.size := by obtain ⟨m, hm⟩ := k0; exact DataW.trod_lt m _ _ _ hm
  obtain ⟨z0, _, w0, y0⟩ : ∃ l : List Nj.Bt, l.length = len0 ∧ Nj.Bts W (.slice a0 len0 cap0) l ∧ ∀ b ∈ l, (Lit.int .i64 b.seq).wf = true ∧ (Lit.int .i64 b.at_).wf = true := by
    obtain ⟨fuel, hf⟩ := h0
    exact K.open_bts hf
  obtain ⟨a1, len1, cap1, rfl⟩ := okWide_slice Try.underlying22 (hval 1 22 v1 rfl rfl)
  have k1 := h1
  have lt1 : ∀ x ∈ p1, x.block < W.heap.size := by obtain ⟨m, hm⟩ := k1; exact DataW.trod_lt m _ _ _ hm
  obtain ⟨z1, _, w1, y1⟩ : ∃ l : List Nj.Bt, l.length = len1 ∧ Nj.Bts W (.slice a1 len1 cap1) l ∧ ∀ b ∈ l, (Lit.int .i64 b.seq).wf = true ∧ (Lit.int .i64 b.at_).wf = true := by
    obtain ⟨fuel, hf⟩ := h1
    exact K.open_bts hf
  obtain ⟨a2, len2, cap2, rfl⟩ := okWide_slice Try.underlying22 (hval 2 22 v2 rfl rfl)
  have k2 := h2
  have lt2 : ∀ x ∈ p2, x.block < W.heap.size := by obtain ⟨m, hm⟩ := k2; exact DataW.trod_lt m _ _ _ hm
  obtain ⟨z2, _, w2, y2⟩ : ∃ l : List Nj.Bt, l.length = len2 ∧ Nj.Bts W (.slice a2 len2 cap2) l ∧ ∀ b ∈ l, (Lit.int .i64 b.seq).wf = true ∧ (Lit.int .i64 b.at_).wf = true := by
    obtain ⟨fuel, hf⟩ := h2
    exact K.open_bts hf
  clear hA0 hval0
  refine (walk _ z0 _ z1 _ z2 W w0 w1 w2).mono fun e W' ⟨he, bel⟩ => ?_
  subst he
  exact ⟨_, rfl, _, _, _, [], _, [], hW', trodAll_mk1 (shut_bool Try.underlying4 _), (trodAll_cons_mk (Below.trod laidOut (by kernel_rfl) (of_decide_eq_true (by kernel_rfl)) k0 bel lt0) (trodAll_cons_mk (Below.trod laidOut (by kernel_rfl) (of_decide_eq_true (by kernel_rfl)) k1 bel lt1) (trodAll_cons_mk (Below.trod laidOut (by kernel_rfl) (of_decide_eq_true (by kernel_rfl)) k2 bel lt2) trodAll_mk0))), rfl, bel.frame _, fun h => by cases h⟩
theorem over : Rows.detectForgetsRow.holds Try.pinned (OpenSpec.ofChange Rows.detectForgetsSpec) :=
  OpenClaim.holds_of_wide 8 Try.f8 rfl rfl rfl rfl rfl rfl rfl ⟨rfl, rfl, rfl, rfl, rfl⟩ rfl rfl rfl rfl rfl (by kernel_rfl) Try.func8 (by kernel_rfl)
    (of_decide_eq_true (by kernel_rfl)) (by unfold Func.isWrapper; first | (rw [if_pos (by decide +kernel)]; kernel_rfl) | (rw [if_neg (by decide +kernel)]; exact ⟨rfl, rfl⟩))
    (fun os started H enc _ => lifted os started H enc)
/-- THE STATEMENT -/
theorem proved : Rows.DetectForgetsSaid := over
end Go.Proofs.Ytdflajgglgbphaa.lawDetectForgets
#print axioms Go.Proofs.Ytdflajgglgbphaa.lawDetectForgets.proved

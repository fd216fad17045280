/-
  THE STATEMENT 'Rows.DetectLaterSaid': nightjarlaw14.DetectLater returns true for every input, and its arguments read afterwards as they read before. No condition.
-/
import Derived.Test.YtdflajgglgbphaaDetSmall
import Derived.Test.YtdflajgglgbphaaRows
import Derived.ProofKit
import Derived.OpenShut
import Derived.ShutString
import Derived.ChangeOld
import Derived.Below
set_option linter.unusedVariables false
set_option linter.unusedSimpArgs false
namespace Go.Proofs.Ytdflajgglgbphaa.lawDetectLater
open Go Go.RowKit Nj K

set_option maxHeartbeats 1000000 in
theorem walk (v : Value) (l : List Bt) (seq now later : Int) (w : World) (hw : Bts w v l) (_ : (Lit.int .i64 seq).wf = true) (_ : (Lit.int .i64 now).wf = true) (_ : (Lit.int .i64 later).wf = true) :
    Calls Try.prog 7 #[v, .int .i64 seq, .int .i64 now, .int .i64 later] w fun e w' => e = .returned (.bool true) ∧ Below w.heap.size w w' := by
  have S0 := Lib.hid hw
  obtain ⟨_, _, p, cap, rfl, hcap, _⟩ := hw
  by_cases hout : btRight l = false ∨ later < now
  · rcases (show btRight l = false ∨ (btRight l = true ∧ later < now) by cases h : btRight l <;> simp_all) with hr | ⟨hr, ht⟩
    all_goals have HR := Lib.hid hr
    all_goals clear hr hout
    all_goals go_enter Try.func7, Try.ntmps7
    all_goals go_wp2_with fail
    all_goals refine (small_at _).mono ?_; rintro e w1 ⟨rfl, B1⟩
    all_goals go_wp2_with fail
    all_goals refine (right_at _ _ _ _ (bts_keep S0 B1).out HR.out).mono ?_; rintro e w2 ⟨rfl, B2⟩
    all_goals go_wp2_with fail
    all_goals go_ret
    all_goals exact ⟨rfl, chain B1.out B2.out⟩
  · have HR := Lib.hid (show btRight l = true by cases h : btRight l <;> simp_all)
    have ht : ¬ later < now := by omega
    have HT := Lib.hid (show now ≤ later by omega)
    have d1 := dec_f ht
    clear hout ht
    obtain ⟨r1, ok1, h1⟩ : ∃ r ok, btBeat l seq now = (r, ok) := ⟨_, _, rfl⟩
    obtain ⟨r2, ok2, h2⟩ : ∃ r ok, btBeat l seq later = (r, ok) := ⟨_, _, rfl⟩
    have hp := right_pos HR.out
    have HP := Lib.hid hp
    have Q1 := Lib.hid (show btRight r1 = true by have := beat_right seq now HR.out; rw [h1] at this; exact this)
    have Q2 := Lib.hid (show btRight r2 = true by have := beat_right seq later HR.out; rw [h2] at this; exact this)
    have HL := Lib.hid (show ok1 = true → later ≤ 1099511627776 → ok2 = true by
      intro e hm
      have a1 := beat_snd l seq now
      have a2 := beat_snd l seq later
      rw [h1] at a1; rw [h2] at a2
      simp only at a1 a2
      rw [a2]
      exact later_ok (by rw [← a1]; exact e) HT.out hm)
    have HD := Lib.hid (show ok1 = true → ok2 = true → btDeadline r1 ≤ btDeadline r2 by
      intro e1 e2
      have a1 := beat_snd l seq now
      have a2 := beat_snd l seq later
      rw [h1] at a1; rw [h2] at a2
      simp only at a1 a2
      rw [beat_yes (by rw [← a1]; exact e1)] at h1
      rw [beat_yes (by rw [← a2]; exact e2)] at h2
      cases h1; cases h2
      exact later_deadline hp.2 HT.out)
    have H1 := Lib.hid h1
    have H2 := Lib.hid h2
    clear h1 h2 hp
    cases ok1 with
    | false =>
      go_enter Try.func7, Try.ntmps7
      go_wp2_with fail
      refine (small_at _).mono ?_; rintro e w1 ⟨rfl, B1⟩
      go_wp2_with fail
      refine (right_at _ _ _ _ (bts_keep S0 B1).out HR.out).mono ?_; rintro e w2 ⟨rfl, B2⟩
      go_wp2_with fail
      refine (beat_at _ _ _ _ _ _ _ (bts_keep (bts_keep S0 B1) B2).out HP.out.1 (by have := HP.out.2; omega) H1.out).mono ?_; rintro e w3 ⟨p3, cap3, rfl, F3, B3⟩
      go_wp2_with fail
      refine (beat_at _ _ _ _ _ _ _ (bts_keep (bts_keep (bts_keep S0 B1) B2) B3).out HP.out.1 (by have := HP.out.2; omega) H2.out).mono ?_; rintro e w4 ⟨p4, cap4, rfl, F4, B4⟩
      go_wp2_with fail
      go_ret
      exact ⟨rfl, chain B1.out (chain B2.out (chain B3.out B4.out))⟩
    | true =>
      cases ok2 with
      | false =>
        have d2 : decide ((1099511627776 : Int) < later) = true := by
          have := HL.out rfl
          by_cases hh : later ≤ 1099511627776
          · exact absurd (this hh) (by decide)
          · simp; omega
        go_enter Try.func7, Try.ntmps7
        go_wp2_with fail
        refine (small_at _).mono ?_; rintro e w1 ⟨rfl, B1⟩
        go_wp2_with fail
        refine (right_at _ _ _ _ (bts_keep S0 B1).out HR.out).mono ?_; rintro e w2 ⟨rfl, B2⟩
        go_wp2_with fail
        refine (beat_at _ _ _ _ _ _ _ (bts_keep (bts_keep S0 B1) B2).out HP.out.1 (by have := HP.out.2; omega) H1.out).mono ?_; rintro e w3 ⟨p3, cap3, rfl, F3, B3⟩
        go_wp2_with fail
        refine (beat_at _ _ _ _ _ _ _ (bts_keep (bts_keep (bts_keep S0 B1) B2) B3).out HP.out.1 (by have := HP.out.2; omega) H2.out).mono ?_; rintro e w4 ⟨p4, cap4, rfl, F4, B4⟩
        go_wp2_with fail
        go_ret
        exact ⟨rfl, chain B1.out (chain B2.out (chain B3.out B4.out))⟩
      | true =>
        obtain ⟨x1, hx1⟩ : ∃ x, btDeadline r1 = x := ⟨_, rfl⟩
        obtain ⟨x2, hx2⟩ : ∃ x, btDeadline r2 = x := ⟨_, rfl⟩
        have d2 : decide (x1 ≤ x2) = true := by have := HD.out rfl rfl; rw [hx1, hx2] at this; simpa using this
        have X1 := Lib.hid hx1
        have X2 := Lib.hid hx2
        clear hx1 hx2
        by_cases hm : (1099511627776 : Int) < later
        all_goals go_enter Try.func7, Try.ntmps7
        all_goals go_wp2_with fail
        all_goals refine (small_at _).mono ?_; rintro e w1 ⟨rfl, B1⟩
        all_goals go_wp2_with fail
        all_goals refine (right_at _ _ _ _ (bts_keep S0 B1).out HR.out).mono ?_; rintro e w2 ⟨rfl, B2⟩
        all_goals go_wp2_with fail
        all_goals refine (beat_at _ _ _ _ _ _ _ (bts_keep (bts_keep S0 B1) B2).out HP.out.1 (by have := HP.out.2; omega) H1.out).mono ?_; rintro e w3 ⟨p3, cap3, rfl, F3, B3⟩
        all_goals go_wp2_with fail
        all_goals refine (beat_at _ _ _ _ _ _ _ (bts_keep (bts_keep (bts_keep S0 B1) B2) B3).out HP.out.1 (by have := HP.out.2; omega) H2.out).mono ?_; rintro e w4 ⟨p4, cap4, rfl, F4, B4⟩
        all_goals have S3 : Hid (Bts w3 _ _) := Lib.hid F3.out.1
        all_goals have S4 : Hid (Bts w4 _ _) := Lib.hid F4.out.1
        all_goals go_wp2_with fail
        all_goals refine (dl_at _ _ _ _ (bts_keep S3 B4).out Q1.out X1.out).mono ?_; rintro e w5 ⟨rfl, B5⟩
        all_goals go_wp2_with fail
        all_goals refine (dl_at _ _ _ _ (bts_keep S4 B5).out Q2.out X2.out).mono ?_; rintro e w6 ⟨rfl, B6⟩
        all_goals go_wp2_with fail
        all_goals go_ret
        all_goals exact ⟨rfl, chain B1.out (chain B2.out (chain B3.out (chain B4.out (chain B5.out B6.out))))⟩

end Go.Proofs.Ytdflajgglgbphaa.lawDetectLater
namespace Go.Proofs.Ytdflajgglgbphaa.lawDetectLater
open Go.ChangeShapes Go.WideShapes Go.RowKit
set_option linter.unusedVariables false
theorem own : ownKnob Try.prog.godebug = none := by kernel_rfl
theorem laidOut : laidOutB Try.prog = true := by kernel_rfl
set_option maxRecDepth 100000 in
theorem lifted (os : Os) (started : os.Started) (H : Type) (enc : TypeId × Value → H) :
    ReturnsInHanded {} Try.checked os 7 .any (Rows.detectLaterSpec.pre6 enc Try.prog Try.f7 Rows.detectLaterRow.domain false) (Rows.detectLaterSpec.post enc Try.prog Try.f7 false true false false) := by
  refine returnsInHanded_of_change (C := Try.checked) own started (by kernel_rfl) Try.func7
    (ChangeSpec.witness6 (enc := enc) (C := Try.checked) false ⟨#[], #[.slice none 0 0, .int .i64 0, .int .i64 0, .int .i64 0], []⟩ 8 (by kernel_rfl) (by kernel_rfl) (by kernel_rfl) (by kernel_rfl)) ?_
  intro W base args ds gs before hval0 hW hcnd _
  have hval : ∀ (j : Nat) t v, Try.f7.params[j]? = some t → args[j]? = some v → Value.okWide Try.prog W .any base t v := hval0
  have hW' := hW
  obtain ⟨p, q, hA0, hV, rfl, hfz, hnd⟩ := hW
  have hA : DataW.TrodAll enc Try.prog W 0 (fun _ => true) true Try.f7.params.toList args.toList ds p := hA0
  rw [Try.params7] at hA hval
  obtain ⟨v0, vs0, d0, ds0, p0, q0, hargs, rfl, rfl, h0, r0⟩ := trodAll_cons hA
  obtain ⟨v1, vs1, d1, ds1, p1, q1, rfl, rfl, rfl, h1, r1⟩ := trodAll_cons r0
  obtain ⟨v2, vs2, d2, ds2, p2, q2, rfl, rfl, rfl, h2, r2⟩ := trodAll_cons r1
  obtain ⟨v3, vs3, d3, ds3, p3, q3, rfl, rfl, rfl, h3, r3⟩ := trodAll_cons r2
  obtain ⟨rfl, rfl, rfl⟩ := trodAll_nil r3
  obtain rfl : args = #[v0, v1, v2, v3] := by cases args; simp_all
  obtain ⟨rfl, rfl⟩ := trodVars_none hV
  obtain ⟨a0, len0, cap0, rfl⟩ := okWide_slice Try.underlying22 (hval 0 22 v0 rfl rfl)
  have k0 := h0
  have lt0 : ∀ x ∈ p0, x.block < W.heap.size := by obtain ⟨m, hm⟩ := k0; exact DataW.trod_lt m _ _ _ hm
  obtain ⟨z0, _, w0, y0⟩ : ∃ l : List Nj.Bt, l.length = len0 ∧ Nj.Bts W (.slice a0 len0 cap0) l ∧ ∀ b ∈ l, (Lit.int .i64 b.seq).wf = true ∧ (Lit.int .i64 b.at_).wf = true := by
    obtain ⟨fuel, hf⟩ := h0
    exact K.open_bts hf
  obtain ⟨a1, rfl, rfl, rfl, w1⟩ := open_int Try.underlying3 (hval 1 3 v1 rfl rfl) h1
  obtain ⟨a2, rfl, rfl, rfl, w2⟩ := open_int Try.underlying3 (hval 2 3 v2 rfl rfl) h2
  obtain ⟨a3, rfl, rfl, rfl, w3⟩ := open_int Try.underlying3 (hval 3 3 v3 rfl rfl) h3
  clear hA0 hval0
  refine (walk _ z0 a1 a2 a3 W w0 w1 w2 w3).mono fun e W' ⟨he, bel⟩ => ?_
  subst he
  exact ⟨_, rfl, _, _, _, [], _, [], hW', trodAll_mk1 (shut_bool Try.underlying4 _), (trodAll_cons_mk (Below.trod laidOut (by kernel_rfl) (of_decide_eq_true (by kernel_rfl)) k0 bel lt0) (trodAll_cons_mk (shut_int Try.underlying3 w1) (trodAll_cons_mk (shut_int Try.underlying3 w2) (trodAll_cons_mk (shut_int Try.underlying3 w3) trodAll_mk0)))), rfl, bel.frame _, fun h => by cases h⟩
theorem over : Rows.detectLaterRow.holds Try.pinned (OpenSpec.ofChange Rows.detectLaterSpec) :=
  OpenClaim.holds_of_wide 7 Try.f7 rfl rfl rfl rfl rfl rfl rfl ⟨rfl, rfl, rfl, rfl, rfl⟩ rfl rfl rfl rfl rfl (by kernel_rfl) Try.func7 (by kernel_rfl)
    (of_decide_eq_true (by kernel_rfl)) (by unfold Func.isWrapper; first | (rw [if_pos (by decide +kernel)]; kernel_rfl) | (rw [if_neg (by decide +kernel)]; exact ⟨rfl, rfl⟩))
    (fun os started H enc _ => lifted os started H enc)
/-- THE STATEMENT -/
theorem proved : Rows.DetectLaterSaid := over
end Go.Proofs.Ytdflajgglgbphaa.lawDetectLater
#print axioms Go.Proofs.Ytdflajgglgbphaa.lawDetectLater.proved

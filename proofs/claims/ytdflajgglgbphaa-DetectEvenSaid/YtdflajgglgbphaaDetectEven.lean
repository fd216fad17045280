/-
  THE STATEMENT 'Rows.DetectEvenSaid': nightjarlaw14.DetectEven returns true for every input, and its arguments read afterwards as they read before. No condition.
-/
import Derived.Test.YtdflajgglgbphaaDetSmall
import Derived.Test.YtdflajgglgbphaaRows
import Derived.ProofKit
import Derived.OpenShut
import Derived.ShutString
import Derived.ChangeOld
import Derived.Below
set_option linter.unusedVariables false
set_option linter.unusedSimpArgs false
namespace Go.Proofs.Ytdflajgglgbphaa.lawDetectEven
open Go Go.RowKit Nj K

theorem bts_shape {w : World} {v : Value} {l : List Bt} (h : Bts w v l) : ∃ p cap, v = .slice p l.length cap ∧ l.length ≤ cap := by
  obtain ⟨_, _, p, cap, rfl, hcap, _⟩ := h
  exact ⟨p, cap, rfl, hcap⟩

set_option maxHeartbeats 1000000 in
theorem walk (now n : Int) (w : World) (_ : (Lit.int .i64 now).wf = true) (_ : (Lit.int .i64 n).wf = true) :
    Calls Try.prog 5 #[.int .i64 now, .int .i64 n] w fun e w' => e = .returned (.bool true) ∧ Below w.heap.size w w' := by
  by_cases hout : now < 0 ∨ 1073741824 < now ∨ n < 0 ∨ 100 < n
  · rcases (show now < 0 ∨ (¬ now < 0 ∧ 1073741824 < now) ∨ (¬ now < 0 ∧ ¬ 1073741824 < now ∧ n < 0) ∨ (¬ now < 0 ∧ ¬ 1073741824 < now ∧ ¬ n < 0 ∧ 100 < n) by omega) with e1 | ⟨e1, e2⟩ | ⟨e1, e2, e3⟩ | ⟨e1, e2, e3, e4⟩
    all_goals clear hout
    all_goals go_enter Try.func5, Try.ntmps5
    all_goals go_wp2_with fail
    all_goals refine (small_at _).mono ?_; rintro e w1 ⟨rfl, B1⟩
    all_goals go_wp2_with fail
    all_goals go_ret
    all_goals exact ⟨rfl, B1.out⟩
  · obtain ⟨h0, h1, h2, h3⟩ : 0 ≤ now ∧ now ≤ 1073741824 ∧ 0 ≤ n ∧ n ≤ 100 := by omega
    obtain ⟨N, rfl⟩ : ∃ N : Nat, n = N := ⟨n.toNat, by omega⟩
    have hN : N ≤ 100 := by omega
    have SE := Lib.hid (start_even now h0 h1)
    clear hout h3
    go_enter Try.func5, Try.ntmps5
    go_wp2_with fail
    refine (small_at _).mono ?_; rintro e w1 ⟨rfl, B1⟩
    go_wp2_with fail
    refine (start_at _ _).mono ?_; rintro e w2 ⟨p2, cap2, rfl, S2, B2⟩
    rw [SE.out] at S2
    have B02 := Lib.hid (chain B1.out B2.out)
    go_wp2_with fail
    go_loopw [6, 7] (fun lv i wr => ∃ k : Nat, k ≤ N ∧ i = .int .i64 ((k : Int) + 1) ∧ Bts wr lv (evenRow now k) ∧ Below w.heap.size w wr) (fun _ i _ => N + 1 - (intOf i).toNat)
    case atStart => exact ⟨0, by omega, rfl, S2.out, B02.out⟩
    case round =>
      obtain ⟨k, hk, rfl, hs, hwb⟩ := hrel
      have HW := Lib.hid hwb
      have HS := Lib.hid hs
      obtain ⟨p, cap, rfl, hcap⟩ := bts_shape hs
      have hlen := even_len now k
      obtain ⟨m, hm⟩ : ∃ m, m = (evenRow now k).length := ⟨_, rfl⟩
      have HM := Lib.hid hm
      rw [← hm] at hlen hcap HS ⊢
      have m0 : m = min (k + 1) 8 := by omega
      have HL := Lib.hid m0
      clear hs hwb hm hlen m0
      by_cases hlt : k < N
      · have ED := Lib.hid (even_deadline now (k + 1) h0 h1 (by omega))
        have EB := Lib.hid (even_beat now k h0 h1 (by omega))
        have t1 : (k : Int) + 1 ≤ (N : Int) := by omega
        have t2 : (now + 4 * ((k : Int) + 1) + 10 != now + 4 * ((k : Int) + 1) + 10) = false := by simp
        have HR := Lib.hid (show btRight (evenRow now (k + 1)) = true from even_right now h0 h1 _ (by omega))
        go_wp2_with fail
        refine (beat_at _ _ _ _ _ _ _ HS.out (by rw [← HM.out, HL.out]; omega) (by rw [← HM.out, HL.out]; omega) EB.out).mono ?_; rintro e w3 ⟨p3, cap3, rfl, F3, B3⟩
        have S3 : Hid (Bts w3 _ _) := Lib.hid F3.out.1
        go_wp2_with fail
        refine (dl_at _ _ _ _ S3.out HR.out ED.out).mono ?_; rintro e w4 ⟨rfl, B4⟩
        go_wp2_with fail
        go_roundw
        case rel =>
          refine ⟨k + 1, by omega, by go_num, ?_, chain HW.out (chain B3.out B4.out)⟩
          exact (bts_keep S3 B4).out
        case measure => simp [intOf]; omega
      · have hke : k = N := by omega
        subst hke
        have ED := Lib.hid (even_deadline now k h0 h1 (by omega))
        have HR := Lib.hid (even_right now h0 h1 k (by omega))
        have t1 : decide ((k : Int) + 1 ≤ (k : Int)) = false := by simp; omega
        go_wp2_with fail
        refine (dl_at _ _ _ _ HS.out HR.out ED.out).mono ?_; rintro e w4 ⟨rfl, B4⟩
        go_wp2_with fail
        all_goals go_ret
        all_goals refine ⟨ret_bool ?_, chain HW.out B4.out⟩
        all_goals (have := HL.out; simp; omega)

end Go.Proofs.Ytdflajgglgbphaa.lawDetectEven
namespace Go.Proofs.Ytdflajgglgbphaa.lawDetectEven
open Go.ChangeShapes Go.WideShapes Go.RowKit
set_option linter.unusedVariables false
theorem own : ownKnob Try.prog.godebug = none := by kernel_rfl
theorem laidOut : laidOutB Try.prog = true := by kernel_rfl
set_option maxRecDepth 100000 in
theorem lifted (os : Os) (started : os.Started) (H : Type) (enc : TypeId × Value → H) :
    ReturnsInHanded {} Try.checked os 5 .any (Rows.detectEvenSpec.pre6 enc Try.prog Try.f5 Rows.detectEvenRow.domain false) (Rows.detectEvenSpec.post enc Try.prog Try.f5 false true false false) := by
  refine returnsInHanded_of_change (C := Try.checked) own started (by kernel_rfl) Try.func5
    (ChangeSpec.witness6 (enc := enc) (C := Try.checked) false ⟨#[], #[.int .i64 0, .int .i64 0], []⟩ 8 (by kernel_rfl) (by kernel_rfl) (by kernel_rfl) (by kernel_rfl)) ?_
  intro W base args ds gs before hval0 hW hcnd _
  have hval : ∀ (j : Nat) t v, Try.f5.params[j]? = some t → args[j]? = some v → Value.okWide Try.prog W .any base t v := hval0
  have hW' := hW
  obtain ⟨p, q, hA0, hV, rfl, hfz, hnd⟩ := hW
  have hA : DataW.TrodAll enc Try.prog W 0 (fun _ => true) true Try.f5.params.toList args.toList ds p := hA0
  rw [Try.params5] at hA hval
  obtain ⟨v0, vs0, d0, ds0, p0, q0, hargs, rfl, rfl, h0, r0⟩ := trodAll_cons hA
  obtain ⟨v1, vs1, d1, ds1, p1, q1, rfl, rfl, rfl, h1, r1⟩ := trodAll_cons r0
  obtain ⟨rfl, rfl, rfl⟩ := trodAll_nil r1
  obtain rfl : args = #[v0, v1] := by cases args; simp_all
  obtain ⟨rfl, rfl⟩ := trodVars_none hV
  obtain ⟨a0, rfl, rfl, rfl, w0⟩ := open_int Try.underlying3 (hval 0 3 v0 rfl rfl) h0
  obtain ⟨a1, rfl, rfl, rfl, w1⟩ := open_int Try.underlying3 (hval 1 3 v1 rfl rfl) h1
  clear hA0 hval0
  refine (walk a0 a1 W w0 w1).mono fun e W' ⟨he, bel⟩ => ?_
  subst he
  exact ⟨_, rfl, _, _, _, [], _, [], hW', trodAll_mk1 (shut_bool Try.underlying4 _), (trodAll_cons_mk (shut_int Try.underlying3 w0) (trodAll_cons_mk (shut_int Try.underlying3 w1) trodAll_mk0)), rfl, bel.frame _, fun h => by cases h⟩
theorem over : Rows.detectEvenRow.holds Try.pinned (OpenSpec.ofChange Rows.detectEvenSpec) :=
  OpenClaim.holds_of_wide 5 Try.f5 rfl rfl rfl rfl rfl rfl rfl ⟨rfl, rfl, rfl, rfl, rfl⟩ rfl rfl rfl rfl rfl (by kernel_rfl) Try.func5 (by kernel_rfl)
    (of_decide_eq_true (by kernel_rfl)) (by unfold Func.isWrapper; first | (rw [if_pos (by decide +kernel)]; kernel_rfl) | (rw [if_neg (by decide +kernel)]; exact ⟨rfl, rfl⟩))
    (fun os started H enc _ => lifted os started H enc)
/-- THE STATEMENT -/
theorem proved : Rows.DetectEvenSaid := over
end Go.Proofs.Ytdflajgglgbphaa.lawDetectEven
#print axioms Go.Proofs.Ytdflajgglgbphaa.lawDetectEven.proved

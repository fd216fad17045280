/-
  THE STATEMENT 'Rows.DetectShiftsSaid': nightjarlaw14.DetectShifts returns true for every input, and its arguments read afterwards as they read before. No condition.
-/
import Derived.Test.YtdflajgglgbphaaDetSmall
import Derived.Test.YtdflajgglgbphaaRows
import Derived.ProofKit
import Derived.OpenShut
import Derived.ShutString
import Derived.ChangeOld
import Derived.Below
set_option linter.unusedVariables false
set_option linter.unusedSimpArgs false
namespace Go.Proofs.Ytdflajgglgbphaa.lawDetectShifts
open Go Go.RowKit Nj K

set_option maxRecDepth 100000 in
set_option maxHeartbeats 2000000 in
theorem walk (v : Value) (l : List Bt) (k : Int) (w : World) (hw : Bts w v l) (_ : (Lit.int .i64 k).wf = true) :
    Calls Try.prog 6 #[v, .int .i64 k] w fun e w' => e = .returned (.bool true) ∧ Below w.heap.size w w' := by
  have S0 := Lib.hid hw
  obtain ⟨hm, _, p, cap, rfl, hcap, _⟩ := hw
  cases hr : btRight l with
  | false =>
    have HR := Lib.hid hr
    clear hr
    go_enter Try.func6, Try.ntmps6
    go_big_wp2_with fail
    refine (small_at _).mono ?_; rintro e w1 ⟨rfl, B1⟩
    have S1 := bts_keep S0 B1
    have HC := Lib.hid (fun W (h : Bts W (.slice p l.length cap) l) => by have := dright_any _ _ W h; rw [HR.out] at this; exact this)
    go_upto_region 2 with fail
    refine wp_region_quiet_below (by kernel_rfl) (by kernel_rfl) ?_
    repeat (first | go_big_quiet_skip | (go_big_quiet_want; go_big_quiet_op; first | go_big_quiet_on | (apply Exists.intro; refine ⟨fun _ => ?_, ?_⟩; (focus ((first | (go_at_call 10; exact Calls.regrown_of (HC.out _ (S1.out.regrown (by decide) _ _)))))); go_big_quiet_on)))
    refine wpQuiet_nil ?_
    intro _ hw'
    obtain ⟨⟨dq, osq⟩, hw''⟩ := hw'
    subst hw''
    go_big_wp2_with fail
    go_ret
    exact ⟨rfl, chain B1.out (below_regrown _ _ _)⟩
  | true =>
    have HR := Lib.hid hr
    have HP := Lib.hid (right_pos hr)
    have h8 : l.length ≤ 8 := HP.out.2
    have h0 : 0 < l.length := HP.out.1
    clear hr hcap hm
    obtain ⟨b, o, rfl, _⟩ := S0.out.open h0
    obtain ⟨x, hx⟩ : ∃ x, x = l[0] := ⟨_, rfl⟩
    obtain ⟨y, hy⟩ : ∃ y, y = btLast l := ⟨_, rfl⟩
    have hy2 : y = l[l.length - 1] := by rw [hy]; exact last_get l h0
    have hxm := (may_iff _).1 (right_all HR.out 0 h0)
    have hym := right_last HR.out
    rw [← hx] at hxm
    rw [← hy] at hym
    obtain ⟨x0, x1, x2, x3⟩ := hxm
    obtain ⟨y0, y1, y2, y3⟩ := hym
    have HX := Lib.hid hx
    have HY := Lib.hid hy
    have HCC := Lib.hid (fun W (hW : Below w.heap.size w W) => (show W.cell? ⟨b, o, none⟩ = some (.int .i64 x.seq) ∧ W.cell? ⟨b, o + (l.length - 1) * 2, none⟩ = some (.int .i64 y.seq) from by
      have a := bts_at S0 hW 0 h0
      have c := bts_at S0 hW (l.length - 1) (by omega)
      rw [← hx] at a
      rw [← hy2] at c
      exact ⟨by simpa using a.1, c.1⟩))
    have HC := Lib.hid (fun W (h : Bts W (.slice (some ⟨b, o, none⟩) l.length cap) l) => by have := dright_any _ _ W h; rw [HR.out] at this; exact this)
    clear hx hy hy2
    have t1 : (1 : Int) ≤ (l.length : Int) := by omega
    have t2 : (0 : Int) < (l.length : Int) := by omega
    have t3 : (0 : Int) ≤ (l.length : Int) - 1 := by omega
    have t4 : (l.length : Int) - 1 < (l.length : Int) := by omega
    have t5 : ((l.length : Int) - 1).toNat = l.length - 1 := by omega
    have hw1 : IntKind.i64.wrap ((l.length : Int) - 1) = (l.length : Int) - 1 := IntWalk.i64_in _ (by omega)
    have hw2 : IntKind.i64.wrap (y.seq - x.seq) = y.seq - x.seq := IntWalk.i64_in _ (by omega)
    have e0 := dec_f (show ¬ x.seq < 0 by omega)
    by_cases hbad : k < 0 ∨ 1073741824 < k ∨ 1048576 < y.seq - x.seq
    · rcases (show k < 0 ∨ (¬ k < 0 ∧ 1073741824 < k) ∨ (¬ k < 0 ∧ ¬ 1073741824 < k ∧ 1048576 < y.seq - x.seq) by omega) with e1 | ⟨e1, e2⟩ | ⟨e1, e2, e3⟩
      all_goals clear hbad
      all_goals try (first | have d2 := dec_f e1 | have d2 := dec_t e1)
      all_goals try (first | have d3 := dec_f e2 | have d3 := dec_t e2)
      all_goals try (first | have d4 := dec_f e3 | have d4 := dec_t e3)
      all_goals
        go_enter Try.func6, Try.ntmps6
        go_big_wp2_with fail
        refine (small_at _).mono ?_; rintro e w1 ⟨rfl, B1⟩
        have S1 := bts_keep S0 B1
        have c0 := fun d os => (HCC.out _ (chain B1.out (below_regrown w1 d os))).1
        have c1 := fun d os => (HCC.out _ (chain B1.out (below_regrown w1 d os))).2
        go_upto_region 2 with fail
        refine wp_region_quiet_below (by kernel_rfl) (by kernel_rfl) ?_
        repeat (first | go_big_quiet_skip | (go_big_quiet_want; go_big_quiet_op; first | go_big_quiet_on | (apply Exists.intro; refine ⟨fun _ => ?_, ?_⟩; (focus ((first | (go_at_call 10; exact Calls.regrown_of (HC.out _ (S1.out.regrown (by decide) _ _)))))); go_big_quiet_on)))
        refine wpQuiet_nil ?_
        intro _ hw'
        obtain ⟨⟨dq, osq⟩, hw''⟩ := hw'
        subst hw''
        go_big_wp2_with fail
        go_ret
        exact ⟨rfl, chain B1.out (below_regrown _ _ _)⟩
    · obtain ⟨e1, e2, e3⟩ : ¬ k < 0 ∧ ¬ 1073741824 < k ∧ ¬ 1048576 < y.seq - x.seq := by omega
      have k0 : 0 ≤ k := by omega
      have k1 : k ≤ 1073741824 := by omega
      have HD := Lib.hid (show y.seq - x.seq ≤ 1048576 by omega)
      have d2 := dec_f e1
      have d3 := dec_f e2
      have d4 := dec_f e3
      clear hbad e3
      go_enter Try.func6, Try.ntmps6
      go_big_wp2_with fail
      refine (small_at _).mono ?_; rintro e w1 ⟨rfl, B1⟩
      have S1 := bts_keep S0 B1
      have c0 := fun d os => (HCC.out _ (chain B1.out (below_regrown w1 d os))).1
      have c1 := fun d os => (HCC.out _ (chain B1.out (below_regrown w1 d os))).2
      go_upto_region 2 with fail
      refine wp_region_quiet_below (by kernel_rfl) (by kernel_rfl) ?_
      repeat (first | go_big_quiet_skip | (go_big_quiet_want; go_big_quiet_op; first | go_big_quiet_on | (apply Exists.intro; refine ⟨fun _ => ?_, ?_⟩; (focus ((first | (go_at_call 10; exact Calls.regrown_of (HC.out _ (S1.out.regrown (by decide) _ _)))))); go_big_quiet_on)))
      refine wpQuiet_nil ?_
      intro _ hw'
      obtain ⟨⟨dq, osq⟩, hw''⟩ := hw'
      subst hw''
      have B02 := Lib.hid (chain B1.out (below_regrown w1 dq osq))
      clear c0 c1 hw1 hw2 d2 d3 d4 e0
      generalize Go.Sort.grow (redrawn w1 dq) osq = w2 at B02 ⊢
      go_big_wp2_with fail
      go_loopw [6, 7] (fun mv i wr => ∃ j : Nat, j ≤ l.length ∧ i = .int .i64 j ∧ (∀ b ∈ l.take j, b.at_ ≤ 1073741824) ∧ Own 30 2 w.heap.size wr mv j (flat Bt.cells ((btShift k l).take j)) ∧ Below w.heap.size w wr) (fun _ i _ => l.length - (intOf i).toNat)
      case atStart => exact ⟨0, by omega, rfl, by simp, own_nil _ _ _ _, B02.out⟩
      case round =>
        obtain ⟨j, hj, rfl, hat, hown, hwb⟩ := hrel
        have HA := Lib.hid hat
        have HO := Lib.hid hown
        have HW := Lib.hid hwb
        clear hat hown hwb
        by_cases hlt : j < l.length
        · obtain ⟨z, hz⟩ : ∃ z, z = l[j] := ⟨_, rfl⟩
          have HZ := Lib.hid hz
          obtain ⟨c0, c1⟩ := bts_at S0 HW.out j hlt
          rw [← hz] at c0 c1
          have hzm := (may_iff _).1 (right_all HR.out j hlt)
          rw [← hz] at hzm
          obtain ⟨z0, z1, z2, z3⟩ := hzm
          clear hz
          have t6 : (j : Int) < (l.length : Int) := by omega
          have t7 : (0 : Int) ≤ (j : Int) := by omega
          by_cases hbig : 1073741824 < z.at_
          · have d2 := dec_t hbig
            go_big_wp2_with fail
            go_ret
            exact ⟨rfl, HW.out⟩
          · have d2 := dec_f hbig
            go_upto_region 10 with fail
            have HBw := Lib.hid (show Below w.heap.size w (wr.alloc (.cells #[.int .i64 z.seq, .int .i64 (IntKind.i64.wrap (z.at_ + k))] 30)).drew from (HW.out.alloc HW.out.size _).drew)
            have hsz : w.heap.size ≤ wr.heap.size := HW.out.size
            go_region_held3 (fun w' => w'.cell? ⟨b, o + j * 2, none⟩ = some (.int .i64 z.seq) ∧ w'.cell? ⟨b, o + j * 2 + 1, none⟩ = some (.int .i64 z.at_)) (go_keep)
              ((first
                | (refine step_app rfl (.tmp 56) (.tmp 70) 22 rfl w.heap.size 30 (.agg #[.int .i64 0, .int .i64 0]) 2 16 Try.underlying22 (by kernel_rfl) rfl (by decide) w.heap.size w HBw (Nat.le_refl _) (Lib.hid (HO.out.alloc _)) rfl ⟨wr.heap.size, 0, none⟩ 1 1 rfl [.int .i64 z.seq, .int .i64 (IntKind.i64.wrap (z.at_ + k))] rfl (Lib.hid (news_new (w := (wr.alloc (.cells #[.int .i64 z.seq, .int .i64 (IntKind.i64.wrap (z.at_ + k))] 30)).drew) (heap_new wr _ _ rfl))) (by simp [Value.oneCell']) (by omega) (by omega) (by simp; omega) ?_; intro p4 cap4 w4 hc4 HO4 HB4 HK4; have hq4 := bts_at S0 HB4.out j hlt; rw [← HZ.out] at hq4; have hc4 := hq4.1; have hc5 := hq4.2)))
            have hwk : IntKind.i64.wrap (z.at_ + k) = z.at_ + k := IntWalk.i64_in _ (by omega)
            have HT := Lib.hid (show flat Bt.cells ((btShift k l).take (j + 1)) = flat Bt.cells ((btShift k l).take j) ++ [.int .i64 z.seq, .int .i64 (IntKind.i64.wrap (z.at_ + k))] by
              rw [hwk, List.take_add_one, flat_append, List.getElem?_eq_getElem (by simpa [btShift] using hlt)]
              simp [btShift, flat, Bt.cells, HZ.out])
            have HA2 := Lib.hid (show ∀ b ∈ l.take (j + 1), b.at_ ≤ 1073741824 by
              intro b hb
              rw [List.take_add_one, List.getElem?_eq_getElem hlt] at hb
              rcases List.mem_append.1 hb with h | h
              · exact HA.out b h
              · simp only [Option.toList_some, List.mem_singleton] at h
                rw [h, ← HZ.out]; omega)
            clear hwk hq4 hc4 hc5
            go_big_wp2_with fail
            go_roundw
            case rel => exact ⟨j + 1, by omega, by go_num, HA2.out, by rw [HT.out]; exact HO4.out, HB4.out⟩
            case measure => simp [intOf]; omega
        · have hke : j = l.length := by omega
          subst hke
          have t6 : decide ((l.length : Int) < (l.length : Int)) = false := by simp
          have hat : ∀ b ∈ l, b.at_ ≤ 1073741824 := by have := HA.out; rw [List.take_length] at this; exact this
          have hlen : (btShift k l).length = l.length := by simp [btShift]
          obtain ⟨p5, cap5, rfl, hc5⟩ := HO.out.shape
          have SM : Hid (Bts wr (.slice p5 l.length cap5) (btShift k l)) := Lib.hid (by
            have h := HO.out.sl
            rw [List.take_of_length_le (by omega)] at h
            unfold Bts; rw [hlen]; exact h)
          have RM := Lib.hid (shift_right k HR.out k0 k1 hat)
          obtain ⟨D, hD⟩ : ∃ D, D = btDeadline l := ⟨_, rfl⟩
          have hd2 := deadline_le HR.out
          rw [← hD] at hd2
          obtain ⟨_, g1, g2⟩ := hd2
          have HDs := Lib.hid (show btDeadline (btShift k l) = D + k by
            rw [hD]
            exact shift_deadline k HR.out k0 k1 hat (by rw [← HY.out, ← HX.out]; exact HD.out))
          have HDl := Lib.hid hD.symm
          clear hat hlen hD
          go_big_wp2_with fail
          refine (right_at _ _ _ _ SM.out RM.out).mono ?_; rintro e w3 ⟨rfl, B3⟩
          go_big_wp2_with fail
          refine (dl_at _ _ _ _ (bts_keep SM B3).out RM.out HDs.out).mono ?_; rintro e w4 ⟨rfl, B4⟩
          go_big_wp2_with fail
          refine (dl_at _ _ _ _ (S0.out.keep (by decide) (chain HW.out (chain B3.out B4.out))) HR.out HDl.out).mono ?_; rintro e w5 ⟨rfl, B5⟩
          go_big_wp2_with fail
          go_ret
          exact ⟨rfl, chain HW.out (chain B3.out (chain B4.out B5.out))⟩

end Go.Proofs.Ytdflajgglgbphaa.lawDetectShifts
namespace Go.Proofs.Ytdflajgglgbphaa.lawDetectShifts
open Go.ChangeShapes Go.WideShapes Go.RowKit
set_option linter.unusedVariables false
theorem own : ownKnob Try.prog.godebug = none := by kernel_rfl
theorem laidOut : laidOutB Try.prog = true := by kernel_rfl
set_option maxRecDepth 100000 in
theorem lifted (os : Os) (started : os.Started) (H : Type) (enc : TypeId × Value → H) :
    ReturnsInHanded {} Try.checked os 6 .any (Rows.detectShiftsSpec.pre6 enc Try.prog Try.f6 Rows.detectShiftsRow.domain false) (Rows.detectShiftsSpec.post enc Try.prog Try.f6 false true false false) := by
  refine returnsInHanded_of_change (C := Try.checked) own started (by kernel_rfl) Try.func6
    (ChangeSpec.witness6 (enc := enc) (C := Try.checked) false ⟨#[], #[.slice none 0 0, .int .i64 0], []⟩ 8 (by kernel_rfl) (by kernel_rfl) (by kernel_rfl) (by kernel_rfl)) ?_
  intro W base args ds gs before hval0 hW hcnd _
  have hval : ∀ (j : Nat) t v, Try.f6.params[j]? = some t → args[j]? = some v → Value.okWide Try.prog W .any base t v := hval0
  have hW' := hW
  obtain ⟨p, q, hA0, hV, rfl, hfz, hnd⟩ := hW
  have hA : DataW.TrodAll enc Try.prog W 0 (fun _ => true) true Try.f6.params.toList args.toList ds p := hA0
  rw [Try.params6] at hA hval
  obtain ⟨v0, vs0, d0, ds0, p0, q0, hargs, rfl, rfl, h0, r0⟩ := trodAll_cons hA
  obtain ⟨v1, vs1, d1, ds1, p1, q1, rfl, rfl, rfl, h1, r1⟩ := trodAll_cons r0
  obtain ⟨rfl, rfl, rfl⟩ := trodAll_nil r1
  obtain rfl : args = #[v0, v1] := by cases args; simp_all
  obtain ⟨rfl, rfl⟩ := trodVars_none hV
  obtain ⟨a0, len0, cap0, rfl⟩ := okWide_slice Try.underlying22 (hval 0 22 v0 rfl rfl)
  have k0 := h0
  have lt0 : ∀ x ∈ p0, x.block < W.heap.size := by obtain ⟨m, hm⟩ := k0; exact DataW.trod_lt m _ _ _ hm
  obtain ⟨z0, _, w0, y0⟩ : ∃ l : List Nj.Bt, l.length = len0 ∧ Nj.Bts W (.slice a0 len0 cap0) l ∧ ∀ b ∈ l, (Lit.int .i64 b.seq).wf = true ∧ (Lit.int .i64 b.at_).wf = true := by
    obtain ⟨fuel, hf⟩ := h0
    exact K.open_bts hf
  obtain ⟨a1, rfl, rfl, rfl, w1⟩ := open_int Try.underlying3 (hval 1 3 v1 rfl rfl) h1
  clear hA0 hval0
  refine (walk _ z0 a1 W w0 w1).mono fun e W' ⟨he, bel⟩ => ?_
  subst he
  exact ⟨_, rfl, _, _, _, [], _, [], hW', trodAll_mk1 (shut_bool Try.underlying4 _), (trodAll_cons_mk (Below.trod laidOut (by kernel_rfl) (of_decide_eq_true (by kernel_rfl)) k0 bel lt0) (trodAll_cons_mk (shut_int Try.underlying3 w1) trodAll_mk0)), rfl, bel.frame _, fun h => by cases h⟩
theorem over : Rows.detectShiftsRow.holds Try.pinned (OpenSpec.ofChange Rows.detectShiftsSpec) :=
  OpenClaim.holds_of_wide 6 Try.f6 rfl rfl rfl rfl rfl rfl rfl ⟨rfl, rfl, rfl, rfl, rfl⟩ rfl rfl rfl rfl rfl (by kernel_rfl) Try.func6 (by kernel_rfl)
    (of_decide_eq_true (by kernel_rfl)) (by unfold Func.isWrapper; first | (rw [if_pos (by decide +kernel)]; kernel_rfl) | (rw [if_neg (by decide +kernel)]; exact ⟨rfl, rfl⟩))
    (fun os started H enc _ => lifted os started H enc)
/-- THE STATEMENT -/
theorem proved : Rows.DetectShiftsSaid := over
end Go.Proofs.Ytdflajgglgbphaa.lawDetectShifts
#print axioms Go.Proofs.Ytdflajgglgbphaa.lawDetectShifts.proved

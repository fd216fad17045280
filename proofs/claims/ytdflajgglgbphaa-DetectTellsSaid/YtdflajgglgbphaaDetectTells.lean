/-
  THE STATEMENT 'Rows.DetectTellsSaid': nightjarlaw14.DetectTells returns true for every input, and its arguments read afterwards as they read before. No condition.
-/
import Derived.Test.YtdflajgglgbphaaDetSmall
import Derived.Test.YtdflajgglgbphaaRows
import Derived.ProofKit
import Derived.OpenShut
import Derived.ShutString
import Derived.ChangeOld
import Derived.Below
set_option linter.unusedVariables false
set_option linter.unusedSimpArgs false
namespace Go.Proofs.Ytdflajgglgbphaa.lawDetectTells
open Go Go.RowKit Nj K

set_option maxRecDepth 100000 in
set_option maxHeartbeats 4000000 in
theorem walk (v : Value) (l : List Bt) (v' : Value) (more : List Bt) (now : Int) (w : World) (hw : Bts w v l) (hw' : Bts w v' more) (_ : (Lit.int .i64 now).wf = true) :
    Calls Try.prog 3 #[v, v', .int .i64 now] w fun e w' => e = .returned (.bool true) ∧ Below w.heap.size w w' := by
  have S0 := Lib.hid hw
  have M0 := Lib.hid hw'
  obtain ⟨p, cap, rfl, hcap⟩ := bts_shape hw
  obtain ⟨p', cap', rfl, hcap'⟩ := bts_shape hw'
  clear hw hw'
  by_cases hout : 50 < l.length ∨ 100 < more.length
  · rcases (show 50 < l.length ∨ (¬ 50 < l.length ∧ 100 < more.length) by omega) with h1 | ⟨h1, h2⟩
    · have d1 := dec_t (show (50 : Int) < (l.length : Int) by omega)
      go_enter Try.func3, Try.ntmps3
      go_big_wp2_with fail
      refine (small_at _).mono ?_; rintro e w1 ⟨rfl, B1⟩
      go_big_wp2_with fail
      go_ret
      exact ⟨rfl, B1.out⟩
    · have d1 := dec_f (show ¬ (50 : Int) < (l.length : Int) by omega)
      have d2 := dec_t (show (100 : Int) < (more.length : Int) by omega)
      go_enter Try.func3, Try.ntmps3
      go_big_wp2_with fail
      refine (small_at _).mono ?_; rintro e w1 ⟨rfl, B1⟩
      go_big_wp2_with fail
      go_ret
      exact ⟨rfl, B1.out⟩
  have d1 := dec_f (show ¬ (50 : Int) < (l.length : Int) by omega)
  have d2 := dec_f (show ¬ (100 : Int) < (more.length : Int) by omega)
  have h100 : more.length ≤ 100 := by omega
  clear hout
  obtain ⟨r, hr⟩ : ∃ r, btRight l = r := ⟨_, rfl⟩
  have HR := Lib.hid hr
  clear hr
  obtain ⟨N, hN⟩ : ∃ N, N = more.length := ⟨_, rfl⟩
  rw [← hN] at M0 d2 h100 hcap' ⊢
  have HN := Lib.hid hN
  clear hN
  have t0 : (r != r) = false := by simp
  go_enter Try.func3, Try.ntmps3
  go_big_wp2_with fail
  refine (small_at _).mono ?_; rintro e w1 ⟨rfl, B1⟩
  have S1 := bts_keep S0 B1
  go_big_wp2_with fail
  refine (right_at _ _ _ _ S1.out HR.out).mono ?_; rintro e w2 ⟨rfl, B2⟩
  have S2 := bts_keep S1 B2
  go_big_wp2_with fail
  refine (rright_at _ _ _ _ S2.out HR.out).mono ?_; rintro e w3 ⟨rfl, B3⟩
  have S3 := bts_keep S2 B3
  go_big_wp2_with fail
  refine (start_at _ _).mono ?_; rintro e w4 ⟨p4, cap4, rfl, T4, B4⟩
  have S4 := bts_keep S3 B4
  go_big_wp2_with fail
  refine (rstart_at _ _).mono ?_; rintro e w5 ⟨p5, cap5, rfl, U5, B5⟩
  have S5 := bts_keep S4 B5
  have T5 := bts_keep T4 B5
  go_big_wp2_with fail
  refine (same_at _ _ _ _ true _ T5.out U5.out (by simp)).mono ?_; rintro e w6 ⟨rfl, B6⟩
  have S6 := bts_keep S5 B6
  go_big_wp2_with fail
  refine (rright_at _ _ _ _ S6.out HR.out).mono ?_; rintro e w7 ⟨rfl, B7⟩
  have S7 := bts_keep S6 B7
  have B07 := Lib.hid (chain B1.out (chain B2.out (chain B3.out (chain B4.out (chain B5.out (chain B6.out B7.out))))))
  clear B1 B2 B3 B4 B5 B6 B7 S0 S1 S2 S3 S4 S5 S6 T4 T5 U5
  cases r with
  | false =>
    go_big_wp2_with fail
    go_ret
    exact ⟨rfl, B07.out⟩
  | true =>
    go_big_wp2_with fail
    go_loopw [8, 9] (fun lv i wr => ∃ (k : Nat) (L : List Bt), k ≤ N ∧ i = .int .i64 k ∧ Bts wr lv L ∧ btRight L = true ∧ Below w.heap.size w wr) (fun _ i _ => N - (intOf i).toNat)
    case atStart => exact ⟨0, l, by omega, rfl, S7.out, HR.out, B07.out⟩
    case round =>
      obtain ⟨k, L, hk, rfl, hs, hLr, hwb⟩ := hrel
      have HW := Lib.hid hwb
      have HS := Lib.hid hs
      have HL := Lib.hid hLr
      have h0 : 0 < L.length := (right_pos hLr).1
      have h8 : L.length ≤ 8 := (right_pos hLr).2
      obtain ⟨p1, cap1, rfl, hcap1⟩ := bts_shape hs
      clear hs hwb hLr
      by_cases hlt : k < N
      · have hkm : k < more.length := by rw [← HN.out]; exact hlt
        obtain ⟨pb, po, rfl, _⟩ := M0.out.open (by omega)
        obtain ⟨lb, lo, rfl, _⟩ := HS.out.open h0
        obtain ⟨x, hx⟩ : ∃ x, x = more[k] := ⟨_, rfl⟩
        have HX := Lib.hid hx
        have t2 : (k : Int) < (N : Int) := by omega
        have t3 : (0 : Int) ≤ (k : Int) := by omega
        clear hx
        obtain ⟨L', ok, hbe⟩ : ∃ L' ok, btBeat L x.seq x.at_ = (L', ok) := ⟨_, _, rfl⟩
        have EB := Lib.hid hbe
        have RL := Lib.hid (show btRight L' = true by have := beat_right x.seq x.at_ HL.out; rw [hbe] at this; exact this)
        have hp' := right_pos RL.out
        have h0' : 0 < L'.length := hp'.1
        have h8' : L'.length ≤ 8 := hp'.2
        clear hbe hp'
        obtain ⟨D, hD⟩ : ∃ D, btDeadline L' = D := ⟨_, rfl⟩
        have HD := Lib.hid hD
        clear hD
        have HB0 := Lib.hid ((HW.out).alloc HW.out.size (.cells #[] 30))
        have HC := Lib.hid (Sl.news (by decide) (HS.out.keep (w' := wr.alloc (.cells #[] 30)) (by decide) ((Below.refl _ _).alloc (Nat.le_refl _) _)))
        go_upto_region 11 with (at_builtin; refine wpList_app rfl (.tmp 62) (.tmp 63) 22 rfl wr.heap.size 30 (.agg #[.int .i64 0, .int .i64 0]) 2 16 Try.underlying22 (by kernel_rfl) rfl (by decide) wr.heap.size wr (Lib.hid ((Below.refl _ _).alloc (Nat.le_refl _) _)) (Nat.le_refl _) (Lib.hid (own_empty _ _ _ _ _ rfl (Nat.le_refl _))) rfl ⟨lb, lo, none⟩ L.length cap1 rfl (flat Bt.cells L) (flat_length bt_two L) HC (cells_one L) (by omega) (by omega) (by simp) ?_; intro p6 cap6 w6 hc6 HO6 HB6 HK6; simp only [Nat.zero_add, List.nil_append] at HO6 hc6)
        have B06 := Lib.hid (chain HW.out HB6.out)
        have L6 : Hid (Bts w6 _ L) := Lib.hid (HS.out.keep (by decide) HB6.out)
        have W6 : Hid (Bts w6 _ L) := Lib.hid HO6.out.sl
        obtain ⟨c2, c3⟩ := bts_at M0 B06.out k hkm
        rw [← HX.out] at c2 c3
        have BW := Lib.hid (show Below w.heap.size w w6.drew from B06.out.drew)
        go_region_held3 (fun w' => w'.cell? ⟨pb, po + k * 2, none⟩ = some (.int .i64 x.seq) ∧ w'.cell? ⟨pb, po + k * 2 + 1, none⟩ = some (.int .i64 x.at_)) (go_keep)
          ((first
            | (go_at_call 15; refine (beat_at _ _ _ _ _ _ w6.drew (show Bts w6.drew _ _ from L6.out) h0 (by omega) EB.out).mono ?_; rintro e w7 ⟨p7, cap7, rfl, F7, B7⟩; have c4 := (bts_at M0 (chain BW.out B7.out) k hkm).1; have c5 := (bts_at M0 (chain BW.out B7.out) k hkm).2; rw [← HX.out] at c4 c5)))
        have B07' := Lib.hid (chain BW.out B7.out)
        have L7 : Hid (Bts w7 _ L) := Lib.hid ((show Bts w6.drew _ L from L6.out).keep (by decide) B7.out)
        have W7 : Hid (Bts w7 _ L) := Lib.hid ((show Bts w6.drew _ L from W6.out).keep (by decide) B7.out)
        have A7 : Hid (Bts w7 _ L') := Lib.hid F7.out.1
        clear c2 c3
        go_upto_region 12 with fail
        have BW2 := Lib.hid (show Below w.heap.size w w7.drew from B07'.out.drew)
        go_region_held3 (fun w' => w'.cell? ⟨pb, po + k * 2, none⟩ = some (.int .i64 x.seq) ∧ w'.cell? ⟨pb, po + k * 2 + 1, none⟩ = some (.int .i64 x.at_)) (go_keep)
          ((first
            | (go_at_call 16; refine (rbeat_at _ _ _ _ _ _ w7.drew (show Bts w7.drew _ _ from L7.out) HL.out EB.out).mono ?_; rintro e w8 ⟨p8, cap8, rfl, F8, B8⟩; have c6 := (bts_at M0 (chain BW2.out B8.out) k hkm).1; have c7 := (bts_at M0 (chain BW2.out B8.out) k hkm).2; rw [← HX.out] at c6 c7)))
        have B08 := Lib.hid (chain BW2.out B8.out)
        have B78 := Lib.hid (show Below w7.heap.size w7 w8 from chain (Below.refl w7.heap.size w7).drew B8.out)
        have L8 := bts_keep L7 B78
        have W8 := bts_keep W7 B78
        have A8 := bts_keep A7 B78
        have R8 : Hid (Bts w8 _ L') := Lib.hid F8.out.1
        clear c4 c5 c6 c7 L6 W6 L7 W7
        have t5 : (ok != ok) = false := by simp
        have t6 : (D != D) = false := by simp
        go_big_wp2_with fail
        refine (same_at _ _ _ _ true _ A8.out R8.out (by simp)).mono ?_; rintro e w9 ⟨rfl, B9⟩
        go_big_wp2_with fail
        refine (same_at _ _ _ _ true _ (bts_keep W8 B9).out (bts_keep L8 B9).out (by simp)).mono ?_; rintro e w10 ⟨rfl, B10⟩
        go_big_wp2_with fail
        have B810 := Lib.hid (chain B9.out B10.out)
        refine (dl_at _ _ _ _ (bts_keep A8 B810).out RL.out HD.out).mono ?_; rintro e w11 ⟨rfl, B11⟩
        go_big_wp2_with fail
        have B811 := Lib.hid (chain B810.out B11.out)
        refine (rdl_at _ _ _ _ (bts_keep R8 B811).out RL.out HD.out).mono ?_; rintro e w12 ⟨rfl, B12⟩
        have B812 := Lib.hid (chain B811.out B12.out)
        have B712 := Lib.hid (chain B78.out B812.out)
        have A12 := bts_keep A8 B812
        obtain ⟨ab, ao, rfl, _⟩ := A12.out.open h0'
        have HF := Lib.hid (show w.heap.size ≤ ab ∧ ab < w12.heap.size ∧ ∀ i, w12.frozen? ⟨ab, i, none⟩ = false from by
          have h1 := F7.out.2 ab ao _ _ rfl
          obtain ⟨b', o', e, hd⟩ := A7.out.open h0'
          cases e
          have hlt : ab < w7.heap.size := cell_lt (a := ⟨ab, ao + 0, none⟩) (hd 0 (by rw [flat_length bt_two]; omega))
          refine ⟨Nat.le_trans BW.out.size h1.1, Nat.lt_of_lt_of_le hlt B712.out.size, fun i => ?_⟩
          rw [B712.out.frozen (p := ⟨ab, i, none⟩) hlt]
          exact h1.2 i)
        have HC2 := Lib.hid (Sl.news (by decide) (A12.out.keep (w' := w12.alloc (.cells #[] 30)) (by decide) ((Below.refl _ _).alloc (Nat.le_refl _) _)))
        go_big_wp2_with (at_builtin; refine wpList_app rfl (.tmp 117) (.tmp 118) 22 rfl w12.heap.size 30 (.agg #[.int .i64 0, .int .i64 0]) 2 16 Try.underlying22 (by kernel_rfl) rfl (by decide) w12.heap.size w12 (Lib.hid ((Below.refl _ _).alloc (Nat.le_refl _) _)) (Nat.le_refl _) (Lib.hid (own_empty _ _ _ _ _ rfl (Nat.le_refl _))) rfl ⟨ab, ao, none⟩ L'.length cap7 rfl (flat Bt.cells L') (flat_length bt_two L') HC2 (cells_one L') (by omega) (by omega) (by simp) ?_; intro p13 cap13 w13 hc13 HO13 HB13 HK13; simp only [Nat.zero_add, List.nil_append] at HO13 hc13)
        have A13 : Hid (Bts w13 _ L') := Lib.hid (A12.out.keep (by decide) HB13.out)
        have B012 := Lib.hid (chain BW2.out (chain B8.out B812.out))
        have B013 := Lib.hid (chain B012.out HB13.out)
        have HF13 := Lib.hid (show ∀ i, w13.frozen? ⟨ab, i, none⟩ = false from fun i => by
          rw [HB13.out.frozen (p := ⟨ab, i, none⟩) HF.out.2.1]; exact HF.out.2.2 i)
        have HA13 := Lib.hid (show ∀ t, t < L'.length * 2 → ∃ u, w13.cell? ⟨ab, ao + t, none⟩ = some u from fun t ht => by
          obtain ⟨b', o', e, hd⟩ := A13.out.open h0'
          cases e
          exact ⟨_, hd t (by rw [flat_length bt_two]; omega)⟩)
        clear hc13 HC2 HK13
        go_loopw [15] (fun i wi => ∃ j : Nat, j ≤ L'.length ∧ i = .int .i64 j ∧ (∀ t, t < L'.length * 2 → ∃ u, wi.cell? ⟨ab, ao + t, none⟩ = some u) ∧ (∀ t, wi.frozen? ⟨ab, t, none⟩ = false) ∧ Own 30 2 w12.heap.size wi (.slice p13 L'.length cap13) L'.length (flat Bt.cells L') ∧ Below w.heap.size w wi) (fun i _ => L'.length - (intOf i).toNat)
        case atStart => exact ⟨0, by omega, rfl, HA13.out, HF13.out, HO13.out, B013.out⟩
        case round =>
          obtain ⟨j, hj, rfl, hcell, hfr, hown, hwb'⟩ := hrel
          have HCl := Lib.hid hcell
          have HFr := Lib.hid hfr
          have HOw := Lib.hid hown
          have HWb := Lib.hid hwb'
          clear hcell hfr hown hwb'
          by_cases hj2 : j < L'.length
          · obtain ⟨u, hu⟩ := HCl.out (j * 2 + 1) (by omega)
            have cu : wr.cell? ⟨ab, ao + j * 2 + 1, none⟩ = some u := hu
            have fu := HFr.out (ao + j * 2 + 1)
            have t7 : (j : Int) < (L'.length : Int) := by omega
            have t8 : (0 : Int) ≤ (j : Int) := by omega
            clear hu
            go_big_wp2_with fail
            go_roundw
            case rel =>
              refine ⟨j + 1, by omega, by go_num, fun t ht => set_cell _ _ _ _ _ _ (HCl.out t ht), fun t => ?_, HOw.out.set _ _ HF.out.2.1, HWb.out.setCell HF.out.1 _⟩
              rw [set_frozen]; exact HFr.out t
            case measure => simp [intOf]; omega
          · have t7 := dec_f (show ¬ (j : Int) < (L'.length : Int) by omega)
            have HS' : Hid (Bts wr (.slice p13 L'.length cap13) L') := Lib.hid HOw.out.sl
            go_big_wp2_with fail
            go_roundw
            case rel => exact ⟨k + 1, L', by omega, by go_num, HS'.out, RL.out, HWb.out⟩
            case measure => simp [intOf]; omega
      · have t2 := dec_f (show ¬ (k : Int) < (N : Int) by omega)
        have t6 : (btDeadline L == btDeadline L) = true := by simp
        go_big_wp2_with fail
        refine (dl_at _ _ _ _ HS.out HL.out rfl).mono ?_; rintro e w8 ⟨rfl, B8⟩
        go_big_wp2_with fail
        refine (rdl_at _ _ _ _ (bts_keep HS B8).out HL.out rfl).mono ?_; rintro e w9 ⟨rfl, B9⟩
        go_big_wp2_with fail
        go_ret
        exact ⟨rfl, chain HW.out (chain B8.out B9.out)⟩

end Go.Proofs.Ytdflajgglgbphaa.lawDetectTells
namespace Go.Proofs.Ytdflajgglgbphaa.lawDetectTells
open Go.ChangeShapes Go.WideShapes Go.RowKit
set_option linter.unusedVariables false
theorem own : ownKnob Try.prog.godebug = none := by kernel_rfl
theorem laidOut : laidOutB Try.prog = true := by kernel_rfl
set_option maxRecDepth 100000 in
theorem lifted (os : Os) (started : os.Started) (H : Type) (enc : TypeId × Value → H) :
    ReturnsInHanded {} Try.checked os 3 .any (Rows.detectTellsSpec.pre6 enc Try.prog Try.f3 Rows.detectTellsRow.domain false) (Rows.detectTellsSpec.post enc Try.prog Try.f3 false true false false) := by
  refine returnsInHanded_of_change (C := Try.checked) own started (by kernel_rfl) Try.func3
    (ChangeSpec.witness6 (enc := enc) (C := Try.checked) false ⟨#[], #[.slice none 0 0, .slice none 0 0, .int .i64 0], []⟩ 8 (by kernel_rfl) (by kernel_rfl) (by kernel_rfl) (by kernel_rfl)) ?_
  intro W base args ds gs before hval0 hW hcnd _
  have hval : ∀ (j : Nat) t v, Try.f3.params[j]? = some t → args[j]? = some v → Value.okWide Try.prog W .any base t v := hval0
  have hW' := hW
  obtain ⟨p, q, hA0, hV, rfl, hfz, hnd⟩ := hW
  have hA : DataW.TrodAll enc Try.prog W 0 (fun _ => true) true Try.f3.params.toList args.toList ds p := hA0
  rw [Try.params3] at hA hval
  obtain ⟨v0, vs0, d0, ds0, p0, q0, hargs, rfl, rfl, h0, r0⟩ := trodAll_cons hA
  obtain ⟨v1, vs1, d1, ds1, p1, q1, rfl, rfl, rfl, h1, r1⟩ := trodAll_cons r0
  obtain ⟨v2, vs2, d2, ds2, p2, q2, rfl, rfl, rfl, h2, r2⟩ := trodAll_cons r1
  obtain ⟨rfl, rfl, rfl⟩ := trodAll_nil r2
  obtain rfl : args = #[v0, v1, v2] := by cases args; simp_all
  obtain ⟨rfl, rfl⟩ := trodVars_none hV
  obtain ⟨a0, len0, cap0, rfl⟩ := okWide_slice Try.underlying22 (hval 0 22 v0 rfl rfl)
  have k0 := h0
  have lt0 : ∀ x ∈ p0, x.block < W.heap.size := by obtain ⟨m, hm⟩ := k0; exact DataW.trod_lt m _ _ _ hm
  obtain ⟨z0, _, w0, y0⟩ : ∃ l : List Nj.Bt, l.length = len0 ∧ Nj.Bts W (.slice a0 len0 cap0) l ∧ ∀ b ∈ l, (Lit.int .i64 b.seq).wf = true ∧ (Lit.int .i64 b.at_).wf = true := by
    obtain ⟨fuel, hf⟩ := h0
    exact K.open_bts hf
  obtain ⟨a1, len1, cap1, rfl⟩ := okWide_slice Try.underlying22 (hval 1 22 v1 rfl rfl)
  have k1 := h1
  have lt1 : ∀ x ∈ p1, x.block < W.heap.size := by obtain ⟨m, hm⟩ := k1; exact DataW.trod_lt m _ _ _ hm
  obtain ⟨z1, _, w1, y1⟩ : ∃ l : List Nj.Bt, l.length = len1 ∧ Nj.Bts W (.slice a1 len1 cap1) l ∧ ∀ b ∈ l, (Lit.int .i64 b.seq).wf = true ∧ (Lit.int .i64 b.at_).wf = true := by
    obtain ⟨fuel, hf⟩ := h1
    exact K.open_bts hf
  obtain ⟨a2, rfl, rfl, rfl, w2⟩ := open_int Try.underlying3 (hval 2 3 v2 rfl rfl) h2
  clear hA0 hval0
  refine (walk _ z0 _ z1 a2 W w0 w1 w2).mono fun e W' ⟨he, bel⟩ => ?_
  subst he
  exact ⟨_, rfl, _, _, _, [], _, [], hW', trodAll_mk1 (shut_bool Try.underlying4 _), (trodAll_cons_mk (Below.trod laidOut (by kernel_rfl) (of_decide_eq_true (by kernel_rfl)) k0 bel lt0) (trodAll_cons_mk (Below.trod laidOut (by kernel_rfl) (of_decide_eq_true (by kernel_rfl)) k1 bel lt1) (trodAll_cons_mk (shut_int Try.underlying3 w2) trodAll_mk0))), rfl, bel.frame _, fun h => by cases h⟩
theorem over : Rows.detectTellsRow.holds Try.pinned (OpenSpec.ofChange Rows.detectTellsSpec) :=
  OpenClaim.holds_of_wide 3 Try.f3 rfl rfl rfl rfl rfl rfl rfl ⟨rfl, rfl, rfl, rfl, rfl⟩ rfl rfl rfl rfl rfl (by kernel_rfl) Try.func3 (by kernel_rfl)
    (of_decide_eq_true (by kernel_rfl)) (by unfold Func.isWrapper; first | (rw [if_pos (by decide +kernel)]; kernel_rfl) | (rw [if_neg (by decide +kernel)]; exact ⟨rfl, rfl⟩))
    (fun os started H enc _ => lifted os started H enc)
/-- THE STATEMENT -/
theorem proved : Rows.DetectTellsSaid := over
end Go.Proofs.Ytdflajgglgbphaa.lawDetectTells
#print axioms Go.Proofs.Ytdflajgglgbphaa.lawDetectTells.proved

/-
  THE STATEMENT 'Rows.SendLostsSaid': nightjarlaw11.SendLosts returns true for every input, and its arguments read afterwards as they read before. No condition.
-/
import Derived.Test.YtmhfbngielihcaaSendRead
import Derived.Test.YtmhfbngielihcaaRows
import Derived.ProofKit
import Derived.OpenShut
import Derived.ShutString
import Derived.ChangeOld
import Derived.Below
set_option linter.unusedVariables false
set_option linter.unusedSimpArgs false
namespace Go.Proofs.Ytmhfbngielihcaa.lawSendLosts
open Go Go.RowKit Nj K

theorem lost_room {n c a : Int} {l : List Fl} (hc : 1 ≤ c) : sdRoom ⟨n, l, max (c / 2) 1, 0⟩ ≤ sdRoom ⟨n, l, c, a⟩ := by
  unfold sdRoom sdSpan; simp only; omega
theorem right_lost {n c a m : Int} {l : List Fl} (h : sdRight ⟨n, l, c, a⟩ = true) (h1 : 1 ≤ m) (h8 : m ≤ 8) : sdRight ⟨n, l, m, 0⟩ = true := by
  simp only [sdRight, sdEnds, Bool.and_eq_true, decide_eq_true_eq] at h ⊢
  exact ⟨h.1, h.2.1, h.2.2.1, h1, h8, by omega, by omega, h.2.2.2.2.2.2.2⟩

set_option maxRecDepth 100000 in
set_option maxHeartbeats 2000000 in
theorem walk (n : Int) (v : Value) (c a : Int) (l : List Fl) (w : World) (h : Fls w v l) (wn : (Lit.int .i64 n).wf = true) :
    Calls Try.prog 10 #[.agg #[.int .i64 n, v, .int .i64 c, .int .i64 a]] w fun e w' => e = .returned (.bool true) ∧ Below w.heap.size w w' := by
  have FS := Lib.hid h
  obtain ⟨hn0, hn1⟩ := wf_i64 wn
  obtain ⟨p, cap, rfl, hcap⟩ := fls_shape h
  clear h wn
  cases hr : sdRight ⟨n, l, c, a⟩ with
  | false =>
    have HR := Lib.hid hr
    clear hr
    go_enter Try.func10, Try.ntmps10
    go_upto_region 1 with fail
    refine gen_wp (fun w1 => Hid (w1.heap[w.heap.size]? = some (.cells #[.int .i64 n, .slice p l.length cap, .int .i64 c, .int .i64 a] 24)) ∧ Hid (Below w.heap.size w w1) ∧ True) ⟨Lib.hid (by first | (simp [World.setCell, Array.getElem?_modify]; done) | (simp [World.setCell, Array.getElem?_modify]; omega) | ((repeat (first | (with_reducible exact heap_new _ _ _ (by first | rfl | (simp; done))) | (with_reducible refine keepa ?_ _) | (simp [World.setCell, Array.getElem?_modify]; done))); done)), Lib.hid (by repeat (first | (with_reducible exact Below.refl _ _) | (with_reducible refine bel_set (by first | omega | (simp; done) | (simp; omega)) ?_) | (with_reducible refine bel_alloc (by first | omega | (simp; done) | (simp; omega)) ?_) | (with_reducible refine bel_drew ?_) | (with_reducible refine bel_drewN ?_ _))), trivial⟩ ?_
    rintro w1 ⟨A1, BA, -⟩
    have c_A1 := cell_of_block A1.out
    have f_A1 := frozen_of_block A1.out
    replace FS := fls_keep FS BA
    go_wp2_with fail
    refine (small11_any _).mono ?_; rintro e w2 ⟨rfl, B2⟩
    replace A1 := Lib.hid (keepb A1.out B2.out)
    replace c_A1 := cell_of_block A1.out
    replace f_A1 := frozen_of_block A1.out
    replace FS := fls_keep FS B2
    go_wp2_with fail
    refine (sright_at _ _ _ _ _ _ _ FS.out hn1 HR.out).mono ?_; rintro e w3 ⟨rfl, B3⟩
    go_wp2_with fail
    go_ret
    exact ⟨rfl, chain BA.out (chain B2.out B3.out)⟩
  | true =>
    have HR := Lib.hid hr
    have HP := Lib.hid (rightSd hr)
    clear hr
    have hc0 : 1 ≤ c := HP.out.c0
    have hc1 : c ≤ 8 := HP.out.c1
    have hl8 : l.length ≤ 8 := HP.out.len
    obtain ⟨m, hm⟩ : ∃ m, m = max (c / 2) 1 := ⟨_, rfl⟩
    have HM := Lib.hid hm
    have hm1 : 1 ≤ m := by omega
    have hm4 : m ≤ 4 := by omega
    have R1 := Lib.hid (right_lost HR.out hm1 (by omega))
    have HLE := Lib.hid (show sdRoom ⟨n, l, m, 0⟩ ≤ sdRoom ⟨n, l, c, a⟩ by rw [hm]; exact lost_room hc0)
    clear hm
    obtain ⟨r1, hr1⟩ : ∃ r, sdRoom ⟨n, l, m, 0⟩ = r := ⟨_, rfl⟩
    obtain ⟨r0, hr0⟩ : ∃ r, sdRoom ⟨n, l, c, a⟩ = r := ⟨_, rfl⟩
    have HR1 := Lib.hid hr1
    have HR0 := Lib.hid hr0
    have t9 := dec_t (show r1 ≤ r0 by rw [← hr1, ← hr0]; exact HLE.out)
    clear hr0 hr1
    have gmx := int_rule (show (if 1 < c / 2 then c / 2 else 1) = m by have := HM.out; omega)
    have g4 := Lib.hid (show max (max (max (m / 2) 1 / 2) 1 / 2) 1 = 1 by omega)
    go_enter Try.func10, Try.ntmps10
    go_upto_region 1 with fail
    refine gen_wp (fun w1 => Hid (w1.heap[w.heap.size]? = some (.cells #[.int .i64 n, .slice p l.length cap, .int .i64 c, .int .i64 a] 24)) ∧ Hid (Below w.heap.size w w1) ∧ True) ⟨Lib.hid (by first | (simp [World.setCell, Array.getElem?_modify]; done) | (simp [World.setCell, Array.getElem?_modify]; omega) | ((repeat (first | (with_reducible exact heap_new _ _ _ (by first | rfl | (simp; done))) | (with_reducible refine keepa ?_ _) | (simp [World.setCell, Array.getElem?_modify]; done))); done)), Lib.hid (by repeat (first | (with_reducible exact Below.refl _ _) | (with_reducible refine bel_set (by first | omega | (simp; done) | (simp; omega)) ?_) | (with_reducible refine bel_alloc (by first | omega | (simp; done) | (simp; omega)) ?_) | (with_reducible refine bel_drew ?_) | (with_reducible refine bel_drewN ?_ _))), trivial⟩ ?_
    rintro w1 ⟨A1, BA, -⟩
    have c_A1 := cell_of_block A1.out
    have f_A1 := frozen_of_block A1.out
    replace FS := fls_keep FS BA
    go_wp2_with fail
    refine (small11_any _).mono ?_; rintro e w2 ⟨rfl, B2⟩
    replace A1 := Lib.hid (keepb A1.out B2.out)
    replace c_A1 := cell_of_block A1.out
    replace f_A1 := frozen_of_block A1.out
    replace FS := fls_keep FS B2
    replace BA := Lib.hid (chain BA.out B2.out)
    go_wp2_with fail
    refine (sright_at _ _ _ _ _ _ _ FS.out hn1 HR.out).mono ?_; rintro e w3 ⟨rfl, B3⟩
    replace A1 := Lib.hid (keepb A1.out B3.out)
    replace c_A1 := cell_of_block A1.out
    replace f_A1 := frozen_of_block A1.out
    replace FS := fls_keep FS B3
    replace BA := Lib.hid (chain BA.out B3.out)
    go_wp2_with fail
    refine (slost_any n _ c a l _ FS.out (by omega) (by omega)).mono ?_; rintro e w4 ⟨p4, cap4, rfl, O4, B4⟩
    rw [← HM.out]
    replace A1 := Lib.hid (keepb A1.out B4.out)
    replace c_A1 := cell_of_block A1.out
    replace f_A1 := frozen_of_block A1.out
    replace FS := fls_keep FS B4
    replace BA := Lib.hid (chain BA.out B4.out)
    have FT : Hid (Fls w4 (.slice p4 l.length cap4) l) := Lib.hid O4.out.sl
    go_upto_region 5 with fail
    refine gen_wp (fun w5 => Hid (Below w4.heap.size w4 w5) ∧ Hid (w5.heap[w4.heap.size]? = some (.cells #[.int .i64 n, .slice p4 l.length cap4, .int .i64 m, .int .i64 0] 24)) ∧ True) ⟨Lib.hid (by repeat (first | (with_reducible exact Below.refl _ _) | (with_reducible refine bel_set (by first | omega | (simp; done) | (simp; omega)) ?_) | (with_reducible refine bel_alloc (by first | omega | (simp; done) | (simp; omega)) ?_) | (with_reducible refine bel_drew ?_) | (with_reducible refine bel_drewN ?_ _))), Lib.hid (by first | (simp [World.setCell, Array.getElem?_modify, A1.out]; done) | (simp [World.setCell, Array.getElem?_modify, A1.out]; omega) | ((repeat (first | (with_reducible exact A1.out) | (with_reducible exact heap_new _ _ _ (by first | rfl | (simp; done))) | (with_reducible refine keepa ?_ _) | (simp [World.setCell, Array.getElem?_modify, A1.out]; done))); done)), trivial⟩ ?_
    clear c_A1 f_A1
    rintro w5 ⟨N, A4, -⟩
    have c_A4 := cell_of_block A4.out
    have f_A4 := frozen_of_block A4.out
    replace A1 := Lib.hid (keepb A1.out N.out)
    replace c_A1 := cell_of_block A1.out
    replace f_A1 := frozen_of_block A1.out
    replace FS := fls_keep FS N
    replace FT := fls_keep FT N
    replace BA := Lib.hid (chain BA.out N.out)
    clear N B2 B3 B4 O4
    go_wp2_with fail
    refine (slost_any n _ m 0 l _ FT.out (by omega) (by omega)).mono ?_; rintro e w6 ⟨p6, cap6, rfl, O6, B6⟩
    replace A1 := Lib.hid (keepb A1.out B6.out)
    replace c_A1 := cell_of_block A1.out
    replace f_A1 := frozen_of_block A1.out
    replace A4 := Lib.hid (keepb A4.out B6.out)
    replace c_A4 := cell_of_block A4.out
    replace f_A4 := frozen_of_block A4.out
    replace FS := fls_keep FS B6
    replace FT := fls_keep FT B6
    replace BA := Lib.hid (chain BA.out B6.out)
    go_wp2_with fail
    refine (slost_any n _ _ 0 l _ O6.out.sl (by omega) (by omega)).mono ?_; rintro e w7 ⟨p7, cap7, rfl, O7, B7⟩
    replace A1 := Lib.hid (keepb A1.out B7.out)
    replace c_A1 := cell_of_block A1.out
    replace f_A1 := frozen_of_block A1.out
    replace A4 := Lib.hid (keepb A4.out B7.out)
    replace c_A4 := cell_of_block A4.out
    replace f_A4 := frozen_of_block A4.out
    replace FS := fls_keep FS B7
    replace FT := fls_keep FT B7
    replace BA := Lib.hid (chain BA.out B7.out)
    go_wp2_with fail
    refine (slost_any n _ _ 0 l _ O7.out.sl (by omega) (by omega)).mono ?_; rintro e w8 ⟨p8, cap8, rfl, O8, B8⟩
    rw [g4.out]
    replace A1 := Lib.hid (keepb A1.out B8.out)
    replace c_A1 := cell_of_block A1.out
    replace f_A1 := frozen_of_block A1.out
    replace A4 := Lib.hid (keepb A4.out B8.out)
    replace c_A4 := cell_of_block A4.out
    replace f_A4 := frozen_of_block A4.out
    replace FS := fls_keep FS B8
    replace FT := fls_keep FT B8
    replace BA := Lib.hid (chain BA.out B8.out)
    clear B6 B7 B8 O6 O7 O8
    go_upto_region 6 with fail
    refine gen_wp (fun w9 => Hid (Below w8.heap.size w8 w9) ∧ Hid (w9.heap[w8.heap.size]? = some (.cells #[.int .i64 n, .slice p8 l.length cap8, .int .i64 1, .int .i64 0] 24)) ∧ True) ⟨Lib.hid (by repeat (first | (with_reducible exact Below.refl _ _) | (with_reducible refine bel_set (by first | omega | (simp; done) | (simp; omega)) ?_) | (with_reducible refine bel_alloc (by first | omega | (simp; done) | (simp; omega)) ?_) | (with_reducible refine bel_drew ?_) | (with_reducible refine bel_drewN ?_ _))), Lib.hid (by first | (simp [World.setCell, Array.getElem?_modify, A1.out, A4.out]; done) | (simp [World.setCell, Array.getElem?_modify, A1.out, A4.out]; omega) | ((repeat (first | (with_reducible exact A1.out) | (with_reducible exact A4.out) | (with_reducible exact heap_new _ _ _ (by first | rfl | (simp; done))) | (with_reducible refine keepa ?_ _) | (simp [World.setCell, Array.getElem?_modify, A1.out, A4.out]; done))); done)), trivial⟩ ?_
    clear c_A1 f_A1 c_A4 f_A4
    rintro w9 ⟨N, A5, -⟩
    have c_A5 := cell_of_block A5.out
    have f_A5 := frozen_of_block A5.out
    have A1w := Lib.hid (keepb A1.out N.out)
    have c_A1w := cell_of_block A1w.out
    have f_A1w := frozen_of_block A1w.out
    go_upto_region 7 with fail
    refine gen_wp (fun wa => Hid (Below w8.heap.size w8 wa) ∧ Hid (wa.heap[w8.heap.size]? = some (.cells #[.int .i64 n, .slice p l.length cap, .int .i64 1, .int .i64 0] 24)) ∧ True) ⟨Lib.hid (by have hbsz := Below.size (N.out); repeat (first | (with_reducible exact N.out) | (with_reducible refine bel_set (by first | omega | (simp; done) | (simp; omega)) ?_) | (with_reducible refine bel_alloc (by first | omega | (simp; done) | (simp; omega)) ?_) | (with_reducible refine bel_drew ?_) | (with_reducible refine bel_drewN ?_ _))), Lib.hid (by first | (simp [World.setCell, Array.getElem?_modify, A1w.out, A5.out]; done) | (simp [World.setCell, Array.getElem?_modify, A1w.out, A5.out]; omega) | ((repeat (first | (with_reducible exact A1w.out) | (with_reducible exact A5.out) | (with_reducible exact heap_new _ _ _ (by first | rfl | (simp; done))) | (with_reducible refine keepa ?_ _) | (simp [World.setCell, Array.getElem?_modify, A1w.out, A5.out]; done))); done)), trivial⟩ ?_
    clear c_A1w f_A1w c_A5 f_A5
    rintro wa ⟨N, A5, -⟩
    have c_A5 := cell_of_block A5.out
    have f_A5 := frozen_of_block A5.out
    replace A1 := Lib.hid (keepb A1.out N.out)
    replace c_A1 := cell_of_block A1.out
    replace f_A1 := frozen_of_block A1.out
    replace A4 := Lib.hid (keepb A4.out N.out)
    replace c_A4 := cell_of_block A4.out
    replace f_A4 := frozen_of_block A4.out
    replace FS := fls_keep FS N
    replace FT := fls_keep FT N
    replace BA := Lib.hid (chain BA.out N.out)
    clear N
    have HC1 := Lib.hid (fun d os => reg_of (sroom_at n (.slice p4 l.length cap4) m 0 l r1 (Go.Sort.grow (redrawn wa d) os) (FT.out.regrown (by decide) d os) R1.out HR1.out))
    have HC2 := Lib.hid (fun d os => reg_of (sroom_at n (.slice p l.length cap) c a l r0 (Go.Sort.grow (redrawn wa d) os) (FS.out.regrown (by decide) d os) HR.out HR0.out))
    have HC3 := Lib.hid (fun d os => reg_of (ssame_at n (.slice p l.length cap) 1 0 l n (.slice p l.length cap) 1 0 l true (Go.Sort.grow (redrawn wa d) os) (FS.out.regrown (by decide) d os) (FS.out.regrown (by decide) d os) (by simp)))
    have r_A1 := fun d os => cell_of_block (keepb A1.out (below_regrown wa d os))
    have r_A4 := fun d os => cell_of_block (keepb A4.out (below_regrown wa d os))
    have r_A5 := fun d os => cell_of_block (keepb A5.out (below_regrown wa d os))
    refine wp_region_quiet_below (by kernel_rfl) (by kernel_rfl) ?_
    repeat (first | go_big_quiet_skip | (go_big_quiet_want; go_big_quiet_op; first | go_big_quiet_on | (apply Exists.intro; refine ⟨fun _ => ?_, ?_⟩; (focus ((first | (go_at_call 21; with_reducible exact HC3.out _ _) | (go_at_call 13; with_reducible exact HC1.out _ _) | (go_at_call 13; with_reducible exact HC2.out _ _)))); go_big_quiet_on)))
    refine wpQuiet_nil ?_
    intro _ hw'
    obtain ⟨⟨dq, osq⟩, hw''⟩ := hw'
    subst hw''
    go_wp2_with fail
    go_ret
    exact ⟨rfl, chain BA.out (below_regrown _ _ _)⟩

end Go.Proofs.Ytmhfbngielihcaa.lawSendLosts
namespace Go.Proofs.Ytmhfbngielihcaa.lawSendLosts
open Go.ChangeShapes Go.WideShapes Go.RowKit
set_option linter.unusedVariables false
theorem own : ownKnob Try.prog.godebug = none := by kernel_rfl
theorem laidOut : laidOutB Try.prog = true := by kernel_rfl
set_option maxRecDepth 100000 in
theorem lifted (os : Os) (started : os.Started) (H : Type) (enc : TypeId × Value → H) :
    ReturnsInHanded {} Try.checked os 10 .any (Rows.sendLostsSpec.pre6 enc Try.prog Try.f10 Rows.sendLostsRow.domain false) (Rows.sendLostsSpec.post enc Try.prog Try.f10 false true false false) := by
  refine returnsInHanded_of_change (C := Try.checked) own started (by kernel_rfl) Try.func10
    (ChangeSpec.witness6 (enc := enc) (C := Try.checked) false ⟨#[], #[.agg #[.int .i64 0, .slice none 0 0, .int .i64 0, .int .i64 0]], []⟩ 8 (by kernel_rfl) (by kernel_rfl) (by kernel_rfl) (by kernel_rfl)) ?_
  intro W base args ds gs before hval0 hW hcnd _
  have hval : ∀ (j : Nat) t v, Try.f10.params[j]? = some t → args[j]? = some v → Value.okWide Try.prog W .any base t v := hval0
  have hW' := hW
  obtain ⟨p, q, hA0, hV, rfl, hfz, hnd⟩ := hW
  have hA : DataW.TrodAll enc Try.prog W 0 (fun _ => true) true Try.f10.params.toList args.toList ds p := hA0
  rw [Try.params10] at hA hval
  obtain ⟨v0, vs0, d0, ds0, p0, q0, hargs, rfl, rfl, h0, r0⟩ := trodAll_cons hA
  obtain ⟨rfl, rfl, rfl⟩ := trodAll_nil r0
  obtain rfl : args = #[v0] := by cases args; simp_all
  obtain ⟨rfl, rfl⟩ := trodVars_none hV
  obtain ⟨n0, u0, c0, b0, z0, rfl, f0, w0, -, -⟩ := K.open_sd_arg (hval 0 24 v0 rfl rfl) h0
  have k0 := h0
  have lt0 : ∀ x ∈ p0, x.block < W.heap.size := by obtain ⟨m, hm⟩ := k0; exact DataW.trod_lt m _ _ _ hm
  clear hA0 hval0
  refine (walk n0 u0 c0 b0 z0 W f0 w0).mono fun e W' ⟨he, bel⟩ => ?_
  subst he
  exact ⟨_, rfl, _, _, _, [], _, [], hW', trodAll_mk1 (shut_bool Try.underlying4 _), (trodAll_cons_mk (Below.trod laidOut (by kernel_rfl) (of_decide_eq_true (by kernel_rfl)) k0 bel lt0) trodAll_mk0), rfl, bel.frame _, fun h => by cases h⟩
theorem over : Rows.sendLostsRow.holds Try.pinned (OpenSpec.ofChange Rows.sendLostsSpec) :=
  OpenClaim.holds_of_wide 10 Try.f10 rfl rfl rfl rfl rfl rfl rfl ⟨rfl, rfl, rfl, rfl, rfl⟩ rfl rfl rfl rfl rfl (by kernel_rfl) Try.func10 (by kernel_rfl)
    (of_decide_eq_true (by kernel_rfl)) (by unfold Func.isWrapper; first | (rw [if_pos (by decide +kernel)]; kernel_rfl) | (rw [if_neg (by decide +kernel)]; exact ⟨rfl, rfl⟩))
    (fun os started H enc _ => lifted os started H enc)
/-- THE STATEMENT -/
theorem proved : Rows.SendLostsSaid := over
end Go.Proofs.Ytmhfbngielihcaa.lawSendLosts
#print axioms Go.Proofs.Ytmhfbngielihcaa.lawSendLosts.proved

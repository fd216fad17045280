/-
  THE STATEMENT 'Rows.ChannelEndsSaid': nightjarlaw12.ChannelEnds returns true for every input, and its arguments read afterwards as they read before. No condition.
-/
import Derived.Test.YteilgibfmljoeaaChanRead
import Derived.Test.YteilgibfmljoeaaRows
import Derived.ProofKit
import Derived.OpenShut
import Derived.ShutString
import Derived.ChangeOld
import Derived.Below
set_option linter.unusedVariables false
set_option linter.unusedSimpArgs false
namespace Go.Proofs.Yteilgibfmljoeaa.lawChannelEnds
open Go Go.RowKit Nj K

theorem tick_none (n : Int) (g4 g2 : Int) (q : Rt) (later most : Int) : chTick ⟨⟨n, [], g4, g2⟩, q⟩ later most = (⟨⟨n, [], g4, g2⟩, q⟩, []) := by
  unfold chTick sdDue; simp
theorem room_none {n g4 g2 : Int} (hR : sdRight ⟨n, [], g4, g2⟩ = true) : sdRoom ⟨n, [], g4, g2⟩ = min g4 (1073741824 - n) := by
  have R := rightSd hR
  have := R.n1; have := R.c0; have := R.c1
  unfold sdRoom sdSpan; simp only [List.length_nil] at *; omega

set_option maxRecDepth 100000 in
set_option maxHeartbeats 4000000 in
theorem walk (n : Int) (v : Value) (c a : Int) (r : Rt) (l : List Fl) (now later : Int) (w : World) (h : Fls w v l) (wn : (Lit.int .i64 n).wf = true) (_ : (Lit.int .i64 now).wf = true) (_ : (Lit.int .i64 later).wf = true) :
    Calls Try.prog 3 #[.agg #[.int .i64 n, v, .int .i64 c, .int .i64 a, .int .i64 r.s, .int .i64 r.v, .int .i64 r.rto, .int .i64 r.fails, .bool r.has], .int .i64 now, .int .i64 later] w fun e w' => e = .returned (.bool true) ∧ Below w.heap.size w w' := by
  have FS := Lib.hid h
  obtain ⟨hn0, hn1⟩ := wf_i64 wn
  obtain ⟨p, cap, rfl, hcap⟩ := fls_shape h
  clear h wn
  cases hr : chRight ⟨⟨n, l, c, a⟩, r⟩ with
  | false =>
    have HR := Lib.hid hr
    clear hr
    go_enter Try.func3, Try.ntmps3
    go_upto_region 1 with fail
    refine gen_wp (fun w1 => Hid (w1.heap[w.heap.size]? = some (.cells #[.int .i64 n, .slice p l.length cap, .int .i64 c, .int .i64 a, .int .i64 r.s, .int .i64 r.v, .int .i64 r.rto, .int .i64 r.fails, .bool r.has] 28)) ∧ Hid (Below w.heap.size w w1) ∧ True) ⟨Lib.hid (by first | (simp [World.setCell, Array.getElem?_modify]; done) | (simp [World.setCell, Array.getElem?_modify]; omega) | ((repeat (first | (with_reducible exact heap_new _ _ _ (by first | rfl | (simp; done))) | (with_reducible refine keepa ?_ _) | (simp [World.setCell, Array.getElem?_modify]; done))); done)), Lib.hid (by repeat (first | (with_reducible exact Below.refl _ _) | (with_reducible refine bel_set (by first | omega | (simp; done) | (simp; omega)) ?_) | (with_reducible refine bel_alloc (by first | omega | (simp; done) | (simp; omega)) ?_) | (with_reducible refine bel_drew ?_) | (with_reducible refine bel_drewN ?_ _))), trivial⟩ ?_
    rintro w1 ⟨A1, BA, -⟩
    have c_A1 := cell_of_block A1.out
    have f_A1 := frozen_of_block A1.out
    replace FS := fls_keep FS BA
    go_wp2_with fail
    refine (small12_any _).mono ?_; rintro e w2 ⟨rfl, B2⟩
    replace A1 := Lib.hid (keepb A1.out B2.out)
    replace c_A1 := cell_of_block A1.out
    replace f_A1 := frozen_of_block A1.out
    replace FS := fls_keep FS B2
    replace BA := Lib.hid (chain BA.out B2.out)
    go_wp2_with fail
    refine (cright_at n _ c a r l _ _ FS.out hn1 HR.out).mono ?_; rintro e w3 ⟨rfl, B3⟩
    replace A1 := Lib.hid (keepb A1.out B3.out)
    replace c_A1 := cell_of_block A1.out
    replace f_A1 := frozen_of_block A1.out
    replace FS := fls_keep FS B3
    replace BA := Lib.hid (chain BA.out B3.out)
    clear B2 B3
    go_wp2_with fail
    go_ret
    exact ⟨rfl, BA.out⟩
  | true =>
    have HR := Lib.hid hr
    have HRS := Lib.hid (chan_right hr)
    have HP := Lib.hid (rightSd (chan_right hr).1)
    clear hr
    have hl8 : l.length ≤ 8 := HP.out.len
    by_cases hbad : now < 0 ∨ 1099511627776 < now ∨ later < 0 ∨ 1099511627776 < later
    · have HBad := Lib.hid hbad
      clear hbad
      go_enter Try.func3, Try.ntmps3
      go_upto_region 1 with fail
      refine gen_wp (fun w1 => Hid (w1.heap[w.heap.size]? = some (.cells #[.int .i64 n, .slice p l.length cap, .int .i64 c, .int .i64 a, .int .i64 r.s, .int .i64 r.v, .int .i64 r.rto, .int .i64 r.fails, .bool r.has] 28)) ∧ Hid (Below w.heap.size w w1) ∧ True) ⟨Lib.hid (by first | (simp [World.setCell, Array.getElem?_modify]; done) | (simp [World.setCell, Array.getElem?_modify]; omega) | ((repeat (first | (with_reducible exact heap_new _ _ _ (by first | rfl | (simp; done))) | (with_reducible refine keepa ?_ _) | (simp [World.setCell, Array.getElem?_modify]; done))); done)), Lib.hid (by repeat (first | (with_reducible exact Below.refl _ _) | (with_reducible refine bel_set (by first | omega | (simp; done) | (simp; omega)) ?_) | (with_reducible refine bel_alloc (by first | omega | (simp; done) | (simp; omega)) ?_) | (with_reducible refine bel_drew ?_) | (with_reducible refine bel_drewN ?_ _))), trivial⟩ ?_
      rintro w1 ⟨A1, BA, -⟩
      have c_A1 := cell_of_block A1.out
      have f_A1 := frozen_of_block A1.out
      replace FS := fls_keep FS BA
      go_wp2_with fail
      refine (small12_any _).mono ?_; rintro e w2 ⟨rfl, B2⟩
      replace A1 := Lib.hid (keepb A1.out B2.out)
      replace c_A1 := cell_of_block A1.out
      replace f_A1 := frozen_of_block A1.out
      replace FS := fls_keep FS B2
      replace BA := Lib.hid (chain BA.out B2.out)
      go_wp2_with fail
      refine (cright_at n _ c a r l _ _ FS.out hn1 HR.out).mono ?_; rintro e w3 ⟨rfl, B3⟩
      replace A1 := Lib.hid (keepb A1.out B3.out)
      replace c_A1 := cell_of_block A1.out
      replace f_A1 := frozen_of_block A1.out
      replace FS := fls_keep FS B3
      replace BA := Lib.hid (chain BA.out B3.out)
      clear B2 B3
      go_wp2_with fail
      all_goals first
        | (go_ret; exact ⟨rfl, BA.out⟩)
        | (exfalso; have := HBad.out; omega)
    · obtain ⟨e1, e2, e3, e4⟩ : 0 ≤ now ∧ now ≤ 1099511627776 ∧ 0 ≤ later ∧ later ≤ 1099511627776 := by omega
      clear hbad
      obtain ⟨g4, g2, hack⟩ := acked_all (now := now) HRS.out.1
      simp only at hack
      obtain ⟨mm, hmm⟩ : ∃ mm, mm = (sdAcked ⟨n, l, c, a⟩ (n - 1) 0 now).2 := ⟨_, rfl⟩
      rw [← hmm] at hack
      obtain ⟨hdr, -, -, hcg, -, -⟩ := acked_facts HRS.out.1 e2 hack
      obtain ⟨q, hq⟩ : ∃ q, q = if 0 ≤ mm then rttSample r mm else r := ⟨_, rfl⟩
      have hqok : RtOk q := by rw [hq]; split; exact sample_ok _ _; exact HRS.out.2
      have HAk := Lib.hid (show chAck ⟨⟨n, l, c, a⟩, r⟩ (n - 1) 0 now = ⟨⟨n, [], g4, g2⟩, q⟩ by unfold chAck; simp only [hack, hq])
      have HDR := Lib.hid hdr
      have HQ := Lib.hid hqok
      have HRoom := Lib.hid (room_none hdr)
      have g4b : 1 ≤ g4 := (rightSd hdr).c0
      have g4c : g4 ≤ 8 := (rightSd hdr).c1
      have hnm : n ≤ 1073741824 := HP.out.n1
      have hnn : 1 ≤ n := HP.out.n0
      simp only at hcg
      obtain ⟨m, hm⟩ : ∃ m, m = min g4 (1073741824 - n) := ⟨_, rfl⟩
      rw [← hm] at HRoom
      have gm := int_rule (show (if 1073741824 - n < g4 then 1073741824 - n else g4) = m by omega)
      have t9 := dec_t (show c ≤ g4 from hcg)
      clear hack hmm hq hqok hdr hm
      go_enter Try.func3, Try.ntmps3
      go_upto_region 1 with fail
      refine gen_wp (fun w1 => Hid (w1.heap[w.heap.size]? = some (.cells #[.int .i64 n, .slice p l.length cap, .int .i64 c, .int .i64 a, .int .i64 r.s, .int .i64 r.v, .int .i64 r.rto, .int .i64 r.fails, .bool r.has] 28)) ∧ Hid (Below w.heap.size w w1) ∧ True) ⟨Lib.hid (by first | (simp [World.setCell, Array.getElem?_modify]; done) | (simp [World.setCell, Array.getElem?_modify]; omega) | ((repeat (first | (with_reducible exact heap_new _ _ _ (by first | rfl | (simp; done))) | (with_reducible refine keepa ?_ _) | (simp [World.setCell, Array.getElem?_modify]; done))); done)), Lib.hid (by repeat (first | (with_reducible exact Below.refl _ _) | (with_reducible refine bel_set (by first | omega | (simp; done) | (simp; omega)) ?_) | (with_reducible refine bel_alloc (by first | omega | (simp; done) | (simp; omega)) ?_) | (with_reducible refine bel_drew ?_) | (with_reducible refine bel_drewN ?_ _))), trivial⟩ ?_
      rintro w1 ⟨A1, BA, -⟩
      have c_A1 := cell_of_block A1.out
      have f_A1 := frozen_of_block A1.out
      replace FS := fls_keep FS BA
      go_wp2_with fail
      refine (small12_any _).mono ?_; rintro e w2 ⟨rfl, B2⟩
      replace A1 := Lib.hid (keepb A1.out B2.out)
      replace c_A1 := cell_of_block A1.out
      replace f_A1 := frozen_of_block A1.out
      replace FS := fls_keep FS B2
      replace BA := Lib.hid (chain BA.out B2.out)
      go_wp2_with fail
      refine (cright_at n _ c a r l _ _ FS.out hn1 HR.out).mono ?_; rintro e w3 ⟨rfl, B3⟩
      replace A1 := Lib.hid (keepb A1.out B3.out)
      replace c_A1 := cell_of_block A1.out
      replace f_A1 := frozen_of_block A1.out
      replace FS := fls_keep FS B3
      replace BA := Lib.hid (chain BA.out B3.out)
      clear B2 B3
      go_wp2_with fail
      refine (cack_any n _ c a r l (n - 1) 0 now _ FS.out HRS.out.1 ⟨e1, e2⟩ _ HAk.out).mono ?_
      rintro e w4 ⟨p4, cap4, rfl, O4, B4⟩
      replace A1 := Lib.hid (keepb A1.out B4.out)
      replace c_A1 := cell_of_block A1.out
      replace f_A1 := frozen_of_block A1.out
      replace BA := Lib.hid (chain BA.out B4.out)
      have FD : Hid (Fls w4 (.slice p4 0 cap4) []) := Lib.hid O4.out.sl
      clear O4 B4 FS
      simp only [List.length_nil]
      go_upto_region 5 with fail
      refine gen_wp (fun w5 => Hid (Below w4.heap.size w4 w5) ∧ Hid (w5.heap[w4.heap.size]? = some (.cells #[.int .i64 n, .slice p4 0 cap4, .int .i64 g4, .int .i64 g2, .int .i64 q.s, .int .i64 q.v, .int .i64 q.rto, .int .i64 q.fails, .bool q.has] 28)) ∧ True) ⟨Lib.hid (by repeat (first | (with_reducible exact Below.refl _ _) | (with_reducible refine bel_set (by first | omega | (simp; done) | (simp; omega)) ?_) | (with_reducible refine bel_alloc (by first | omega | (simp; done) | (simp; omega)) ?_) | (with_reducible refine bel_drew ?_) | (with_reducible refine bel_drewN ?_ _))), Lib.hid (by first | (simp [World.setCell, Array.getElem?_modify, A1.out]; done) | (simp [World.setCell, Array.getElem?_modify, A1.out]; omega) | ((repeat (first | (with_reducible exact A1.out) | (with_reducible exact heap_new _ _ _ (by first | rfl | (simp; done))) | (with_reducible refine keepa ?_ _) | (simp [World.setCell, Array.getElem?_modify, A1.out]; done))); done)), trivial⟩ ?_
      clear c_A1 f_A1
      rintro w5 ⟨N, A8, -⟩
      have c_A8 := cell_of_block A8.out
      have f_A8 := frozen_of_block A8.out
      replace A1 := Lib.hid (keepb A1.out N.out)
      replace c_A1 := cell_of_block A1.out
      replace f_A1 := frozen_of_block A1.out
      replace BA := Lib.hid (chain BA.out N.out)
      replace FD := fls_keep FD N
      clear N
      go_wp2_with fail
      refine (ctick_any n _ g4 g2 q [] later 100 _ FD.out HDR.out ⟨e3, e4⟩ ⟨by have := HQ.out.r0; omega, by have := HQ.out.r1; omega⟩ (by decide) _ _ (tick_none n g4 g2 q later 100)).mono ?_
      rintro e w6 ⟨p6, cap6, po6, capo6, rfl, O6, -, B6⟩
      replace A1 := Lib.hid (keepb A1.out B6.out)
      replace c_A1 := cell_of_block A1.out
      replace f_A1 := frozen_of_block A1.out
      replace A8 := Lib.hid (keepb A8.out B6.out)
      replace c_A8 := cell_of_block A8.out
      replace f_A8 := frozen_of_block A8.out
      replace BA := Lib.hid (chain BA.out B6.out)
      replace FD := fls_keep FD B6
      have FE : Hid (Fls w6 (.slice p6 0 cap6) []) := Lib.hid O6.out.sl
      clear O6 B6
      simp only [List.length_nil]
      go_upto_region 6 with fail
      refine gen_wp (fun w7 => Hid (Below w6.heap.size w6 w7) ∧ Hid (w7.heap[w6.heap.size]? = some (.cells #[.int .i64 n, .slice p6 0 cap6, .int .i64 g4, .int .i64 g2, .int .i64 q.s, .int .i64 q.v, .int .i64 q.rto, .int .i64 q.fails, .bool q.has] 28)) ∧ True) ⟨Lib.hid (by repeat (first | (with_reducible exact Below.refl _ _) | (with_reducible refine bel_set (by first | omega | (simp; done) | (simp; omega)) ?_) | (with_reducible refine bel_alloc (by first | omega | (simp; done) | (simp; omega)) ?_) | (with_reducible refine bel_drew ?_) | (with_reducible refine bel_drewN ?_ _))), Lib.hid (by first | (simp [World.setCell, Array.getElem?_modify, A1.out, A8.out]; done) | (simp [World.setCell, Array.getElem?_modify, A1.out, A8.out]; omega) | ((repeat (first | (with_reducible exact A1.out) | (with_reducible exact A8.out) | (with_reducible exact heap_new _ _ _ (by first | rfl | (simp; done))) | (with_reducible refine keepa ?_ _) | (simp [World.setCell, Array.getElem?_modify, A1.out, A8.out]; done))); done)), trivial⟩ ?_
      clear c_A1 f_A1 c_A8 f_A8
      rintro w7 ⟨N, A9, -⟩
      have c_A9 := cell_of_block A9.out
      have f_A9 := frozen_of_block A9.out
      replace A1 := Lib.hid (keepb A1.out N.out)
      replace c_A1 := cell_of_block A1.out
      replace f_A1 := frozen_of_block A1.out
      replace A8 := Lib.hid (keepb A8.out N.out)
      replace c_A8 := cell_of_block A8.out
      replace f_A8 := frozen_of_block A8.out
      replace BA := Lib.hid (chain BA.out N.out)
      replace FD := fls_keep FD N
      replace FE := fls_keep FE N
      clear N
      have HC1 := Lib.hid (fun d os => reg_of (csame_at n (.slice p6 0 cap6) g4 g2 q [] n (.slice p4 0 cap4) g4 g2 q [] true (Go.Sort.grow (redrawn w7 d) os) (FE.out.regrown (by decide) d os) (FD.out.regrown (by decide) d os) (by simp)))
      have HC2 := Lib.hid (fun d os => reg_of (cidle_at n (.slice p4 0 cap4) g4 g2 q [] true (Go.Sort.grow (redrawn w7 d) os) (FD.out.regrown (by decide) d os) (by decide)))
      have HC3 := Lib.hid (fun d os => reg_of (croom_any n (.slice p4 0 cap4) g4 g2 q [] m (Go.Sort.grow (redrawn w7 d) os) (FD.out.regrown (by decide) d os) HDR.out HRoom.out))
      have r_A1 := fun d os => cell_of_block (keepb A1.out (below_regrown w7 d os))
      have r_A8 := fun d os => cell_of_block (keepb A8.out (below_regrown w7 d os))
      have r_A9 := fun d os => cell_of_block (keepb A9.out (below_regrown w7 d os))
      refine wp_region_quiet_below (by kernel_rfl) (by kernel_rfl) ?_
      (try simp only [List.append_eq, List.cons_append, List.nil_append])
      repeat (first | go_big_quiet_skip | (go_big_quiet_want; go_big_quiet_op; first | go_big_quiet_on | (apply Exists.intro; refine ⟨fun _ => ?_, ?_⟩; (focus ((first | (go_at_call 14; with_reducible exact HC1.out _ _) | (go_at_call 13; with_reducible exact HC2.out _ _) | (go_at_call 15; with_reducible exact HC3.out _ _)))); go_big_quiet_on)))
      refine wpQuiet_nil ?_
      intro _ hw'
      obtain ⟨⟨dq, osq⟩, hw''⟩ := hw'
      subst hw''
      go_wp2_with fail
      go_ret
      exact ⟨rfl, chain BA.out (below_regrown _ _ _)⟩

end Go.Proofs.Yteilgibfmljoeaa.lawChannelEnds
namespace Go.Proofs.Yteilgibfmljoeaa.lawChannelEnds
open Go.ChangeShapes Go.WideShapes Go.RowKit
set_option linter.unusedVariables false
theorem own : ownKnob Try.prog.godebug = none := by kernel_rfl
theorem laidOut : laidOutB Try.prog = true := by kernel_rfl
set_option maxRecDepth 100000 in
theorem lifted (os : Os) (started : os.Started) (H : Type) (enc : TypeId × Value → H) :
    ReturnsInHanded {} Try.checked os 3 .any (Rows.channelEndsSpec.pre6 enc Try.prog Try.f3 Rows.channelEndsRow.domain false) (Rows.channelEndsSpec.post enc Try.prog Try.f3 false true false false) := by
  refine returnsInHanded_of_change (C := Try.checked) own started (by kernel_rfl) Try.func3
    (ChangeSpec.witness6 (enc := enc) (C := Try.checked) false ⟨#[], #[.agg #[.int .i64 0, .slice none 0 0, .int .i64 0, .int .i64 0, .int .i64 0, .int .i64 0, .int .i64 0, .int .i64 0, .bool false], .int .i64 0, .int .i64 0], []⟩ 8 (by kernel_rfl) (by kernel_rfl) (by kernel_rfl) (by kernel_rfl)) ?_
  intro W base args ds gs before hval0 hW hcnd _
  have hval : ∀ (j : Nat) t v, Try.f3.params[j]? = some t → args[j]? = some v → Value.okWide Try.prog W .any base t v := hval0
  have hW' := hW
  obtain ⟨p, q, hA0, hV, rfl, hfz, hnd⟩ := hW
  have hA : DataW.TrodAll enc Try.prog W 0 (fun _ => true) true Try.f3.params.toList args.toList ds p := hA0
  rw [Try.params3] at hA hval
  obtain ⟨v0, vs0, d0, ds0, p0, q0, hargs, rfl, rfl, h0, r0⟩ := trodAll_cons hA
  obtain ⟨v1, vs1, d1, ds1, p1, q1, rfl, rfl, rfl, h1, r1⟩ := trodAll_cons r0
  obtain ⟨v2, vs2, d2, ds2, p2, q2, rfl, rfl, rfl, h2, r2⟩ := trodAll_cons r1
  obtain ⟨rfl, rfl, rfl⟩ := trodAll_nil r2
  obtain rfl : args = #[v0, v1, v2] := by cases args; simp_all
  obtain ⟨rfl, rfl⟩ := trodVars_none hV
  obtain ⟨n0, u0, c0, b0, q0', z0, rfl, f0, w0⟩ := K.open_ch_arg (hval 0 28 v0 rfl rfl) h0
  have k0 := h0
  have lt0 : ∀ x ∈ p0, x.block < W.heap.size := by obtain ⟨m, hm⟩ := k0; exact DataW.trod_lt m _ _ _ hm
  obtain ⟨a1, rfl, rfl, rfl, w1⟩ := open_int Try.underlying3 (hval 1 3 v1 rfl rfl) h1
  obtain ⟨a2, rfl, rfl, rfl, w2⟩ := open_int Try.underlying3 (hval 2 3 v2 rfl rfl) h2
  clear hA0 hval0
  refine (walk n0 u0 c0 b0 q0' z0 a1 a2 W f0 w0 w1 w2).mono fun e W' ⟨he, bel⟩ => ?_
  subst he
  exact ⟨_, rfl, _, _, _, [], _, [], hW', trodAll_mk1 (shut_bool Try.underlying4 _), (trodAll_cons_mk (Below.trod laidOut (by kernel_rfl) (of_decide_eq_true (by kernel_rfl)) k0 bel lt0) (trodAll_cons_mk (shut_int Try.underlying3 w1) (trodAll_cons_mk (shut_int Try.underlying3 w2) trodAll_mk0))), rfl, bel.frame _, fun h => by cases h⟩
theorem over : Rows.channelEndsRow.holds Try.pinned (OpenSpec.ofChange Rows.channelEndsSpec) :=
  OpenClaim.holds_of_wide 3 Try.f3 rfl rfl rfl rfl rfl rfl rfl ⟨rfl, rfl, rfl, rfl, rfl⟩ rfl rfl rfl rfl rfl (by kernel_rfl) Try.func3 (by kernel_rfl)
    (of_decide_eq_true (by kernel_rfl)) (by unfold Func.isWrapper; first | (rw [if_pos (by decide +kernel)]; kernel_rfl) | (rw [if_neg (by decide +kernel)]; exact ⟨rfl, rfl⟩))
    (fun os started H enc _ => lifted os started H enc)
/-- THE STATEMENT -/
theorem proved : Rows.ChannelEndsSaid := over
end Go.Proofs.Yteilgibfmljoeaa.lawChannelEnds
#print axioms Go.Proofs.Yteilgibfmljoeaa.lawChannelEnds.proved

/-
  THE STATEMENT 'Rows.ChannelWaitsSaid': nightjarlaw12.ChannelWaits returns true for every input, and its arguments read afterwards as they read before. No condition.
-/
import Derived.Test.YteilgibfmljoeaaChanRead
import Derived.Test.YteilgibfmljoeaaRows
import Derived.ProofKit
import Derived.OpenShut
import Derived.ShutString
import Derived.ChangeOld
import Derived.Below
set_option linter.unusedVariables false
set_option linter.unusedSimpArgs false
namespace Go.Proofs.Yteilgibfmljoeaa.lawChannelWaits
open Go Go.RowKit Nj K

theorem tick_facts {n c a : Int} {l : List Fl} {r : Rt} {now most : Int} (hR : sdRight ⟨n, l, c, a⟩ = true) (hr : RtOk r) (n0 : 0 ≤ now) (n1 : now ≤ 1099511627776) {d : Ch} {o : List Fl} (h : chTick ⟨⟨n, l, c, a⟩, r⟩ now most = (d, o)) :
    o.length = min (sdDue ⟨n, l, c, a⟩ now r.rto).length most.toNat ∧ d.send.fl.length = l.length ∧
    (min (sdDue ⟨n, l, c, a⟩ now r.rto).length most.toNat = 0 → d = ⟨⟨n, l, c, a⟩, r⟩) ∧ (0 < min (sdDue ⟨n, l, c, a⟩ now r.rto).length most.toNat → d.rtt.rto = min (r.rto * 2) 64 ∧ d.send.cwnd = max (c / 2) 1) := by
  unfold chTick at h
  simp only at h
  split at h
  · rename_i hb
    cases h
    have : min (sdDue ⟨n, l, c, a⟩ now r.rto).length most.toNat = 0 := by
      rcases hb with hb | hb
      · rw [hb]; simp
      · omega
    exact ⟨by rw [this]; rfl, rfl, fun _ => rfl, fun h => by omega⟩
  · rename_i hb
    cases h
    have hm : 1 ≤ most := by omega
    have hD : 0 < (sdDue ⟨n, l, c, a⟩ now r.rto).length := (Nat.eq_zero_or_pos _).resolve_left fun h => hb (.inl (List.length_eq_zero_iff.1 h))
    have ht := tickL_right n0 n1 ((sdDue ⟨n, l, c, a⟩ now r.rto).take most.toNat) _ (right_lost hR)
    refine ⟨by rw [tickL_len, List.length_take]; omega, ht.2.2.1, fun h => by omega, fun _ => ⟨?_, ht.2.2.2.1⟩⟩
    unfold rttBackoff
    rw [norm_of_right ((right_iff r).2 hr)]; rfl

set_option maxRecDepth 100000 in
set_option maxHeartbeats 4000000 in
theorem walk (n : Int) (v : Value) (c a : Int) (r : Rt) (l : List Fl) (now most : Int) (w : World) (h : Fls w v l) (wn : (Lit.int .i64 n).wf = true) (_ : (Lit.int .i64 now).wf = true) (wm : (Lit.int .i64 most).wf = true) :
    Calls Try.prog 4 #[.agg #[.int .i64 n, v, .int .i64 c, .int .i64 a, .int .i64 r.s, .int .i64 r.v, .int .i64 r.rto, .int .i64 r.fails, .bool r.has], .int .i64 now, .int .i64 most] w fun e w' => e = .returned (.bool true) ∧ Below w.heap.size w w' := by
  have FS := Lib.hid h
  obtain ⟨hn0, hn1⟩ := wf_i64 wn
  obtain ⟨p, cap, rfl, hcap⟩ := fls_shape h
  clear h wn
  cases hr : chRight ⟨⟨n, l, c, a⟩, r⟩ with
  | false =>
    have HR := Lib.hid hr
    clear hr
    go_enter Try.func4, Try.ntmps4
    go_upto_region 1 with fail
    refine gen_wp (fun w1 => Hid (w1.heap[w.heap.size]? = some (.cells #[.int .i64 n, .slice p l.length cap, .int .i64 c, .int .i64 a, .int .i64 r.s, .int .i64 r.v, .int .i64 r.rto, .int .i64 r.fails, .bool r.has] 28)) ∧ Hid (Below w.heap.size w w1) ∧ True) ⟨Lib.hid (by first | (simp [World.setCell, Array.getElem?_modify]; done) | (simp [World.setCell, Array.getElem?_modify]; omega) | ((repeat (first | (with_reducible exact heap_new _ _ _ (by first | rfl | (simp; done))) | (with_reducible refine keepa ?_ _) | (simp [World.setCell, Array.getElem?_modify]; done))); done)), Lib.hid (by repeat (first | (with_reducible exact Below.refl _ _) | (with_reducible refine bel_set (by first | omega | (simp; done) | (simp; omega)) ?_) | (with_reducible refine bel_alloc (by first | omega | (simp; done) | (simp; omega)) ?_) | (with_reducible refine bel_drew ?_) | (with_reducible refine bel_drewN ?_ _))), trivial⟩ ?_
    rintro w1 ⟨A1, BA, -⟩
    have c_A1 := cell_of_block A1.out
    have f_A1 := frozen_of_block A1.out
    replace FS := fls_keep FS BA
    go_wp2_with fail
    refine (small12_any _).mono ?_; rintro e w2 ⟨rfl, B2⟩
    replace A1 := Lib.hid (keepb A1.out B2.out)
    replace c_A1 := cell_of_block A1.out
    replace f_A1 := frozen_of_block A1.out
    replace FS := fls_keep FS B2
    replace BA := Lib.hid (chain BA.out B2.out)
    go_wp2_with fail
    refine (cright_at n _ c a r l _ _ FS.out hn1 HR.out).mono ?_; rintro e w3 ⟨rfl, B3⟩
    replace A1 := Lib.hid (keepb A1.out B3.out)
    replace c_A1 := cell_of_block A1.out
    replace f_A1 := frozen_of_block A1.out
    replace FS := fls_keep FS B3
    replace BA := Lib.hid (chain BA.out B3.out)
    clear B2 B3
    go_wp2_with fail
    go_ret
    exact ⟨rfl, BA.out⟩
  | true =>
    have HR := Lib.hid hr
    have HRS := Lib.hid (chan_right hr)
    have HP := Lib.hid (rightSd (chan_right hr).1)
    clear hr
    have hl8 : l.length ≤ 8 := HP.out.len
    by_cases hbad : now < 0 ∨ 1099511627776 < now
    · have HBad := Lib.hid hbad
      clear hbad
      go_enter Try.func4, Try.ntmps4
      go_upto_region 1 with fail
      refine gen_wp (fun w1 => Hid (w1.heap[w.heap.size]? = some (.cells #[.int .i64 n, .slice p l.length cap, .int .i64 c, .int .i64 a, .int .i64 r.s, .int .i64 r.v, .int .i64 r.rto, .int .i64 r.fails, .bool r.has] 28)) ∧ Hid (Below w.heap.size w w1) ∧ True) ⟨Lib.hid (by first | (simp [World.setCell, Array.getElem?_modify]; done) | (simp [World.setCell, Array.getElem?_modify]; omega) | ((repeat (first | (with_reducible exact heap_new _ _ _ (by first | rfl | (simp; done))) | (with_reducible refine keepa ?_ _) | (simp [World.setCell, Array.getElem?_modify]; done))); done)), Lib.hid (by repeat (first | (with_reducible exact Below.refl _ _) | (with_reducible refine bel_set (by first | omega | (simp; done) | (simp; omega)) ?_) | (with_reducible refine bel_alloc (by first | omega | (simp; done) | (simp; omega)) ?_) | (with_reducible refine bel_drew ?_) | (with_reducible refine bel_drewN ?_ _))), trivial⟩ ?_
      rintro w1 ⟨A1, BA, -⟩
      have c_A1 := cell_of_block A1.out
      have f_A1 := frozen_of_block A1.out
      replace FS := fls_keep FS BA
      go_wp2_with fail
      refine (small12_any _).mono ?_; rintro e w2 ⟨rfl, B2⟩
      replace A1 := Lib.hid (keepb A1.out B2.out)
      replace c_A1 := cell_of_block A1.out
      replace f_A1 := frozen_of_block A1.out
      replace FS := fls_keep FS B2
      replace BA := Lib.hid (chain BA.out B2.out)
      go_wp2_with fail
      refine (cright_at n _ c a r l _ _ FS.out hn1 HR.out).mono ?_; rintro e w3 ⟨rfl, B3⟩
      replace A1 := Lib.hid (keepb A1.out B3.out)
      replace c_A1 := cell_of_block A1.out
      replace f_A1 := frozen_of_block A1.out
      replace FS := fls_keep FS B3
      replace BA := Lib.hid (chain BA.out B3.out)
      clear B2 B3
      go_wp2_with fail
      all_goals first
        | (go_ret; exact ⟨rfl, BA.out⟩)
        | (exfalso; have := HBad.out; omega)
    · obtain ⟨e1, e2⟩ : 0 ≤ now ∧ now ≤ 1099511627776 := by omega
      clear hbad
      obtain ⟨-, hm1⟩ := wf_i64 wm
      clear wm
      obtain ⟨d, o, htk⟩ : ∃ d o, chTick ⟨⟨n, l, c, a⟩, r⟩ now most = (d, o) := ⟨_, _, rfl⟩
      obtain ⟨hol, hdl, hz, hp⟩ := tick_facts HRS.out.1 HRS.out.2 e1 e2 htk
      have HTk := Lib.hid htk
      obtain ⟨D, hD⟩ : ∃ D : Nat → List Fl, ∀ k, D k = (l.take k).filter fun f => decide (f.at_ + r.rto ≤ now) := ⟨_, fun _ => rfl⟩
      have HD := Lib.hid hD
      obtain ⟨nd, hnd⟩ : ∃ nd, nd = (sdDue ⟨n, l, c, a⟩ now r.rto).length := ⟨_, rfl⟩
      have HDE := Lib.hid (show (D l.length).length = nd by rw [hnd, hD, List.take_length]; unfold sdDue; rw [List.length_map])
      have HDl := Lib.hid (show ∀ k, (D k).length ≤ l.length from fun k => by rw [hD]; exact Nat.le_trans (List.length_filter_le _ _) (List.length_take_le' _ _))
      have HF := Lib.hid (show ∀ f ∈ l, 0 ≤ f.at_ ∧ f.at_ ≤ 1099511627776 from fun f hf => by have := HP.out.fl f hf; omega)
      have r0 : 2 ≤ r.rto := HRS.out.2.r0
      have r1 : r.rto ≤ 64 := HRS.out.2.r1
      rw [← hnd] at hol hz hp
      obtain ⟨nn, hnn⟩ : ∃ nn, nn = min nd most.toNat := ⟨_, rfl⟩
      rw [← hnn] at hol hz hp
      obtain ⟨M, hM⟩ : ∃ M : Int, M = max most 0 := ⟨_, rfl⟩
      have gM := int_rule (show (if most < 0 then 0 else most) = M by omega)
      have HGN := Lib.hid (show (if M < (nd : Int) then M else (nd : Int)) = (nn : Int) by omega)
      obtain ⟨⟨dn, dl, dc, da⟩, dr⟩ := d
      simp only at hdl hp
      have HOL := Lib.hid hol
      have HDL := Lib.hid hdl
      have HZ := Lib.hid hz
      have HPo := Lib.hid hp
      have hc0 : 1 ≤ c := HP.out.c0
      have hc8 : c ≤ 8 := HP.out.c1
      clear htk hD hnd hnn hM hol hdl hz hp
      go_enter Try.func4, Try.ntmps4
      go_upto_region 1 with fail
      refine gen_wp (fun w1 => Hid (w1.heap[w.heap.size]? = some (.cells #[.int .i64 n, .slice p l.length cap, .int .i64 c, .int .i64 a, .int .i64 r.s, .int .i64 r.v, .int .i64 r.rto, .int .i64 r.fails, .bool r.has] 28)) ∧ Hid (Below w.heap.size w w1) ∧ True) ⟨Lib.hid (by first | (simp [World.setCell, Array.getElem?_modify]; done) | (simp [World.setCell, Array.getElem?_modify]; omega) | ((repeat (first | (with_reducible exact heap_new _ _ _ (by first | rfl | (simp; done))) | (with_reducible refine keepa ?_ _) | (simp [World.setCell, Array.getElem?_modify]; done))); done)), Lib.hid (by repeat (first | (with_reducible exact Below.refl _ _) | (with_reducible refine bel_set (by first | omega | (simp; done) | (simp; omega)) ?_) | (with_reducible refine bel_alloc (by first | omega | (simp; done) | (simp; omega)) ?_) | (with_reducible refine bel_drew ?_) | (with_reducible refine bel_drewN ?_ _))), trivial⟩ ?_
      rintro w1 ⟨A1, BA, -⟩
      have c_A1 := cell_of_block A1.out
      have f_A1 := frozen_of_block A1.out
      replace FS := fls_keep FS BA
      go_wp2_with fail
      refine (small12_any _).mono ?_; rintro e w2 ⟨rfl, B2⟩
      replace A1 := Lib.hid (keepb A1.out B2.out)
      replace c_A1 := cell_of_block A1.out
      replace f_A1 := frozen_of_block A1.out
      replace FS := fls_keep FS B2
      replace BA := Lib.hid (chain BA.out B2.out)
      go_wp2_with fail
      refine (cright_at n _ c a r l _ _ FS.out hn1 HR.out).mono ?_; rintro e w3 ⟨rfl, B3⟩
      replace A1 := Lib.hid (keepb A1.out B3.out)
      replace c_A1 := cell_of_block A1.out
      replace f_A1 := frozen_of_block A1.out
      replace FS := fls_keep FS B3
      replace BA := Lib.hid (chain BA.out B3.out)
      clear B2 B3
      go_wp2_with fail
      go_loopw [8, 9] (fun dv i wr => ∃ k : Nat, k ≤ l.length ∧ i = .int .i64 k ∧ dv = .int .i64 ((D k).length : Nat) ∧ Below w3.heap.size w3 wr) (fun _ i _ => l.length - (intOf i).toNat)
      case atStart => exact ⟨0, by omega, rfl, by rw [HD.out]; rfl, Below.refl _ _⟩
      case round =>
        obtain ⟨k, hk, rfl, rfl, hwb⟩ := hrel
        have HW := Lib.hid hwb
        clear hwb
        have A1r := Lib.hid (keepb A1.out HW.out)
        clear c_A1 f_A1
        have c_A1r := cell_of_block A1r.out
        have f_A1r := frozen_of_block A1r.out
        have hdk : (D k).length ≤ 8 := Nat.le_trans (HDl.out k) hl8
        by_cases hlt : k < l.length
        · obtain ⟨b, ob, rfl, _⟩ := FS.out.open (by omega)
          obtain ⟨f, hf⟩ : ∃ f, f = l[k] := ⟨_, rfl⟩
          obtain ⟨c0, c1, c2, c3, c4, c5, c6⟩ := fls_row FS HW.out k hlt f hf
          obtain ⟨f0, f1⟩ := HF.out f (by rw [hf]; simp)
          have HFk := Lib.hid hf
          have t1 : (k : Int) < (l.length : Int) := by omega
          have t2 : (0 : Int) ≤ (k : Int) := by omega
          clear hf
          by_cases hu : f.at_ + r.rto ≤ now
          · have HDs := Lib.hid (show (D (k + 1)).length = (D k).length + 1 by rw [HD.out, HD.out, keep_step hlt, ← HFk.out]; simp [hu])
            go_wp2_with fail
            go_quiet (fail)
            go_wp2_with fail
            go_roundw
            case rel => exact ⟨k + 1, by omega, by go_num, by rw [HDs.out]; go_num, bel_drewN HW.out _⟩
            case measure => simp [intOf]; omega
          · have HDs := Lib.hid (show (D (k + 1)).length = (D k).length by rw [HD.out, HD.out, keep_step hlt, ← HFk.out]; simp [hu])
            go_wp2_with fail
            go_quiet (fail)
            go_wp2_with fail
            go_roundw
            case rel => exact ⟨k + 1, by omega, by go_num, by rw [HDs.out], bel_drewN HW.out _⟩
            case measure => simp [intOf]; omega
        · have hke : k = l.length := by omega
          subst hke
          have t1 : decide ((l.length : Int) < (l.length : Int)) = false := by simp
          have BAr := Lib.hid (chain BA.out HW.out)
          have FSr := Lib.hid (FS.out.keep (by decide) HW.out)
          rw [HDE.out]
          go_wp2_with fail
          refine (ctick_any n _ c a r l now most _ FSr.out HRS.out.1 ⟨e1, e2⟩ ⟨by omega, by omega⟩ hm1 _ _ HTk.out).mono ?_
          rintro e w4 ⟨p4, cap4, po, capo, rfl, O4, -, B4⟩
          simp only at O4 ⊢
          have FD : Hid (Fls w4 (.slice p4 dl.length cap4) dl) := Lib.hid O4.out.sl
          rw [HDL.out, HOL.out]
          replace A1r := Lib.hid (keepb A1r.out B4.out)
          replace c_A1r := cell_of_block A1r.out
          replace f_A1r := frozen_of_block A1r.out
          replace BAr := Lib.hid (chain BAr.out B4.out)
          replace FSr := fls_keep FSr B4
          rw [HDL.out] at FD
          clear O4 B4
          go_upto_region 11 with fail
          refine gen_wp (fun w5 => Hid (Below w4.heap.size w4 w5) ∧ Hid (w5.heap[w4.heap.size]? = some (.cells #[.int .i64 dn, .slice p4 l.length cap4, .int .i64 dc, .int .i64 da, .int .i64 dr.s, .int .i64 dr.v, .int .i64 dr.rto, .int .i64 dr.fails, .bool dr.has] 28)) ∧ True) ⟨Lib.hid (by repeat (first | (with_reducible exact Below.refl _ _) | (with_reducible refine bel_set (by first | omega | (simp; done) | (simp; omega)) ?_) | (with_reducible refine bel_alloc (by first | omega | (simp; done) | (simp; omega)) ?_) | (with_reducible refine bel_drew ?_) | (with_reducible refine bel_drewN ?_ _))), Lib.hid (by first | (simp [World.setCell, Array.getElem?_modify, A1r.out]; done) | (simp [World.setCell, Array.getElem?_modify, A1r.out]; omega) | ((repeat (first | (with_reducible exact A1r.out) | (with_reducible exact heap_new _ _ _ (by first | rfl | (simp; done))) | (with_reducible refine keepa ?_ _) | (simp [World.setCell, Array.getElem?_modify, A1r.out]; done))); done)), trivial⟩ ?_
          clear c_A1r f_A1r
          rintro w5 ⟨N, A10, -⟩
          have c_A10 := cell_of_block A10.out
          have f_A10 := frozen_of_block A10.out
          replace A1r := Lib.hid (keepb A1r.out N.out)
          replace c_A1r := cell_of_block A1r.out
          replace f_A1r := frozen_of_block A1r.out
          replace BAr := Lib.hid (chain BAr.out N.out)
          replace FSr := fls_keep FSr N
          replace FD := fls_keep FD N
          clear N
          by_cases hn : nn = 0
          · have HE := Lib.hid (HZ.out hn)
            have gn := int_rule (HGN.out.trans (show (nn : Int) = 0 by omega))
            subst hn
            go_wp2_with fail
            refine (csame_at dn _ dc da dr dl n _ c a r l true _ FD.out FSr.out (by simpa using HE.out)).mono ?_; rintro e w6 ⟨rfl, B6⟩
            replace A1r := Lib.hid (keepb A1r.out B6.out)
            replace c_A1r := cell_of_block A1r.out
            replace f_A1r := frozen_of_block A1r.out
            replace A10 := Lib.hid (keepb A10.out B6.out)
            replace c_A10 := cell_of_block A10.out
            replace f_A10 := frozen_of_block A10.out
            replace BAr := Lib.hid (chain BAr.out B6.out)
            go_wp2_with fail
            go_ret
            exact ⟨rfl, BAr.out⟩
          · obtain ⟨hp1, hp2⟩ := HPo.out (by omega)
            have q1 := int_rule (show (if 2 * r.rto < 64 then 2 * r.rto else 64) = dr.rto by omega)
            have q2 := int_rule (show (if 1 < c / 2 then c / 2 else 1) = dc by omega)
            have t3 : (0 : Int) < (nn : Int) := by omega
            have t4 : ((nn : Int) == 0) = false := by simpa using hn
            have gn := int_rule HGN.out
            clear hp1 hp2
            go_wp2_with fail
            go_ret
            exact ⟨rfl, BAr.out⟩

end Go.Proofs.Yteilgibfmljoeaa.lawChannelWaits
namespace Go.Proofs.Yteilgibfmljoeaa.lawChannelWaits
open Go.ChangeShapes Go.WideShapes Go.RowKit
set_option linter.unusedVariables false
theorem own : ownKnob Try.prog.godebug = none := by kernel_rfl
theorem laidOut : laidOutB Try.prog = true := by kernel_rfl
set_option maxRecDepth 100000 in
theorem lifted (os : Os) (started : os.Started) (H : Type) (enc : TypeId × Value → H) :
    ReturnsInHanded {} Try.checked os 4 .any (Rows.channelWaitsSpec.pre6 enc Try.prog Try.f4 Rows.channelWaitsRow.domain false) (Rows.channelWaitsSpec.post enc Try.prog Try.f4 false true false false) := by
  refine returnsInHanded_of_change (C := Try.checked) own started (by kernel_rfl) Try.func4
    (ChangeSpec.witness6 (enc := enc) (C := Try.checked) false ⟨#[], #[.agg #[.int .i64 0, .slice none 0 0, .int .i64 0, .int .i64 0, .int .i64 0, .int .i64 0, .int .i64 0, .int .i64 0, .bool false], .int .i64 0, .int .i64 0], []⟩ 8 (by kernel_rfl) (by kernel_rfl) (by kernel_rfl) (by kernel_rfl)) ?_
  intro W base args ds gs before hval0 hW hcnd _
  have hval : ∀ (j : Nat) t v, Try.f4.params[j]? = some t → args[j]? = some v → Value.okWide Try.prog W .any base t v := hval0
  have hW' := hW
  obtain ⟨p, q, hA0, hV, rfl, hfz, hnd⟩ := hW
  have hA : DataW.TrodAll enc Try.prog W 0 (fun _ => true) true Try.f4.params.toList args.toList ds p := hA0
  rw [Try.params4] at hA hval
  obtain ⟨v0, vs0, d0, ds0, p0, q0, hargs, rfl, rfl, h0, r0⟩ := trodAll_cons hA
  obtain ⟨v1, vs1, d1, ds1, p1, q1, rfl, rfl, rfl, h1, r1⟩ := trodAll_cons r0
  obtain ⟨v2, vs2, d2, ds2, p2, q2, rfl, rfl, rfl, h2, r2⟩ := trodAll_cons r1
  obtain ⟨rfl, rfl, rfl⟩ := trodAll_nil r2
  obtain rfl : args = #[v0, v1, v2] := by cases args; simp_all
  obtain ⟨rfl, rfl⟩ := trodVars_none hV
  obtain ⟨n0, u0, c0, b0, q0', z0, rfl, f0, w0⟩ := K.open_ch_arg (hval 0 28 v0 rfl rfl) h0
  have k0 := h0
  have lt0 : ∀ x ∈ p0, x.block < W.heap.size := by obtain ⟨m, hm⟩ := k0; exact DataW.trod_lt m _ _ _ hm
  obtain ⟨a1, rfl, rfl, rfl, w1⟩ := open_int Try.underlying3 (hval 1 3 v1 rfl rfl) h1
  obtain ⟨a2, rfl, rfl, rfl, w2⟩ := open_int Try.underlying3 (hval 2 3 v2 rfl rfl) h2
  clear hA0 hval0
  refine (walk n0 u0 c0 b0 q0' z0 a1 a2 W f0 w0 w1 w2).mono fun e W' ⟨he, bel⟩ => ?_
  subst he
  exact ⟨_, rfl, _, _, _, [], _, [], hW', trodAll_mk1 (shut_bool Try.underlying4 _), (trodAll_cons_mk (Below.trod laidOut (by kernel_rfl) (of_decide_eq_true (by kernel_rfl)) k0 bel lt0) (trodAll_cons_mk (shut_int Try.underlying3 w1) (trodAll_cons_mk (shut_int Try.underlying3 w2) trodAll_mk0))), rfl, bel.frame _, fun h => by cases h⟩
theorem over : Rows.channelWaitsRow.holds Try.pinned (OpenSpec.ofChange Rows.channelWaitsSpec) :=
  OpenClaim.holds_of_wide 4 Try.f4 rfl rfl rfl rfl rfl rfl rfl ⟨rfl, rfl, rfl, rfl, rfl⟩ rfl rfl rfl rfl rfl (by kernel_rfl) Try.func4 (by kernel_rfl)
    (of_decide_eq_true (by kernel_rfl)) (by unfold Func.isWrapper; first | (rw [if_pos (by decide +kernel)]; kernel_rfl) | (rw [if_neg (by decide +kernel)]; exact ⟨rfl, rfl⟩))
    (fun os started H enc _ => lifted os started H enc)
/-- THE STATEMENT -/
theorem proved : Rows.ChannelWaitsSaid := over
end Go.Proofs.Yteilgibfmljoeaa.lawChannelWaits
#print axioms Go.Proofs.Yteilgibfmljoeaa.lawChannelWaits.proved

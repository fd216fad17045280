/-
  THE STATEMENT 'Rows.NetOrderSaid': nightjarlaw23.NetOrder returns true for every input, and its arguments read afterwards as they read before. No condition.
-/
import Derived.Test.YtkgngfjlmkclcaaNetRead
import Derived.Test.YtkgngfjlmkclcaaNetSmall
import Derived.Test.YtkgngfjlmkclcaaRows
import Derived.Deep.DeepCutAuto
import Derived.Deep.Light
import Derived.ProofKit
import Derived.OpenShut
import Derived.ShutString
import Derived.ChangeOld
import Derived.Below
set_option linter.unusedVariables false
set_option linter.unusedSimpArgs false
namespace Go.Proofs.Ytkgngfjlmkclcaa.lawNetOrder
open Go Go.RowKit Nj K

set_option maxHeartbeats 8000000 in
theorem walk (v : Value) (l : List Dv) (w : World) (h : DgsF w v l) :
    Calls Try.prog 5 #[v] w fun e w' => e = .returned (.bool true) ∧ Below w.heap.size w w' := by
  have HA := Lib.hid h.1
  have HLe := Lib.hid h.2
  obtain ⟨p, cap, rfl, hcap⟩ := dgs_shape h.1
  have hm : l.length ≤ 9223372036854775807 := h.1.1.1
  clear h
  by_cases hlong : 200 < l.length
  · have d1 := dec_t (show (200 : Int) < (l.length : Int) by omega)
    go_enter Try.func5, Try.ntmps5
    go_wp2_with fail
    refine (small23_any _).mono ?_; rintro e w1 ⟨rfl, B1⟩
    go_wp2_with fail
    go_ret
    exact ⟨rfl, B1.out⟩
  have d1 := dec_f (show ¬ (200 : Int) < (l.length : Int) by omega)
  obtain ⟨K, hK⟩ : ∃ K, K = l.length - 64 := ⟨_, rfl⟩
  have hKl : K ≤ l.length := by omega
  have HSe := Lib.hid (show ntSend ⟨[], 0⟩ (l.map Dv.con) = ⟨(l.map Dv.con).drop K, (K : Int)⟩ by
    have := send_empty (l.map Dv.con) (l.map Dv.con).length (Nat.le_refl _)
    rw [List.take_length, List.length_map, ← hK] at this
    exact this)
  have HK := Lib.hid hK
  clear hK
  go_enter Try.func5, Try.ntmps5
  go_wp2_with fail
  refine (small23_any _).mono ?_; rintro e w1 ⟨rfl, B1⟩
  go_wp2_with fail
  refine (nnew_r _).mono ?_; rintro e w2 ⟨rfl, N2, B2⟩
  have hz1 := B1.out.size
  have hnb : w1.heap.size < w2.heap.size := netr_box (N2.out 0)
  have BA := Lib.hid (chain B1.out B2.out)
  have t0 : (0 : Int) ≤ (l.length : Int) := by omega
  have t1 : (l.length : Int) ≤ 200 := by omega
  go_wp2_with fail
  refine (nsend_any w.heap.size w1.heap.size _ _ ⟨[], 0⟩ _ l _ (N2.out w.heap.size) BA.out.size (by decide) (fun W M => HA.out.keep (M.below BA.out BA.out.size (fun b h => h.elim (fun h => h.elim) (fun h => by omega)))) (by omega) (fun d hd => by have := HLe.out d hd; omega) (by simp; omega)).mono ?_
  rintro e w3 ⟨rfl, N3, M3⟩
  replace N3 := Lib.hid (show NetR w.heap.size w1.heap.size (fun b => w.heap.size ≤ b) (fun _ => True) ⟨(l.map Dv.con).drop K, (K : Int)⟩ w3 from by
    have := N3.out
    rw [HSe.out] at this
    exact netr_mono this (fun b h => h.elim (fun h => h.elim) (fun h => by omega)) (fun _ _ => trivial))
  replace BA := Lib.hid (M3.out.below BA.out BA.out.size (fun b h => h.elim (fun h => h.elim) (fun h => by omega)))
  clear M3
  go_upto_region 8 with fail
  go_cut [5] (fun s5 wx => s5 = .int .i64 (K : Int) ∧ w3 = wx)
  case first =>
    by_cases h64 : (l.length : Int) ≤ 64
    · have hK0 := Lib.hid (show K = 0 by have := HK.out; omega)
      go_wp2_with fail
      go_meet
      case rel => exact ⟨by rw [hK0.out]; rfl, rfl⟩
    · have hK0 := Lib.hid (show ((l.length : Int) - 64) = K by have := HK.out; omega)
      go_wp2_with fail
      go_meet
      case rel => exact ⟨by rw [hK0.out], rfl⟩
  case rest =>
  obtain ⟨rfl, rfl⟩ := hcut
  have zK : (((K : Int)) != (K : Int)) = false := by simp
  go_wp2_with fail
  refine (nlost_r _ _ _ _ _ _ N3.out).mono ?_; rintro e wx ⟨rfl, rfl⟩
  simp only
  go_wp2_with fail
  go_loopw [6] (fun i wr => ∃ j : Nat, K ≤ j ∧ j ≤ l.length ∧ i = .int .i64 j ∧ NetR w.heap.size w1.heap.size (fun b => w.heap.size ≤ b) (fun _ => True) ⟨(l.map Dv.con).drop j, (K : Int)⟩ wr ∧ Below w.heap.size w wr) (fun i _ => l.length - (intOf i).toNat)
  case atStart => exact ⟨K, Nat.le_refl _, hKl, rfl, N3.out, BA.out⟩
  case round =>
    obtain ⟨j, hj0, hj, rfl, hn, hwb⟩ := hrel
    have HN := Lib.hid hn
    have HB := Lib.hid hwb
    clear hn hwb N3 BA
    have hszr := HB.out.size
    have hnbr := netr_box HN.out
    have hlen : ((l.map Dv.con).drop j).length = l.length - j := by rw [List.length_drop, List.length_map]
    by_cases hlt : j < l.length
    · have t2 : (j : Int) < (l.length : Int) := by omega
      have t3 : (0 : Int) ≤ (j : Int) := by omega
      obtain ⟨x, hx⟩ : ∃ x, x = l[j] := ⟨_, rfl⟩
      obtain ⟨bp, op, rfl, _⟩ := HA.out.1.open (by omega)
      have HDr := Lib.hid (show (l.map Dv.con).drop j = x.con :: (l.map Dv.con).drop (j + 1) by
        rw [List.drop_eq_getElem_cons (by simpa using hlt)]
        simp [hx])
      have HX := Lib.hid hx
      have HLn := Lib.hid hlen
      clear hx hlen
      go_wp2_with fail
      refine (ntake_r _ _ _ _ _ 0 _ HN.out (by simp only; rw [HLn.out]; have := HK.out; omega) (by decide)).mono ?_
      rintro e w4 (⟨h, -⟩ | ⟨-, d, hd, rfl, N4, OD, -, M4⟩)
      case inl => exfalso; simp only at h; rw [HLn.out] at h; omega
      have hp0 : ntPlace 0 ((l.map Dv.con).drop j).length = 0 := by unfold ntPlace; simp
      have hdx : d.con = x.con := by
        simp only [hp0] at hd
        rw [HDr.out] at hd
        simpa using hd.symm
      have N4' := Lib.hid (show NetR w.heap.size w1.heap.size (fun b => w.heap.size ≤ b) (fun _ => True) ⟨(l.map Dv.con).drop (j + 1), (K : Int)⟩ w4 from by
        have := N4.out
        unfold ntTake at this
        simp only [hp0] at this
        rw [HDr.out] at this
        simp only [List.eraseIdx_cons_zero] at this
        exact netr_mono this (fun b h => h.elim id (fun h => by omega)) (fun _ _ => trivial))
      have BA := Lib.hid (M4.out.below HB.out HB.out.size (fun b h => h.elim id (fun h => by omega)))
      have HDx := Lib.hid hdx
      clear hd hdx hp0 N4 M4
      go_upto_region 15 with fail
      refine gen_wp (fun w5 => Hid (w5.heap[w4.heap.size]? = some (.cells #[.int .i64 d.fr, .int .i64 d.tt, .slice d.p d.bs.length d.cap] 33)) ∧ Hid (Below w4.heap.size w4 w5) ∧ True) ⟨Lib.hid (by first | (simp [World.setCell, Array.getElem?_modify]; done) | (simp [World.setCell, Array.getElem?_modify]; omega) | ((repeat (first | (with_reducible exact heap_new _ _ _ (by first | rfl | (simp; done))) | (with_reducible refine keepa ?_ _) | (simp [World.setCell, Array.getElem?_modify]; done))); done)), Lib.hid (by repeat (first | (with_reducible exact Below.refl _ _) | (with_reducible refine bel_set (by first | omega | (simp; done) | (simp; omega)) ?_) | (with_reducible refine bel_alloc (by first | omega | (simp; done) | (simp; omega)) ?_) | (with_reducible refine bel_drew ?_) | (with_reducible refine bel_drewN ?_ _))), trivial⟩ ?_
      rintro w5 ⟨A7, N, -⟩
      have c_A7 := cell_of_block A7.out
      have f_A7 := frozen_of_block A7.out
      replace BA := Lib.hid (chain BA.out N.out)
      replace N4' := Lib.hid (netr_keep N4'.out N.out)
      have OD5 := Lib.hid (show Bts w5 d from OwnB.bts (Own.keep OD.out N.out))
      have HBx := Lib.hid (show Bts w5 x from (HA.out.2 x (by rw [HX.out]; simp)).keep BA.out)
      have HRx := Lib.hid (fun W (B : Below w5.heap.size w5 W) => dsl_row (Sl.keep (by decide) (Sl.keep (by decide) HA.out.1 BA.out) B) j hlt x HX.out)
      obtain ⟨q0, q1, q2⟩ := HRx.out w5 (Below.refl _ _)
      have HCall := Lib.hid (fun dr os => reg_of (one_any d x (Go.Sort.grow (redrawn w5 dr) os) (OD5.out.keep (below_regrown w5 dr os)) (HBx.out.keep (below_regrown w5 dr os)) HDx.out))
      have z0 := fun dr os => (HRx.out _ (below_regrown w5 dr os)).1
      have z1 := fun dr os => (HRx.out _ (below_regrown w5 dr os)).2.1
      have z2 := fun dr os => (HRx.out _ (below_regrown w5 dr os)).2.2
      have r_A7 := fun d os => cell_of_block (keepb A7.out (below_regrown w5 d os))
      clear N OD
      refine wp_region_quiet_below (by kernel_rfl) (by kernel_rfl) ?_
      (try simp only [List.append_eq, List.cons_append, List.nil_append])
      repeat (first | go_big_quiet_skip | (go_big_quiet_want; go_big_quiet_op; first | go_big_quiet_on | (apply Exists.intro; refine ⟨fun _ => ?_, ?_⟩; (focus ((first | (go_at_call 14; with_reducible exact HCall.out _ _)))); go_big_quiet_on)))
      refine wpQuiet_nil ?_
      intro _ hw'
      obtain ⟨⟨dq, osq⟩, hw''⟩ := hw'
      subst hw''
      have BQ := Lib.hid (below_regrown w5 dq osq)
      generalize Go.Sort.grow (redrawn w5 dq) osq = wq at BQ ⊢
      clear z0 z1 z2 q0 q1 q2 r_A7 c_A7 f_A7
      go_wp2_with fail
      go_roundw
      case rel => exact ⟨j + 1, by omega, by omega, by go_num, netr_keep N4'.out BQ.out, chain BA.out BQ.out⟩
      case measure => simp [intOf]; omega
    · have hje : j = l.length := by omega
      subst hje
      have t2 : decide ((l.length : Int) < (l.length : Int)) = false := by simp
      have HLn := Lib.hid (show ((l.map Dv.con).drop l.length).length = 0 by rw [hlen]; omega)
      clear hlen
      go_wp2_with fail
      refine (ntake_r _ _ _ _ _ 0 _ HN.out (by simp only; rw [HLn.out]; decide) (by decide)).mono ?_
      rintro e w4 (⟨-, rfl, B4⟩ | ⟨h, -⟩)
      case inr => exfalso; simp only at h; rw [HLn.out] at h; omega
      have N4 := Lib.hid (netr_keep HN.out B4.out)
      have BA := Lib.hid (chain HB.out B4.out)
      go_upto_region 18 with fail
      refine gen_wp (fun w5 => Hid (Below w4.heap.size w4 w5) ∧ True) ⟨Lib.hid (by repeat (first | (with_reducible exact Below.refl _ _) | (with_reducible refine bel_set (by first | omega | (simp; done) | (simp; omega)) ?_) | (with_reducible refine bel_alloc (by first | omega | (simp; done) | (simp; omega)) ?_) | (with_reducible refine bel_drew ?_) | (with_reducible refine bel_drewN ?_ _))), trivial⟩ ?_
      rintro w5 ⟨N, -⟩
      have hl := fun W (h : NetR w.heap.size w1.heap.size (fun b => w.heap.size ≤ b) (fun _ => True) ⟨(l.map Dv.con).drop l.length, (K : Int)⟩ W) => nlen_r _ _ _ _ _ _ h
      simp only [HLn.out] at hl
      have HLen := Lib.hid (hl _ (netr_keep N4.out N.out))
      clear hl
      go_wp2_with fail
      refine HLen.out.mono ?_; rintro e wy ⟨rfl, rfl⟩
      go_wp2_with fail
      go_ret
      exact ⟨rfl, chain BA.out N.out⟩

end Go.Proofs.Ytkgngfjlmkclcaa.lawNetOrder
namespace Go.Proofs.Ytkgngfjlmkclcaa.lawNetOrder
open Go.ChangeShapes Go.WideShapes Go.RowKit
set_option linter.unusedVariables false
theorem own : ownKnob Try.prog.godebug = none := by kernel_rfl
theorem laidOut : laidOutB Try.prog = true := by kernel_rfl
set_option maxRecDepth 100000 in
theorem lifted (os : Os) (started : os.Started) (H : Type) (enc : TypeId × Value → H) :
    ReturnsInHanded {} Try.checked os 5 .any (Rows.netOrderSpec.pre6 enc Try.prog Try.f5 Rows.netOrderRow.domain false) (Rows.netOrderSpec.post enc Try.prog Try.f5 false true false false) := by
  refine returnsInHanded_of_change_sized (C := Try.checked) own started (by kernel_rfl) Try.func5
    (ChangeSpec.witness6 (enc := enc) (C := Try.checked) false ⟨#[], #[.slice none 0 0], []⟩ 8 (by kernel_rfl) (by kernel_rfl) (by kernel_rfl) (by kernel_rfl)) ?_
  intro W base args ds gs before hval0 hW hcnd hsz0 _
  have hsz : (DataW.weightsEach Try.prog (Try.f5.params.toList ++ Rows.netOrderSpec.plain.varTypes Try.prog) (ds ++ gs)).all (· ≤ reachBytes) = true := hsz0
  clear hsz0
  have hval : ∀ (j : Nat) t v, Try.f5.params[j]? = some t → args[j]? = some v → Value.okWide Try.prog W .any base t v := hval0
  have hW' := hW
  obtain ⟨p, q, hA0, hV, rfl, hfz, hnd⟩ := hW
  have hA : DataW.TrodAll enc Try.prog W 0 (fun _ => true) true Try.f5.params.toList args.toList ds p := hA0
  rw [Try.params5] at hA hval hsz
  obtain ⟨v0, vs0, d0, ds0, p0, q0, hargs, rfl, rfl, h0, r0⟩ := trodAll_cons hA
  obtain ⟨rfl, rfl, rfl⟩ := trodAll_nil r0
  obtain rfl : args = #[v0] := by cases args; simp_all
  obtain ⟨rfl, rfl⟩ := trodVars_none hV
  obtain ⟨a0, len0, cap0, rfl⟩ := okWide_slice Try.underlying28 (hval 0 28 v0 rfl rfl)
  have k0 := h0
  have lt0 : ∀ x ∈ p0, x.block < W.heap.size := by obtain ⟨m, hm⟩ := k0; exact DataW.trod_lt m _ _ _ hm
  have fit0 : Nj.Fit Try.prog 28 d0 := fun n hn => by simpa using List.all_eq_true.1 hsz n (DataW.weights_mem_each (j := 0) rfl rfl n hn)
  obtain ⟨z0, y0, w0⟩ : ∃ l : List Nj.Dv, l.length = len0 ∧ Nj.DgsF W (.slice a0 len0 cap0) l := by
    obtain ⟨fuel, hf⟩ := h0
    exact K.open_dgs hf fit0
  clear hA0 hval0
  refine (walk _ z0 W w0).mono fun e W' ⟨he, bel⟩ => ?_
  subst he
  exact ⟨_, rfl, _, _, _, [], _, [], hW', trodAll_mk1 (shut_bool Try.underlying4 _), (trodAll_cons_mk (Below.trod laidOut (by kernel_rfl) (of_decide_eq_true (by kernel_rfl)) k0 bel lt0) trodAll_mk0), rfl, bel.frame _, fun h => by cases h⟩
theorem over : Rows.netOrderRow.holds Try.pinned (OpenSpec.ofChange Rows.netOrderSpec) :=
  OpenClaim.holds_of_wide 5 Try.f5 rfl rfl rfl rfl rfl rfl rfl ⟨rfl, rfl, rfl, rfl, rfl⟩ rfl rfl rfl rfl rfl (by kernel_rfl) Try.func5 (by kernel_rfl)
    (of_decide_eq_true (by kernel_rfl)) (by unfold Func.isWrapper; first | (rw [if_pos (by decide +kernel)]; kernel_rfl) | (rw [if_neg (by decide +kernel)]; exact ⟨rfl, rfl⟩))
    (fun os started H enc _ => lifted os started H enc)
/-- THE STATEMENT -/
theorem proved : Rows.NetOrderSaid := over
end Go.Proofs.Ytkgngfjlmkclcaa.lawNetOrder
#print axioms Go.Proofs.Ytkgngfjlmkclcaa.lawNetOrder.proved

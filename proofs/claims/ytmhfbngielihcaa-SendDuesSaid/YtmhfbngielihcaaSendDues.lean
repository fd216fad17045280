/-
  THE STATEMENT 'Rows.SendDuesSaid': nightjarlaw11.SendDues returns true for every input, and its arguments read afterwards as they read before. No condition.
-/
import Derived.Test.YtmhfbngielihcaaSendRead
import Derived.Test.YtmhfbngielihcaaRows
import Derived.ProofKit
import Derived.OpenShut
import Derived.ShutString
import Derived.ChangeOld
import Derived.Below
set_option linter.unusedVariables false
set_option linter.unusedSimpArgs false
namespace Go.Proofs.Ytmhfbngielihcaa.lawSendDues
open Go Go.RowKit Nj K

theorem due_more {s : Sd} {now later rto longer : Int} (h1 : now ≤ later) (h2 : rto ≤ longer) : (sdDue s now longer).length ≤ (sdDue s later rto).length := by
  unfold sdDue
  rw [List.length_map, List.length_map]
  generalize s.fl = l
  induction l with
  | nil => simp
  | cons f l ih =>
    simp only [List.filter_cons, decide_eq_true_eq]
    split
    · rw [if_pos (by omega)]; simp only [List.length_cons]; omega
    · split <;> (try simp only [List.length_cons]) <;> omega

set_option maxRecDepth 100000 in
set_option maxHeartbeats 4000000 in
theorem walk (n : Int) (v : Value) (c a : Int) (l : List Fl) (now later rto longer : Int) (w : World) (h : Fls w v l) (wn : (Lit.int .i64 n).wf = true) (_ : (Lit.int .i64 now).wf = true) (_ : (Lit.int .i64 later).wf = true) (_ : (Lit.int .i64 rto).wf = true) (_ : (Lit.int .i64 longer).wf = true) :
    Calls Try.prog 6 #[.agg #[.int .i64 n, v, .int .i64 c, .int .i64 a], .int .i64 now, .int .i64 later, .int .i64 rto, .int .i64 longer] w fun e w' => e = .returned (.bool true) ∧ Below w.heap.size w w' := by
  have FS := Lib.hid h
  obtain ⟨hn0, hn1⟩ := wf_i64 wn
  obtain ⟨p, cap, rfl, hcap⟩ := fls_shape h
  clear h wn
  cases hr : sdRight ⟨n, l, c, a⟩ with
  | false =>
    have HR := Lib.hid hr
    clear hr
    go_enter Try.func6, Try.ntmps6
    go_upto_region 1 with fail
    refine gen_wp (fun w1 => Hid (w1.heap[w.heap.size]? = some (.cells #[.int .i64 n, .slice p l.length cap, .int .i64 c, .int .i64 a] 24)) ∧ Hid (Below w.heap.size w w1) ∧ True) ⟨Lib.hid (by first | (simp [World.setCell, Array.getElem?_modify]; done) | (simp [World.setCell, Array.getElem?_modify]; omega) | ((repeat (first | (with_reducible exact heap_new _ _ _ (by first | rfl | (simp; done))) | (with_reducible refine keepa ?_ _) | (simp [World.setCell, Array.getElem?_modify]; done))); done)), Lib.hid (by repeat (first | (with_reducible exact Below.refl _ _) | (with_reducible refine bel_set (by first | omega | (simp; done) | (simp; omega)) ?_) | (with_reducible refine bel_alloc (by first | omega | (simp; done) | (simp; omega)) ?_) | (with_reducible refine bel_drew ?_) | (with_reducible refine bel_drewN ?_ _))), trivial⟩ ?_
    rintro w1 ⟨A1, BA, -⟩
    have c_A1 := cell_of_block A1.out
    have f_A1 := frozen_of_block A1.out
    replace FS := fls_keep FS BA
    go_wp2_with fail
    refine (small11_any _).mono ?_; rintro e w2 ⟨rfl, B2⟩
    replace A1 := Lib.hid (keepb A1.out B2.out)
    replace c_A1 := cell_of_block A1.out
    replace f_A1 := frozen_of_block A1.out
    replace FS := fls_keep FS B2
    replace BA := Lib.hid (chain BA.out B2.out)
    go_wp2_with fail
    refine (sright_at _ _ _ _ _ _ _ FS.out hn1 HR.out).mono ?_; rintro e w3 ⟨rfl, B3⟩
    replace A1 := Lib.hid (keepb A1.out B3.out)
    replace c_A1 := cell_of_block A1.out
    replace f_A1 := frozen_of_block A1.out
    replace FS := fls_keep FS B3
    replace BA := Lib.hid (chain BA.out B3.out)
    clear B2 B3
    go_wp2_with fail
    go_ret
    exact ⟨rfl, BA.out⟩
  | true =>
    have HR := Lib.hid hr
    have HP := Lib.hid (rightSd hr)
    clear hr
    have hl8 : l.length ≤ 8 := HP.out.len
    by_cases hbad : now < 0 ∨ later < now ∨ 1099511627776 < later ∨ rto < 0 ∨ longer < rto ∨ 1099511627776 < longer
    · have HBad := Lib.hid hbad
      clear hbad
      go_enter Try.func6, Try.ntmps6
      go_upto_region 1 with fail
      refine gen_wp (fun w1 => Hid (w1.heap[w.heap.size]? = some (.cells #[.int .i64 n, .slice p l.length cap, .int .i64 c, .int .i64 a] 24)) ∧ Hid (Below w.heap.size w w1) ∧ True) ⟨Lib.hid (by first | (simp [World.setCell, Array.getElem?_modify]; done) | (simp [World.setCell, Array.getElem?_modify]; omega) | ((repeat (first | (with_reducible exact heap_new _ _ _ (by first | rfl | (simp; done))) | (with_reducible refine keepa ?_ _) | (simp [World.setCell, Array.getElem?_modify]; done))); done)), Lib.hid (by repeat (first | (with_reducible exact Below.refl _ _) | (with_reducible refine bel_set (by first | omega | (simp; done) | (simp; omega)) ?_) | (with_reducible refine bel_alloc (by first | omega | (simp; done) | (simp; omega)) ?_) | (with_reducible refine bel_drew ?_) | (with_reducible refine bel_drewN ?_ _))), trivial⟩ ?_
      rintro w1 ⟨A1, BA, -⟩
      have c_A1 := cell_of_block A1.out
      have f_A1 := frozen_of_block A1.out
      replace FS := fls_keep FS BA
      go_wp2_with fail
      refine (small11_any _).mono ?_; rintro e w2 ⟨rfl, B2⟩
      replace A1 := Lib.hid (keepb A1.out B2.out)
      replace c_A1 := cell_of_block A1.out
      replace f_A1 := frozen_of_block A1.out
      replace FS := fls_keep FS B2
      replace BA := Lib.hid (chain BA.out B2.out)
      go_wp2_with fail
      refine (sright_at _ _ _ _ _ _ _ FS.out hn1 HR.out).mono ?_; rintro e w3 ⟨rfl, B3⟩
      replace A1 := Lib.hid (keepb A1.out B3.out)
      replace c_A1 := cell_of_block A1.out
      replace f_A1 := frozen_of_block A1.out
      replace FS := fls_keep FS B3
      replace BA := Lib.hid (chain BA.out B3.out)
      clear B2 B3
      go_wp2_with fail
      all_goals first
        | (go_ret; exact ⟨rfl, BA.out⟩)
        | (exfalso; have := HBad.out; omega)
    · obtain ⟨e1, e2, e3, e4, e5, e6⟩ : 0 ≤ now ∧ now ≤ later ∧ later ≤ 1099511627776 ∧ 0 ≤ rto ∧ rto ≤ longer ∧ longer ≤ 1099511627776 := by omega
      clear hbad
      have HF := Lib.hid (show ∀ f ∈ l, 0 ≤ f.at_ ∧ f.at_ ≤ 1099511627776 from fun f hf => by have := HP.out.fl f hf; omega)
      obtain ⟨D, hD⟩ : ∃ D : Nat → List Int, ∀ k, D k = ((l.take k).filter fun f => decide (f.at_ + rto ≤ now)).map (·.seq) := ⟨_, fun _ => rfl⟩
      have HD := Lib.hid hD
      obtain ⟨aL, haL⟩ : ∃ aL, aL = sdDue ⟨n, l, c, a⟩ now rto := ⟨_, rfl⟩
      have HAL := Lib.hid haL
      have hal : aL.length ≤ 8 := by rw [haL]; unfold sdDue; rw [List.length_map]; exact Nat.le_trans (List.length_filter_le _ _) hl8
      have HDE := Lib.hid (show D l.length = aL by rw [hD, List.take_length, haL]; rfl)
      obtain ⟨x, hx⟩ : ∃ x, x = (sdDue ⟨n, l, c, a⟩ later rto).length := ⟨_, rfl⟩
      obtain ⟨y, hy⟩ : ∃ y, y = (sdDue ⟨n, l, c, a⟩ now longer).length := ⟨_, rfl⟩
      have hxa : aL.length ≤ x := by rw [haL, hx]; exact due_more e2 (Int.le_refl _)
      have hya : y ≤ aL.length := by rw [haL, hy]; exact due_more (Int.le_refl _) e5
      have HX := Lib.hid hx
      have HY := Lib.hid hy
      clear hD haL hx hy
      go_enter Try.func6, Try.ntmps6
      go_upto_region 1 with fail
      refine gen_wp (fun w1 => Hid (w1.heap[w.heap.size]? = some (.cells #[.int .i64 n, .slice p l.length cap, .int .i64 c, .int .i64 a] 24)) ∧ Hid (Below w.heap.size w w1) ∧ True) ⟨Lib.hid (by first | (simp [World.setCell, Array.getElem?_modify]; done) | (simp [World.setCell, Array.getElem?_modify]; omega) | ((repeat (first | (with_reducible exact heap_new _ _ _ (by first | rfl | (simp; done))) | (with_reducible refine keepa ?_ _) | (simp [World.setCell, Array.getElem?_modify]; done))); done)), Lib.hid (by repeat (first | (with_reducible exact Below.refl _ _) | (with_reducible refine bel_set (by first | omega | (simp; done) | (simp; omega)) ?_) | (with_reducible refine bel_alloc (by first | omega | (simp; done) | (simp; omega)) ?_) | (with_reducible refine bel_drew ?_) | (with_reducible refine bel_drewN ?_ _))), trivial⟩ ?_
      rintro w1 ⟨A1, BA, -⟩
      have c_A1 := cell_of_block A1.out
      have f_A1 := frozen_of_block A1.out
      replace FS := fls_keep FS BA
      go_wp2_with fail
      refine (small11_any _).mono ?_; rintro e w2 ⟨rfl, B2⟩
      replace A1 := Lib.hid (keepb A1.out B2.out)
      replace c_A1 := cell_of_block A1.out
      replace f_A1 := frozen_of_block A1.out
      replace FS := fls_keep FS B2
      replace BA := Lib.hid (chain BA.out B2.out)
      go_wp2_with fail
      refine (sright_at _ _ _ _ _ _ _ FS.out hn1 HR.out).mono ?_; rintro e w3 ⟨rfl, B3⟩
      replace A1 := Lib.hid (keepb A1.out B3.out)
      replace c_A1 := cell_of_block A1.out
      replace f_A1 := frozen_of_block A1.out
      replace FS := fls_keep FS B3
      replace BA := Lib.hid (chain BA.out B3.out)
      clear B2 B3
      go_wp2_with fail
      refine (sdue_any n _ c a l now rto _ FS.out (by omega) HF.out ⟨e4, by omega⟩).mono ?_; rintro e w4 ⟨pa, capa, rfl, I4, B4⟩
      rw [← HAL.out] at I4 ⊢
      replace A1 := Lib.hid (keepb A1.out B4.out)
      replace c_A1 := cell_of_block A1.out
      replace f_A1 := frozen_of_block A1.out
      replace FS := fls_keep FS B4
      replace BA := Lib.hid (chain BA.out B4.out)
      clear B4
      have hcapa : aL.length ≤ capa := by obtain ⟨_, _, _, e, hc, _⟩ := I4.out; injection e with e1 e2 e3; omega
      go_wp2_with fail
      go_loopw [13, 14] (fun kv i wr => ∃ k d : Nat, k ≤ l.length ∧ i = .int .i64 k ∧ kv = .int .i64 d ∧ d = (D k).length ∧ (D k) = aL.take d ∧ Below w4.heap.size w4 wr) (fun _ i _ => l.length - (intOf i).toNat)
      case atStart => exact ⟨0, 0, by omega, rfl, rfl, by rw [HD.out]; rfl, by rw [HD.out]; rfl, Below.refl _ _⟩
      case round =>
        obtain ⟨k, d, hk, rfl, rfl, hd, hda, hwb⟩ := hrel
        have HW := Lib.hid hwb
        have HDd := Lib.hid hd
        have HDa := Lib.hid hda
        clear hwb hd hda
        have A1r := Lib.hid (keepb A1.out HW.out)
        clear c_A1 f_A1
        have c_A1r := cell_of_block A1r.out
        have f_A1r := frozen_of_block A1r.out
        by_cases hlt : k < l.length
        · obtain ⟨b, o, rfl, _⟩ := FS.out.open (by omega)
          obtain ⟨f, hf⟩ : ∃ f, f = l[k] := ⟨_, rfl⟩
          obtain ⟨c0, c1, c2, c3, c4, c5, c6⟩ := fls_row FS HW.out k hlt f hf
          obtain ⟨f0, f1⟩ := HF.out f (by rw [hf]; simp)
          have HFk := Lib.hid hf
          have t1 : (k : Int) < (l.length : Int) := by omega
          have t2 : (0 : Int) ≤ (k : Int) := by omega
          clear hf
          by_cases hu : f.at_ + rto ≤ now
          · have HDs := Lib.hid (show D (k + 1) = D k ++ [f.seq] by
              have := due_yes (s := ⟨0, l, 0, 0⟩) (now := now) (rto := rto) hlt (by rw [← HFk.out]; exact hu)
              rw [HD.out, HD.out, HFk.out]; exact this)
            have HPre := Lib.hid (show D (k + 1) = aL.take (d + 1) ∧ ∃ h : d < aL.length, aL[d] = f.seq by
              have hp : D (k + 1) <+: aL := by
                rw [← HDE.out, HD.out, HD.out]
                exact ((List.take_prefix_take_left (by omega)).filter _).map _
              rw [HDs.out] at hp
              obtain ⟨t, ht⟩ := hp
              have hdl : (D k).length = d := HDd.out.symm
              have e : aL = D k ++ (f.seq :: t) := by rw [← ht]; simp
              have hlt' : d < aL.length := by rw [e]; simp; omega
              refine ⟨?_, hlt', ?_⟩
              · rw [HDs.out, e, List.take_append, hdl, show d + 1 - d = 1 by omega, List.take_of_length_le (by omega)]; simp
              · have : aL[d]? = some f.seq := by rw [e, List.getElem?_append_right (by omega), hdl, Nat.sub_self]; rfl
                rw [List.getElem?_eq_getElem hlt'] at this; simpa using this)
            obtain ⟨hdl, hds⟩ := HPre.out.2
            obtain ⟨pb, po, hpe, hcell⟩ := (I4.out.keep HW.out).atp d hdl
            rw [hds] at hcell
            subst hpe
            have t3 := dec_f (show ¬ (aL.length : Int) ≤ (d : Int) by omega)
            have t4 : (d : Int) < (aL.length : Int) := by omega
            have t5 : (0 : Int) ≤ (d : Int) := by omega
            clear hds
            go_wp2_with fail
            go_quiet (fail)
            go_wp2_with fail
            go_roundw
            case rel => exact ⟨k + 1, d + 1, by omega, by go_num, by go_num, by rw [HDs.out]; simp; exact HDd.out, HPre.out.1, bel_drewN HW.out _⟩
            case measure => simp [intOf]; omega
          · have HDs := Lib.hid (show D (k + 1) = D k by
              have := due_no (s := ⟨0, l, 0, 0⟩) (now := now) (rto := rto) hlt (by rw [← HFk.out]; exact hu)
              rw [HD.out, HD.out]; exact this)
            go_wp2_with fail
            go_roundw
            case rel => exact ⟨k + 1, d, by omega, by go_num, rfl, by rw [HDs.out]; exact HDd.out, by rw [HDs.out]; exact HDa.out, HW.out⟩
            case measure => simp [intOf]; omega
        · have hke : k = l.length := by omega
          subst hke
          have t1 : decide ((l.length : Int) < (l.length : Int)) = false := by simp
          have hd : d = aL.length := by rw [HDd.out, HDE.out]
          subst hd
          have BAr := Lib.hid (chain BA.out HW.out)
          have FSr := Lib.hid (FS.out.keep (by decide) HW.out)
          have t2 : (aL.length : Int) ≤ (x : Int) := by omega
          have t3 : (y : Int) ≤ (aL.length : Int) := by omega
          go_wp2_with fail
          refine (sdue_any n _ c a l later rto _ FSr.out (by omega) HF.out ⟨e4, by omega⟩).mono ?_; rintro e w5 ⟨p5, cap5, rfl, -, B5⟩
          rw [← HX.out]
          replace A1r := Lib.hid (keepb A1r.out B5.out)
          replace c_A1r := cell_of_block A1r.out
          replace f_A1r := frozen_of_block A1r.out
          replace FSr := fls_keep FSr B5
          replace BAr := Lib.hid (chain BAr.out B5.out)
          go_wp2_with fail
          refine (sdue_any n _ c a l now longer _ FSr.out (by omega) HF.out ⟨by omega, by omega⟩).mono ?_; rintro e w6 ⟨p6, cap6, rfl, -, B6⟩
          rw [← HY.out]
          replace BAr := Lib.hid (chain BAr.out B6.out)
          go_wp2_with fail
          go_ret
          exact ⟨rfl, BAr.out⟩

end Go.Proofs.Ytmhfbngielihcaa.lawSendDues
namespace Go.Proofs.Ytmhfbngielihcaa.lawSendDues
open Go.ChangeShapes Go.WideShapes Go.RowKit
set_option linter.unusedVariables false
theorem own : ownKnob Try.prog.godebug = none := by kernel_rfl
theorem laidOut : laidOutB Try.prog = true := by kernel_rfl
set_option maxRecDepth 100000 in
theorem lifted (os : Os) (started : os.Started) (H : Type) (enc : TypeId × Value → H) :
    ReturnsInHanded {} Try.checked os 6 .any (Rows.sendDuesSpec.pre6 enc Try.prog Try.f6 Rows.sendDuesRow.domain false) (Rows.sendDuesSpec.post enc Try.prog Try.f6 false true false false) := by
  refine returnsInHanded_of_change (C := Try.checked) own started (by kernel_rfl) Try.func6
    (ChangeSpec.witness6 (enc := enc) (C := Try.checked) false ⟨#[], #[.agg #[.int .i64 0, .slice none 0 0, .int .i64 0, .int .i64 0], .int .i64 0, .int .i64 0, .int .i64 0, .int .i64 0], []⟩ 8 (by kernel_rfl) (by kernel_rfl) (by kernel_rfl) (by kernel_rfl)) ?_
  intro W base args ds gs before hval0 hW hcnd _
  have hval : ∀ (j : Nat) t v, Try.f6.params[j]? = some t → args[j]? = some v → Value.okWide Try.prog W .any base t v := hval0
  have hW' := hW
  obtain ⟨p, q, hA0, hV, rfl, hfz, hnd⟩ := hW
  have hA : DataW.TrodAll enc Try.prog W 0 (fun _ => true) true Try.f6.params.toList args.toList ds p := hA0
  rw [Try.params6] at hA hval
  obtain ⟨v0, vs0, d0, ds0, p0, q0, hargs, rfl, rfl, h0, r0⟩ := trodAll_cons hA
  obtain ⟨v1, vs1, d1, ds1, p1, q1, rfl, rfl, rfl, h1, r1⟩ := trodAll_cons r0
  obtain ⟨v2, vs2, d2, ds2, p2, q2, rfl, rfl, rfl, h2, r2⟩ := trodAll_cons r1
  obtain ⟨v3, vs3, d3, ds3, p3, q3, rfl, rfl, rfl, h3, r3⟩ := trodAll_cons r2
  obtain ⟨v4, vs4, d4, ds4, p4, q4, rfl, rfl, rfl, h4, r4⟩ := trodAll_cons r3
  obtain ⟨rfl, rfl, rfl⟩ := trodAll_nil r4
  obtain rfl : args = #[v0, v1, v2, v3, v4] := by cases args; simp_all
  obtain ⟨rfl, rfl⟩ := trodVars_none hV
  obtain ⟨n0, u0, c0, b0, z0, rfl, f0, w0, -, -⟩ := K.open_sd_arg (hval 0 24 v0 rfl rfl) h0
  have k0 := h0
  have lt0 : ∀ x ∈ p0, x.block < W.heap.size := by obtain ⟨m, hm⟩ := k0; exact DataW.trod_lt m _ _ _ hm
  obtain ⟨a1, rfl, rfl, rfl, w1⟩ := open_int Try.underlying3 (hval 1 3 v1 rfl rfl) h1
  obtain ⟨a2, rfl, rfl, rfl, w2⟩ := open_int Try.underlying3 (hval 2 3 v2 rfl rfl) h2
  obtain ⟨a3, rfl, rfl, rfl, w3⟩ := open_int Try.underlying3 (hval 3 3 v3 rfl rfl) h3
  obtain ⟨a4, rfl, rfl, rfl, w4⟩ := open_int Try.underlying3 (hval 4 3 v4 rfl rfl) h4
  clear hA0 hval0
  refine (walk n0 u0 c0 b0 z0 a1 a2 a3 a4 W f0 w0 w1 w2 w3 w4).mono fun e W' ⟨he, bel⟩ => ?_
  subst he
  exact ⟨_, rfl, _, _, _, [], _, [], hW', trodAll_mk1 (shut_bool Try.underlying4 _), (trodAll_cons_mk (Below.trod laidOut (by kernel_rfl) (of_decide_eq_true (by kernel_rfl)) k0 bel lt0) (trodAll_cons_mk (shut_int Try.underlying3 w1) (trodAll_cons_mk (shut_int Try.underlying3 w2) (trodAll_cons_mk (shut_int Try.underlying3 w3) (trodAll_cons_mk (shut_int Try.underlying3 w4) trodAll_mk0))))), rfl, bel.frame _, fun h => by cases h⟩
theorem over : Rows.sendDuesRow.holds Try.pinned (OpenSpec.ofChange Rows.sendDuesSpec) :=
  OpenClaim.holds_of_wide 6 Try.f6 rfl rfl rfl rfl rfl rfl rfl ⟨rfl, rfl, rfl, rfl, rfl⟩ rfl rfl rfl rfl rfl (by kernel_rfl) Try.func6 (by kernel_rfl)
    (of_decide_eq_true (by kernel_rfl)) (by unfold Func.isWrapper; first | (rw [if_pos (by decide +kernel)]; kernel_rfl) | (rw [if_neg (by decide +kernel)]; exact ⟨rfl, rfl⟩))
    (fun os started H enc _ => lifted os started H enc)
/-- THE STATEMENT -/
theorem proved : Rows.SendDuesSaid := over
end Go.Proofs.Ytmhfbngielihcaa.lawSendDues
#print axioms Go.Proofs.Ytmhfbngielihcaa.lawSendDues.proved

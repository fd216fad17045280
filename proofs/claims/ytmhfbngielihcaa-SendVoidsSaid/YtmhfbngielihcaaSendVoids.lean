/-
  THE STATEMENT 'Rows.SendVoidsSaid': nightjarlaw11.SendVoids returns true for every input, and its arguments read afterwards as they read before. No condition.
-/
import Derived.Test.YtmhfbngielihcaaSendRead
import Derived.Test.YtmhfbngielihcaaRows
import Derived.ProofKit
import Derived.OpenShut
import Derived.ShutString
import Derived.ChangeOld
import Derived.Below
set_option linter.unusedVariables false
set_option linter.unusedSimpArgs false
namespace Go.Proofs.Ytmhfbngielihcaa.lawSendVoids
open Go Go.RowKit Nj K

theorem void_twice (user : Int) (l : List Fl) : (l.map (flVoid user)).map (flVoid user) = l.map (flVoid user) := by
  rw [List.map_map]
  refine List.map_congr_left fun f _ => ?_
  simp only [Function.comp, flVoid]
  by_cases h : f.note.user = user
  · simp only [h, if_true]
    split <;> rfl
  · simp only [h, if_false]

set_option maxRecDepth 100000 in
set_option maxHeartbeats 4000000 in
theorem walk (n : Int) (v : Value) (c a : Int) (l : List Fl) (user : Int) (w : World) (h : Fls w v l) (wn : (Lit.int .i64 n).wf = true) (_ : (Lit.int .i64 user).wf = true) :
    Calls Try.prog 9 #[.agg #[.int .i64 n, v, .int .i64 c, .int .i64 a], .int .i64 user] w fun e w' => e = .returned (.bool true) ∧ Below w.heap.size w w' := by
  have FS := Lib.hid h
  obtain ⟨hn0, hn1⟩ := wf_i64 wn
  obtain ⟨p, cap, rfl, hcap⟩ := fls_shape h
  clear h wn
  cases hr : sdRight ⟨n, l, c, a⟩ with
  | false =>
    have HR := Lib.hid hr
    clear hr
    go_enter Try.func9, Try.ntmps9
    go_upto_region 1 with fail
    refine gen_wp (fun w1 => Hid (w1.heap[w.heap.size]? = some (.cells #[.int .i64 n, .slice p l.length cap, .int .i64 c, .int .i64 a] 24)) ∧ Hid (Below w.heap.size w w1) ∧ True) ⟨Lib.hid (by first | (simp [World.setCell, Array.getElem?_modify]; done) | (simp [World.setCell, Array.getElem?_modify]; omega) | ((repeat (first | (with_reducible exact heap_new _ _ _ (by first | rfl | (simp; done))) | (with_reducible refine keepa ?_ _) | (simp [World.setCell, Array.getElem?_modify]; done))); done)), Lib.hid (by repeat (first | (with_reducible exact Below.refl _ _) | (with_reducible refine bel_set (by first | omega | (simp; done) | (simp; omega)) ?_) | (with_reducible refine bel_alloc (by first | omega | (simp; done) | (simp; omega)) ?_) | (with_reducible refine bel_drew ?_) | (with_reducible refine bel_drewN ?_ _))), trivial⟩ ?_
    rintro w1 ⟨A1, BA, -⟩
    have c_A1 := cell_of_block A1.out
    have f_A1 := frozen_of_block A1.out
    replace FS := fls_keep FS BA
    go_wp2_with fail
    refine (small11_any _).mono ?_; rintro e w2 ⟨rfl, B2⟩
    replace A1 := Lib.hid (keepb A1.out B2.out)
    replace c_A1 := cell_of_block A1.out
    replace f_A1 := frozen_of_block A1.out
    replace FS := fls_keep FS B2
    replace BA := Lib.hid (chain BA.out B2.out)
    go_wp2_with fail
    refine (sright_at _ _ _ _ _ _ _ FS.out hn1 HR.out).mono ?_; rintro e w3 ⟨rfl, B3⟩
    replace A1 := Lib.hid (keepb A1.out B3.out)
    replace c_A1 := cell_of_block A1.out
    replace f_A1 := frozen_of_block A1.out
    replace FS := fls_keep FS B3
    replace BA := Lib.hid (chain BA.out B3.out)
    clear B2 B3
    go_wp2_with fail
    go_ret
    exact ⟨rfl, BA.out⟩
  | true =>
    have HR := Lib.hid hr
    have HP := Lib.hid (rightSd hr)
    clear hr
    have hl8 : l.length ≤ 8 := HP.out.len
    go_enter Try.func9, Try.ntmps9
    go_upto_region 1 with fail
    refine gen_wp (fun w1 => Hid (w1.heap[w.heap.size]? = some (.cells #[.int .i64 n, .slice p l.length cap, .int .i64 c, .int .i64 a] 24)) ∧ Hid (Below w.heap.size w w1) ∧ True) ⟨Lib.hid (by first | (simp [World.setCell, Array.getElem?_modify]; done) | (simp [World.setCell, Array.getElem?_modify]; omega) | ((repeat (first | (with_reducible exact heap_new _ _ _ (by first | rfl | (simp; done))) | (with_reducible refine keepa ?_ _) | (simp [World.setCell, Array.getElem?_modify]; done))); done)), Lib.hid (by repeat (first | (with_reducible exact Below.refl _ _) | (with_reducible refine bel_set (by first | omega | (simp; done) | (simp; omega)) ?_) | (with_reducible refine bel_alloc (by first | omega | (simp; done) | (simp; omega)) ?_) | (with_reducible refine bel_drew ?_) | (with_reducible refine bel_drewN ?_ _))), trivial⟩ ?_
    rintro w1 ⟨A1, BA, -⟩
    have c_A1 := cell_of_block A1.out
    have f_A1 := frozen_of_block A1.out
    replace FS := fls_keep FS BA
    go_wp2_with fail
    refine (small11_any _).mono ?_; rintro e w2 ⟨rfl, B2⟩
    replace A1 := Lib.hid (keepb A1.out B2.out)
    replace c_A1 := cell_of_block A1.out
    replace f_A1 := frozen_of_block A1.out
    replace FS := fls_keep FS B2
    replace BA := Lib.hid (chain BA.out B2.out)
    go_wp2_with fail
    refine (sright_at _ _ _ _ _ _ _ FS.out hn1 HR.out).mono ?_; rintro e w3 ⟨rfl, B3⟩
    replace A1 := Lib.hid (keepb A1.out B3.out)
    replace c_A1 := cell_of_block A1.out
    replace f_A1 := frozen_of_block A1.out
    replace FS := fls_keep FS B3
    replace BA := Lib.hid (chain BA.out B3.out)
    clear B2 B3
    go_wp2_with fail
    refine (svoid_any n _ c a l user _ FS.out (by omega)).mono ?_; rintro e w4 ⟨p4, cap4, rfl, O4, B4⟩
    replace A1 := Lib.hid (keepb A1.out B4.out)
    replace c_A1 := cell_of_block A1.out
    replace f_A1 := frozen_of_block A1.out
    replace FS := fls_keep FS B4
    replace BA := Lib.hid (chain BA.out B4.out)
    obtain ⟨m, hm⟩ : ∃ m, m = l.map (flVoid user) := ⟨_, rfl⟩
    have hml : m.length = l.length := by rw [hm]; simp
    have FT : Hid (Fls w4 (.slice p4 l.length cap4) m) := Lib.hid (by have := O4.out.sl; unfold Fls; rw [hml]; rw [show (sdVoid ⟨n, l, c, a⟩ user).fl = m by rw [hm]; rfl, hml] at this; exact this)
    simp only [sdVoid, List.length_map]
    have HM := Lib.hid hm
    have HML := Lib.hid hml
    have hcap4 : l.length ≤ cap4 := by obtain ⟨_, _, e, h⟩ := fls_shape FT.out; injection e with e1 e2 e3; omega
    clear hm hml B4 O4
    go_upto_region 5 with fail
    refine gen_wp (fun w5 => Hid (Below w4.heap.size w4 w5) ∧ Hid (w5.heap[w4.heap.size]? = some (.cells #[.int .i64 n, .slice p4 l.length cap4, .int .i64 c, .int .i64 a] 24)) ∧ True) ⟨Lib.hid (by repeat (first | (with_reducible exact Below.refl _ _) | (with_reducible refine bel_set (by first | omega | (simp; done) | (simp; omega)) ?_) | (with_reducible refine bel_alloc (by first | omega | (simp; done) | (simp; omega)) ?_) | (with_reducible refine bel_drew ?_) | (with_reducible refine bel_drewN ?_ _))), Lib.hid (by first | (simp [World.setCell, Array.getElem?_modify, A1.out]; done) | (simp [World.setCell, Array.getElem?_modify, A1.out]; omega) | ((repeat (first | (with_reducible exact A1.out) | (with_reducible exact heap_new _ _ _ (by first | rfl | (simp; done))) | (with_reducible refine keepa ?_ _) | (simp [World.setCell, Array.getElem?_modify, A1.out]; done))); done)), trivial⟩ ?_
    clear c_A1 f_A1
    rintro w5 ⟨N, A6, -⟩
    have c_A6 := cell_of_block A6.out
    have f_A6 := frozen_of_block A6.out
    replace A1 := Lib.hid (keepb A1.out N.out)
    replace c_A1 := cell_of_block A1.out
    replace f_A1 := frozen_of_block A1.out
    replace FS := fls_keep FS N
    replace FT := fls_keep FT N
    replace BA := Lib.hid (chain BA.out N.out)
    clear N
    go_wp2_with fail
    go_loopw [7] (fun i wr => ∃ k : Nat, k ≤ l.length ∧ i = .int .i64 k ∧ Below w5.heap.size w5 wr) (fun i _ => l.length - (intOf i).toNat)
    case atStart => exact ⟨0, by omega, rfl, Below.refl _ _⟩
    case round =>
      obtain ⟨k, hk, rfl, hwb⟩ := hrel
      have HW := Lib.hid hwb
      clear hwb
      have A1r := Lib.hid (keepb A1.out HW.out)
      have A6r := Lib.hid (keepb A6.out HW.out)
      clear c_A1 f_A1 c_A6 f_A6
      have c_A1r := cell_of_block A1r.out
      have f_A1r := frozen_of_block A1r.out
      have c_A6r := cell_of_block A6r.out
      have f_A6r := frozen_of_block A6r.out
      by_cases hlt : k < l.length
      · obtain ⟨b, o, rfl, _⟩ := FS.out.open (by omega)
        obtain ⟨b4, o4, rfl, _⟩ := FT.out.open (by omega)
        obtain ⟨f, hf⟩ : ∃ f, f = l[k] := ⟨_, rfl⟩
        obtain ⟨c0, c1, c2, c3, c4, c5, c6⟩ := fls_row FS HW.out k hlt f hf
        have HF := Lib.hid hf
        have hkm : k < m.length := by have := HML.out; omega
        have HG := Lib.hid (show m[k] = flVoid user f by rw [hf]; have := HM.out; subst this; simp)
        have t1 : (k : Int) < (l.length : Int) := by omega
        have t2 : (0 : Int) ≤ (k : Int) := by omega
        clear hf
        go_upto_region 11 with fail
        refine gen_wp (fun w6 => Hid (Below wr.heap.size wr w6) ∧ Hid (w6.heap[wr.heap.size]? = some (.cells #[.int .i64 f.seq, .int .i64 f.note.user, .int .i64 f.note.ver, .int .i64 f.note.stat, .int .i64 f.note.cnt, .int .i64 f.at_, .int .i64 f.tries] 34)) ∧ True) ⟨Lib.hid (by repeat (first | (with_reducible exact Below.refl _ _) | (with_reducible refine bel_set (by first | omega | (simp; done) | (simp; omega)) ?_) | (with_reducible refine bel_alloc (by first | omega | (simp; done) | (simp; omega)) ?_) | (with_reducible refine bel_drew ?_) | (with_reducible refine bel_drewN ?_ _))), Lib.hid (by first | (simp [World.setCell, Array.getElem?_modify, A1r.out, A6r.out]; done) | (simp [World.setCell, Array.getElem?_modify, A1r.out, A6r.out]; omega) | ((repeat (first | (with_reducible exact A1r.out) | (with_reducible exact A6r.out) | (with_reducible exact heap_new _ _ _ (by first | rfl | (simp; done))) | (with_reducible refine keepa ?_ _) | (simp [World.setCell, Array.getElem?_modify, A1r.out, A6r.out]; done))); done)), trivial⟩ ?_
        clear c_A1r f_A1r c_A6r f_A6r
        rintro w6 ⟨N, AF, -⟩
        have c_AF := cell_of_block AF.out
        have f_AF := frozen_of_block AF.out
        clear c0 c1 c2 c3 c4 c5 c6
        replace A1r := Lib.hid (keepb A1r.out N.out)
        replace c_A1r := cell_of_block A1r.out
        replace f_A1r := frozen_of_block A1r.out
        replace A6r := Lib.hid (keepb A6r.out N.out)
        replace c_A6r := cell_of_block A6r.out
        replace f_A6r := frozen_of_block A6r.out
        have HW6 := Lib.hid (chain HW.out N.out)
        clear N
        by_cases hu : f.note.user = user
        · have t3 : (f.note.user == user) = true := by simpa using hu
          have hz := HW.out.size
          go_upto_region 13 with fail
          refine gen_wp (fun w7 => Hid (Below w5.heap.size w5 w7) ∧ Hid (w7.heap[wr.heap.size]? = some (.cells #[.int .i64 f.seq, .int .i64 0, .int .i64 0, .int .i64 0, .int .i64 0, .int .i64 f.at_, .int .i64 f.tries] 34)) ∧ True) ⟨Lib.hid (by have hbsz := Below.size (HW6.out); repeat (first | (with_reducible exact HW6.out) | (with_reducible refine bel_set (by first | omega | (simp; done) | (simp; omega)) ?_) | (with_reducible refine bel_alloc (by first | omega | (simp; done) | (simp; omega)) ?_) | (with_reducible refine bel_drew ?_) | (with_reducible refine bel_drewN ?_ _))), Lib.hid (by first | (simp [World.setCell, Array.getElem?_modify, AF.out]; done) | (simp [World.setCell, Array.getElem?_modify, AF.out]; omega) | ((repeat (first | (with_reducible exact AF.out) | (with_reducible exact heap_new _ _ _ (by first | rfl | (simp; done))) | (with_reducible refine keepa ?_ _) | (simp [World.setCell, Array.getElem?_modify, AF.out]; done))); done)), trivial⟩ ?_
          clear c_AF f_AF
          rintro w7 ⟨HW7, AF, -⟩
          have c_AF := cell_of_block AF.out
          have f_AF := frozen_of_block AF.out
          clear c_A1r f_A1r c_A6r f_A6r
          have A6s := Lib.hid (keepb A6.out HW7.out)
          have c_A6s := cell_of_block A6s.out
          have f_A6s := frozen_of_block A6s.out
          obtain ⟨d0, d1, d2, d3, d4, d5, d6⟩ := fls_row FT HW7.out k hkm ⟨f.seq, nt0, f.at_, f.tries⟩ (by rw [HG.out, flVoid, if_pos hu])
          simp only [nt0] at d0 d1 d2 d3 d4 d5 d6
          go_quiet (fail)
          go_wp2_with fail
          go_roundw
          case rel => exact ⟨k + 1, by omega, by go_num, bel_drewN HW7.out _⟩
          case measure => simp [intOf]; omega
        · have t3 : (f.note.user == user) = false := by simpa using hu
          obtain ⟨d0, d1, d2, d3, d4, d5, d6⟩ := fls_row FT HW6.out k hkm f (by rw [HG.out, flVoid, if_neg hu])
          go_wp2_with fail
          go_quiet (fail)
          go_wp2_with fail
          go_roundw
          case rel => exact ⟨k + 1, by omega, by go_num, bel_drewN HW6.out _⟩
          case measure => simp [intOf]; omega
      · have hke : k = l.length := by omega
        subst hke
        have t1 : decide ((l.length : Int) < (l.length : Int)) = false := by simp
        have HTT := Lib.hid (show m.map (flVoid user) = m by rw [HM.out]; exact void_twice user l)
        have BAr := Lib.hid (chain BA.out HW.out)
        have FTr := Lib.hid (FT.out.keep (by decide) HW.out)
        have hm8 : m.length ≤ 8 := by have := HML.out; omega
        have HCV := Lib.hid (fun W (hW : Fls W (.slice p4 l.length cap4) m) => svoid_any n _ c a m user W hW (by omega))
        clear f_A1r f_A6r
        go_upto_region 15 with fail
        have k0 := c_A1r 0
        have k1 := c_A1r 1
        have k2 := c_A1r 2
        have k3 := c_A1r 3
        have j0 := c_A6r 0
        have j1 := c_A6r 1
        have j2 := c_A6r 2
        have j3 := c_A6r 3
        simp only [List.getElem?_toArray, List.getElem?_cons_zero, List.getElem?_cons_succ] at k0 k1 k2 k3 j0 j1 j2 j3
        clear c_A1r c_A6r
        go_region_held3 (fun w' => w'.cell? ⟨w.heap.size, 0, none⟩ = some (.int .i64 n) ∧ w'.cell? ⟨w.heap.size, 2, none⟩ = some (.int .i64 c) ∧ w'.cell? ⟨w4.heap.size, 0, none⟩ = some (.int .i64 n) ∧ w'.cell? ⟨w4.heap.size, 1, none⟩ = some (.slice p4 l.length cap4) ∧ w'.cell? ⟨w4.heap.size, 2, none⟩ = some (.int .i64 c) ∧ w'.cell? ⟨w4.heap.size, 3, none⟩ = some (.int .i64 a)) (go_keep)
          ((first
            | (go_at_call 18; refine (HCV.out _ (show Fls wr.drew _ _ from FTr.out)).mono ?_; rintro e w8 ⟨p8, cap8, rfl, O8, B8⟩; have q1 := cell_of_block (keepb (w := wr.drew) A1r.out B8.out); have q6 := cell_of_block (keepb (w := wr.drew) A6r.out B8.out); have F8 : Hid (Fls w8 (.slice p8 l.length cap8) m) := Lib.hid (by have := O8.out.sl; rw [show (sdVoid ⟨n, m, c, a⟩ user).fl = m from HTT.out, HML.out] at this; unfold Fls; rw [HML.out]; exact this); have FT8 : Hid (Fls w8 (.slice p4 l.length cap4) m) := Lib.hid (FTr.out.keep (w := wr.drew) (by decide) B8.out); have BA8 := Lib.hid (chain (w := wr.drew) BAr.out.drew B8.out); rw [show (sdVoid ⟨n, m, c, a⟩ user).fl = m from HTT.out, HML.out]; simp only [sdVoid]; clear O8)
            | (go_at_call 21; refine (ssame_at n _ c a m n _ c a m true _ F8.out FT8.out (by simp)).mono ?_; rintro e w9 ⟨rfl, B9⟩; have q1' := cell_of_block (keepb (keepb (w := wr.drew) A1r.out B8.out) B9.out); have q6' := cell_of_block (keepb (keepb (w := wr.drew) A6r.out B8.out) B9.out); have BA9 := Lib.hid (chain BA8.out B9.out))))
        go_wp2_with fail
        go_ret
        exact ⟨rfl, BA9.out⟩

end Go.Proofs.Ytmhfbngielihcaa.lawSendVoids
namespace Go.Proofs.Ytmhfbngielihcaa.lawSendVoids
open Go.ChangeShapes Go.WideShapes Go.RowKit
set_option linter.unusedVariables false
theorem own : ownKnob Try.prog.godebug = none := by kernel_rfl
theorem laidOut : laidOutB Try.prog = true := by kernel_rfl
set_option maxRecDepth 100000 in
theorem lifted (os : Os) (started : os.Started) (H : Type) (enc : TypeId × Value → H) :
    ReturnsInHanded {} Try.checked os 9 .any (Rows.sendVoidsSpec.pre6 enc Try.prog Try.f9 Rows.sendVoidsRow.domain false) (Rows.sendVoidsSpec.post enc Try.prog Try.f9 false true false false) := by
  refine returnsInHanded_of_change (C := Try.checked) own started (by kernel_rfl) Try.func9
    (ChangeSpec.witness6 (enc := enc) (C := Try.checked) false ⟨#[], #[.agg #[.int .i64 0, .slice none 0 0, .int .i64 0, .int .i64 0], .int .i64 0], []⟩ 8 (by kernel_rfl) (by kernel_rfl) (by kernel_rfl) (by kernel_rfl)) ?_
  intro W base args ds gs before hval0 hW hcnd _
  have hval : ∀ (j : Nat) t v, Try.f9.params[j]? = some t → args[j]? = some v → Value.okWide Try.prog W .any base t v := hval0
  have hW' := hW
  obtain ⟨p, q, hA0, hV, rfl, hfz, hnd⟩ := hW
  have hA : DataW.TrodAll enc Try.prog W 0 (fun _ => true) true Try.f9.params.toList args.toList ds p := hA0
  rw [Try.params9] at hA hval
  obtain ⟨v0, vs0, d0, ds0, p0, q0, hargs, rfl, rfl, h0, r0⟩ := trodAll_cons hA
  obtain ⟨v1, vs1, d1, ds1, p1, q1, rfl, rfl, rfl, h1, r1⟩ := trodAll_cons r0
  obtain ⟨rfl, rfl, rfl⟩ := trodAll_nil r1
  obtain rfl : args = #[v0, v1] := by cases args; simp_all
  obtain ⟨rfl, rfl⟩ := trodVars_none hV
  obtain ⟨n0, u0, c0, b0, z0, rfl, f0, w0, -, -⟩ := K.open_sd_arg (hval 0 24 v0 rfl rfl) h0
  have k0 := h0
  have lt0 : ∀ x ∈ p0, x.block < W.heap.size := by obtain ⟨m, hm⟩ := k0; exact DataW.trod_lt m _ _ _ hm
  obtain ⟨a1, rfl, rfl, rfl, w1⟩ := open_int Try.underlying3 (hval 1 3 v1 rfl rfl) h1
  clear hA0 hval0
  refine (walk n0 u0 c0 b0 z0 a1 W f0 w0 w1).mono fun e W' ⟨he, bel⟩ => ?_
  subst he
  exact ⟨_, rfl, _, _, _, [], _, [], hW', trodAll_mk1 (shut_bool Try.underlying4 _), (trodAll_cons_mk (Below.trod laidOut (by kernel_rfl) (of_decide_eq_true (by kernel_rfl)) k0 bel lt0) (trodAll_cons_mk (shut_int Try.underlying3 w1) trodAll_mk0)), rfl, bel.frame _, fun h => by cases h⟩
theorem over : Rows.sendVoidsRow.holds Try.pinned (OpenSpec.ofChange Rows.sendVoidsSpec) :=
  OpenClaim.holds_of_wide 9 Try.f9 rfl rfl rfl rfl rfl rfl rfl ⟨rfl, rfl, rfl, rfl, rfl⟩ rfl rfl rfl rfl rfl (by kernel_rfl) Try.func9 (by kernel_rfl)
    (of_decide_eq_true (by kernel_rfl)) (by unfold Func.isWrapper; first | (rw [if_pos (by decide +kernel)]; kernel_rfl) | (rw [if_neg (by decide +kernel)]; exact ⟨rfl, rfl⟩))
    (fun os started H enc _ => lifted os started H enc)
/-- THE STATEMENT -/
theorem proved : Rows.SendVoidsSaid := over
end Go.Proofs.Ytmhfbngielihcaa.lawSendVoids
#print axioms Go.Proofs.Ytmhfbngielihcaa.lawSendVoids.proved

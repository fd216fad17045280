/-
  THE STATEMENT 'Rows.SatOrderSaid': nightjarlaw01.SatOrder returns true for every input, and its arguments read afterwards as they read before. No condition.
-/
import Derived.Test.YtnmaipmfmafcmaaRows
import Derived.Test.YtnmaipmfmafcmaaSatSmall
import Derived.ProofKit
import Derived.OpenShut
import Derived.ShutString
import Derived.ChangeOld
import Derived.Below
namespace Go.Proofs.Ytnmaipmfmafcmaa.lawSatOrder
open Go Go.RowKit Nj Go.Proofs.Ytnmaipmfmafcmaa.K

theorem rev_snoc (xs : List Int) (j : Nat) (h : j < xs.length) : xs.reverse.take (j + 1) = xs.reverse.take j ++ [xs[xs.length - 1 - j]] := by
  rw [take_snoc xs.reverse j (by simpa using h), List.getElem_reverse]

set_option maxHeartbeats 1000000 in
theorem walk (a b c : Int) (v : Value) (xs : List Int) (w : World) (_h0 : (Lit.int .i64 a).wf = true) (_h1 : (Lit.int .i64 b).wf = true) (_h2 : (Lit.int .i64 c).wf = true) (h : Ints w v xs) (_hz : ∀ n ∈ xs, (Lit.int .i64 n).wf = true) :
    Calls Try.prog 5 #[.int .i64 a, .int .i64 b, .int .i64 c, v] w fun e w' => e = .returned (.bool true) ∧ Below w.heap.size w w' := by
  clear _h0 _h1 _h2 _hz
  have hk := Lib.hid h
  obtain ⟨hm, p, cap, rfl, hcap, hc⟩ := h
  clear hc
  by_cases hl : 1000 < xs.length
  · have h1 : decide ((1000 : Int) < (xs.length : Int)) = true := by simp; omega
    clear hl
    go_enter Try.func5, Try.ntmps5
    go_wp2_with fail
    refine (small01_any _).mono ?_; rintro e w1 ⟨rfl, hb⟩
    go_wp2_with fail
    go_ret
    exact ⟨rfl, hb⟩
  · have h1 : decide ((1000 : Int) < (xs.length : Int)) = false := by simp; omega
    have hle : xs.length ≤ 1000 := by omega
    clear hl
    go_enter Try.func5, Try.ntmps5
    go_wp2_with fail
    refine (small01_any _).mono ?_; rintro e w1 ⟨rfl, hb⟩
    have hk1 := Lib.hid (hk.out.keep hb)
    have HB := Lib.hid hb
    clear hb hk
    go_wp2_with fail
    go_loopw [10, 11] (fun bv i wr => ∃ j : Nat, j ≤ xs.length ∧ i = .int .i64 ((xs.length : Int) - 1 - (j : Int)) ∧ OwnI 3 w1.heap.size wr bv (xs.reverse.take j) ∧ Below w1.heap.size w1 wr) (fun _ i _ => (intOf i + 1).toNat)
    case atStart => exact ⟨0, by omega, by simp, ownI_nil _ _ _, Below.refl _ _⟩
    case round =>
      obtain ⟨j, hj, rfl, hown, hwb⟩ := hrel
      have HWB := Lib.hid hwb
      have HOW := Lib.hid hown
      have hk2 := Lib.hid (hk1.out.keep hwb)
      clear hwb hown
      by_cases hlt : j < xs.length
      · obtain ⟨x, hx⟩ : ∃ x, x = xs[xs.length - 1 - j] := ⟨_, rfl⟩
        have hrs := Lib.hid (rev_snoc xs j hlt)
        have hcell := hk2.out.atp (xs.length - 1 - j) (by omega)
        rw [← hx] at hcell hrs
        obtain ⟨pb, po, rfl, hcell⟩ := hcell
        have hd1 : (j : Int) ≤ (xs.length : Int) - 1 := by omega
        have hd2 : (xs.length : Int) - 1 - (j : Int) < (xs.length : Int) := by omega
        clear hx
        have hlenr : (xs.reverse.take j).length ≤ 1000 := by simp; omega
        have HLR := Lib.hid hlenr
        clear hlenr
        go_wp2_with (at_builtin; refine wpList_append_int rfl (.tmp 25) (.tmp 30) 22 rfl w1.heap.size 3 Try.underlying22 (by kernel_rfl) _ _ rfl (HOW.out.alloc _) wr.heap.size 0 1 x rfl (by simp) (by have := HLR.out; omega) (by have := HWB.out.size; simp; omega) ?_)
        intro v' w' hown' hg
        have HO' := Lib.hid hown'
        have HG := Lib.hid hg
        clear hown' hg
        go_wp2
        go_roundw
        case rel =>
          refine ⟨j + 1, by omega, by congr 1; omega, by rw [hrs.out]; exact HO'.out, ?_⟩
          exact (HWB.out.alloc HWB.out.size _).grown HG.out (by have := HWB.out.size; simp; omega) (fun k hk => HOW.out.block k hk)
        case measure => simp [intOf]; omega
      · obtain rfl : j = xs.length := by omega
        have e0 : xs.reverse.take xs.length = xs.reverse := List.take_of_length_le (by simp)
        rw [e0] at HOW
        have hir := Lib.hid (HOW.out.ints)
        have hd1 : decide ((0 : Int) ≤ (xs.length : Int) - 1 - (xs.length : Int)) = false := by simp; omega
        have f1 : (add a b == add b a) = true := by rw [add_comm' a b]; simp
        have f2 : (mul a b == mul b a) = true := by rw [mul_comm' a b]; simp
        have f3 : (add (add a b) c == add a (add b c)) = true := by rw [add_assoc']; simp
        have f4 : (sum xs.reverse == sum xs) = true := by rw [sum_reverse]; simp
        have f5 : (sum (xs.reverse ++ [a]) == add (sum xs) a) = true := by rw [sum_snoc, sum_reverse]; simp
        have hlenr : xs.reverse.length ≤ 1000 := by simpa using hle
        have HLR := Lib.hid hlenr
        clear hlenr e0 hlt
        by_cases hs : add a b < 1099511627776
        ·      have q1 : decide (add a b < 1099511627776) = true := by simpa using hs
               have q2 : (sub (add a b) b != clamp a) = false := by rw [sub_add' hs]; simp
               clear hs
               go_wp2_with (first | (at_builtin; refine wpList_append_int rfl (.tmp 81) (.tmp 83) 22 rfl w1.heap.size 3 Try.underlying22 (by kernel_rfl) _ _ rfl (HOW.out.alloc _) wr.heap.size 0 1 a rfl (by simp) (by have := HLR.out; omega) (by have := HWB.out.size; simp; omega) ?_) | (go_at_call 20; refine (sum_any _ _ _ (by first | exact hir.out | exact hk2.out)).mono ?_; rintro e w' ⟨rfl, rfl⟩) | (go_at_call 12; refine (clamp_any _ _).mono ?_; rintro e w' ⟨rfl, rfl⟩) | (go_at_call 14; refine (add_any _ _ _).mono ?_; rintro e w' ⟨rfl, rfl⟩) | (go_at_call 16; refine (sub_any _ _ _).mono ?_; rintro e w' ⟨rfl, rfl⟩) | (go_at_call 18; refine (mul_any _ _ _).mono ?_; rintro e w' ⟨rfl, rfl⟩))
               intro v' w' hown' hg
               have HB2 := Lib.hid ((HWB.out.alloc HWB.out.size _).grown hg (by have := HWB.out.size; simp; omega) (fun k hk => HOW.out.block k hk))
               have hk3 := Lib.hid (hk1.out.keep HB2.out)
               have HI3 := Lib.hid hown'.ints
               clear hown' hg
               go_wp2_with (first | (go_at_call 20; refine (sum_any _ _ _ (by first | exact HI3.out | exact hk3.out)).mono ?_; rintro e w' ⟨rfl, rfl⟩) | (go_at_call 12; refine (clamp_any _ _).mono ?_; rintro e w' ⟨rfl, rfl⟩) | (go_at_call 14; refine (add_any _ _ _).mono ?_; rintro e w' ⟨rfl, rfl⟩) | (go_at_call 16; refine (sub_any _ _ _).mono ?_; rintro e w' ⟨rfl, rfl⟩) | (go_at_call 18; refine (mul_any _ _ _).mono ?_; rintro e w' ⟨rfl, rfl⟩))
               go_ret
               exact ⟨rfl, HB.out.trans (HB2.out.mono HB.out.size)⟩
        ·      have q1 : decide (add a b < 1099511627776) = false := by simpa using hs
               clear hs
               go_wp2_with (first | (at_builtin; refine wpList_append_int rfl (.tmp 81) (.tmp 83) 22 rfl w1.heap.size 3 Try.underlying22 (by kernel_rfl) _ _ rfl (HOW.out.alloc _) wr.heap.size 0 1 a rfl (by simp) (by have := HLR.out; omega) (by have := HWB.out.size; simp; omega) ?_) | (go_at_call 20; refine (sum_any _ _ _ (by first | exact hir.out | exact hk2.out)).mono ?_; rintro e w' ⟨rfl, rfl⟩) | (go_at_call 12; refine (clamp_any _ _).mono ?_; rintro e w' ⟨rfl, rfl⟩) | (go_at_call 14; refine (add_any _ _ _).mono ?_; rintro e w' ⟨rfl, rfl⟩) | (go_at_call 16; refine (sub_any _ _ _).mono ?_; rintro e w' ⟨rfl, rfl⟩) | (go_at_call 18; refine (mul_any _ _ _).mono ?_; rintro e w' ⟨rfl, rfl⟩))
               intro v' w' hown' hg
               have HB2 := Lib.hid ((HWB.out.alloc HWB.out.size _).grown hg (by have := HWB.out.size; simp; omega) (fun k hk => HOW.out.block k hk))
               have hk3 := Lib.hid (hk1.out.keep HB2.out)
               have HI3 := Lib.hid hown'.ints
               clear hown' hg
               go_wp2_with (first | (go_at_call 20; refine (sum_any _ _ _ (by first | exact HI3.out | exact hk3.out)).mono ?_; rintro e w' ⟨rfl, rfl⟩) | (go_at_call 12; refine (clamp_any _ _).mono ?_; rintro e w' ⟨rfl, rfl⟩) | (go_at_call 14; refine (add_any _ _ _).mono ?_; rintro e w' ⟨rfl, rfl⟩) | (go_at_call 16; refine (sub_any _ _ _).mono ?_; rintro e w' ⟨rfl, rfl⟩) | (go_at_call 18; refine (mul_any _ _ _).mono ?_; rintro e w' ⟨rfl, rfl⟩))
               go_ret
               exact ⟨rfl, HB.out.trans (HB2.out.mono HB.out.size)⟩

end Go.Proofs.Ytnmaipmfmafcmaa.lawSatOrder
namespace Go.Proofs.Ytnmaipmfmafcmaa.lawSatOrder
open Go.ChangeShapes Go.WideShapes Go.RowKit
set_option linter.unusedVariables false
theorem own : ownKnob Try.prog.godebug = none := by kernel_rfl
theorem laidOut : laidOutB Try.prog = true := by kernel_rfl
set_option maxRecDepth 100000 in
theorem lifted (os : Os) (started : os.Started) (H : Type) (enc : TypeId × Value → H) :
    ReturnsInHanded {} Try.checked os 5 .any (Rows.satOrderSpec.pre6 enc Try.prog Try.f5 Rows.satOrderRow.domain false) (Rows.satOrderSpec.post enc Try.prog Try.f5 false true false false) := by
  refine returnsInHanded_of_change (C := Try.checked) own started (by kernel_rfl) Try.func5
    (ChangeSpec.witness6 (enc := enc) (C := Try.checked) false ⟨#[], #[.int .i64 0, .int .i64 0, .int .i64 0, .slice none 0 0], []⟩ 8 (by kernel_rfl) (by kernel_rfl) (by kernel_rfl) (by kernel_rfl)) ?_
  intro W base args ds gs before hval0 hW hcnd _
  have hval : ∀ (j : Nat) t v, Try.f5.params[j]? = some t → args[j]? = some v → Value.okWide Try.prog W .any base t v := hval0
  have hW' := hW
  obtain ⟨p, q, hA0, hV, rfl, hfz, hnd⟩ := hW
  have hA : DataW.TrodAll enc Try.prog W 0 (fun _ => true) true Try.f5.params.toList args.toList ds p := hA0
  rw [Try.params5] at hA hval
  obtain ⟨v0, vs0, d0, ds0, p0, q0, hargs, rfl, rfl, h0, r0⟩ := trodAll_cons hA
  obtain ⟨v1, vs1, d1, ds1, p1, q1, rfl, rfl, rfl, h1, r1⟩ := trodAll_cons r0
  obtain ⟨v2, vs2, d2, ds2, p2, q2, rfl, rfl, rfl, h2, r2⟩ := trodAll_cons r1
  obtain ⟨v3, vs3, d3, ds3, p3, q3, rfl, rfl, rfl, h3, r3⟩ := trodAll_cons r2
  obtain ⟨rfl, rfl, rfl⟩ := trodAll_nil r3
  obtain rfl : args = #[v0, v1, v2, v3] := by cases args; simp_all
  obtain ⟨rfl, rfl⟩ := trodVars_none hV
  obtain ⟨a0, rfl, rfl, rfl, w0⟩ := open_int Try.underlying3 (hval 0 3 v0 rfl rfl) h0
  obtain ⟨a1, rfl, rfl, rfl, w1⟩ := open_int Try.underlying3 (hval 1 3 v1 rfl rfl) h1
  obtain ⟨a2, rfl, rfl, rfl, w2⟩ := open_int Try.underlying3 (hval 2 3 v2 rfl rfl) h2
  obtain ⟨a3, len3, cap3, rfl⟩ := okWide_slice Try.underlying22 (hval 3 22 v3 rfl rfl)
  have k3 := h3
  have lt3 : ∀ x ∈ p3, x.block < W.heap.size := by obtain ⟨m, hm⟩ := k3; exact DataW.trod_lt m _ _ _ hm
  obtain ⟨z3, w3, y3⟩ : ∃ xs, Nj.Ints W (.slice a3 len3 cap3) xs ∧ ∀ n ∈ xs, (Lit.int .i64 n).wf = true := by
    obtain ⟨fuel, hf⟩ := h3
    exact Nj.ints_of_open Try.underlying22 Try.underlying3 (by kernel_rfl) hf
  clear hA0 hval0
  refine (walk a0 a1 a2 _ z3 W w0 w1 w2 w3 y3).mono fun e W' ⟨he, bel⟩ => ?_
  subst he
  exact ⟨_, rfl, _, _, _, [], _, [], hW', trodAll_mk1 (shut_bool Try.underlying4 _), (trodAll_cons_mk (shut_int Try.underlying3 w0) (trodAll_cons_mk (shut_int Try.underlying3 w1) (trodAll_cons_mk (shut_int Try.underlying3 w2) (trodAll_cons_mk (Below.trod laidOut (by kernel_rfl) (of_decide_eq_true (by kernel_rfl)) k3 bel lt3) trodAll_mk0)))), rfl, bel.frame _, fun h => by cases h⟩
theorem over : Rows.satOrderRow.holds Try.pinned (OpenSpec.ofChange Rows.satOrderSpec) :=
  OpenClaim.holds_of_wide 5 Try.f5 rfl rfl rfl rfl rfl rfl rfl ⟨rfl, rfl, rfl, rfl, rfl⟩ rfl rfl rfl rfl rfl (by kernel_rfl) Try.func5 (by kernel_rfl)
    (of_decide_eq_true (by kernel_rfl)) (by unfold Func.isWrapper; first | (rw [if_pos (by decide +kernel)]; kernel_rfl) | (rw [if_neg (by decide +kernel)]; exact ⟨rfl, rfl⟩))
    (fun os started H enc _ => lifted os started H enc)
/-- THE STATEMENT -/
theorem proved : Rows.SatOrderSaid := over
end Go.Proofs.Ytnmaipmfmafcmaa.lawSatOrder
#print axioms Go.Proofs.Ytnmaipmfmafcmaa.lawSatOrder.proved

/-
  THE STATEMENT 'Rows.SatMeanSaid': nightjarlaw01.SatMean returns true for every input, and its arguments read afterwards as they read before. No condition.
-/
import Derived.Test.YtnmaipmfmafcmaaRows
import Derived.Test.YtnmaipmfmafcmaaSatSmall
import Derived.ProofKit
import Derived.OpenShut
import Derived.ShutString
import Derived.ChangeOld
import Derived.Below
namespace Go.Proofs.Ytnmaipmfmafcmaa.lawSatMean
open Go Go.RowKit Nj Go.Proofs.Ytnmaipmfmafcmaa.K

theorem rep_snoc (a : Int) (j : Nat) : List.replicate (j + 1) a = List.replicate j a ++ [a] := List.replicate_succ'

/-- what the first loop keeps: of the first k numbers none is great, lo is no more than each, hi no less -/
def Keeps (xs : List Int) (k : Nat) (lo hi : Int) : Prop :=
  0 ≤ lo ∧ 0 ≤ hi ∧ hi ≤ 1073741824 ∧ ∀ m (h : m < xs.length), m < k → lo ≤ clamp xs[m] ∧ clamp xs[m] ≤ hi

theorem keeps_step {xs : List Int} {k : Nat} {lo hi x : Int} (h : Keeps xs k lo hi) (hlt : k < xs.length) (hx : x = xs[k]) (hg : clamp x ≤ 1073741824) (lo' hi' : Int) (hlo : lo' = min lo (clamp x)) (hhi : hi' = max hi (clamp x)) : Keeps xs (k + 1) lo' hi' := by
  subst hx
  obtain ⟨h0, h1, h2, h3⟩ := h
  have := clamp_bd xs[k]
  refine ⟨by omega, by omega, by omega, fun m hm hmk => ?_⟩
  by_cases e : m = k
  · subst e; omega
  · have := h3 m hm (by omega); omega

theorem keeps_end {xs : List Int} {lo hi : Int} (h : Keeps xs xs.length lo hi) (h1 : 1 ≤ xs.length) (h2 : xs.length ≤ 100) : lo ≤ mean xs ∧ mean xs ≤ hi := by
  obtain ⟨a, b, c, d⟩ := h
  refine mean_between xs lo hi a c h2 h1 fun x hx => ?_
  obtain ⟨m, hm, rfl⟩ := List.getElem_of_mem hx
  exact d m hm hm

set_option maxHeartbeats 1000000 in
theorem walk (v : Value) (xs : List Int) (a n : Int) (w : World) (h : Ints w v xs) (_hz : ∀ n ∈ xs, (Lit.int .i64 n).wf = true) (_h0 : (Lit.int .i64 a).wf = true) (_h1 : (Lit.int .i64 n).wf = true) :
    Calls Try.prog 6 #[v, .int .i64 a, .int .i64 n] w fun e w' => e = .returned (.bool true) ∧ Below w.heap.size w w' := by
  clear _h0 _h1 _hz
  have hk := Lib.hid h
  obtain ⟨hm, p, cap, rfl, hcap, hc⟩ := h
  clear hc
  by_cases hl : 100 < xs.length ∨ xs.length < 1 ∨ n < 1 ∨ 100 < n
  · rcases hl with hl | hl | hl | hl
    all_goals
      go_enter Try.func6, Try.ntmps6
      go_wp2_with fail
      refine (small01_any _).mono ?_; rintro e w1 ⟨rfl, hb⟩
      have HB := Lib.hid hb
      clear hb
      go_wp2_with fail
      all_goals go_ret
      all_goals exact ⟨rfl, HB.out⟩
  · obtain ⟨c, rfl⟩ : ∃ c : Nat, n = c := ⟨n.toNat, by omega⟩
    have h1 : decide ((100 : Int) < (xs.length : Int)) = false := by simp; omega
    have h2 : decide ((xs.length : Int) < 1) = false := by simp; omega
    have h3 : decide ((c : Int) < 1) = false := by simp; omega
    have h4 : decide ((100 : Int) < (c : Int)) = false := by simp; omega
    have b1 : 1 ≤ xs.length := by omega
    have b2 : xs.length ≤ 100 := by omega
    have b3 : 1 ≤ c := by omega
    have b4 : c ≤ 100 := by omega
    clear hl
    go_enter Try.func6, Try.ntmps6
    go_wp2_with fail
    refine (small01_any _).mono ?_; rintro e w1 ⟨rfl, hb⟩
    have hk1 := Lib.hid (hk.out.keep hb)
    have HB := Lib.hid hb
    clear hb hk
    go_wp2_with fail
    go_loop [8, 9, 10] (fun lv hv i => ∃ (k : Nat) (lo hi : Int), k ≤ xs.length ∧ i = .int .i64 k ∧ lv = .int .i64 lo ∧ hv = .int .i64 hi ∧ Keeps xs k lo hi) (fun _ _ i => xs.length - (intOf i).toNat)
    case atStart => exact ⟨0, 1099511627776, 0, by omega, rfl, rfl, rfl, by omega, by omega, by omega, fun m _ hmk => by omega⟩
    case round =>
      obtain ⟨k, lo, hi, hk, rfl, rfl, rfl, hkeep⟩ := hrel
      have HK := Lib.hid hkeep
      clear hkeep
      by_cases hlt : k < xs.length
      · obtain ⟨x, hx⟩ : ∃ x, x = xs[k] := ⟨_, rfl⟩
        have hcell := hk1.out.atp k hlt
        rw [← hx] at hcell
        obtain ⟨pb, po, rfl, hcell⟩ := hcell
        have HX := Lib.hid hx
        clear hx
        by_cases hbig : 1073741824 < clamp x
        · have q1 : decide (1073741824 < clamp x) = true := by simpa using hbig
          clear hbig
          go_wp2_with (first | (go_at_call 12; refine (clamp_any _ _).mono ?_; rintro e w' ⟨rfl, rfl⟩))
          go_ret
          exact ⟨rfl, HB.out⟩
        · have q1 : decide (1073741824 < clamp x) = false := by simpa using hbig
          have hg : clamp x ≤ 1073741824 := by omega
          clear hbig
          go_wp2_with (first | (go_at_call 12; refine (clamp_any _ _).mono ?_; rintro e w' ⟨rfl, rfl⟩))
          all_goals
            go_round
            case rel => exact ⟨k + 1, _, _, by omega, by go_num, rfl, rfl, keeps_step HK.out hlt HX.out hg _ _ (by omega) (by omega)⟩
            case measure => simp [intOf]; omega
      · obtain rfl : k = xs.length := by omega
        have hend := keeps_end HK.out b1 b2
        have q2 : decide (lo ≤ mean xs) = true := by simpa using hend.1
        have q3 : decide (mean xs ≤ hi) = true := by simpa using hend.2
        clear hend hlt
        go_wp2_with (first | (go_at_call 22; refine (mean_any _ _ _ hk1.out).mono ?_; rintro e w' ⟨rfl, rfl⟩))
        go_loopw [13, 14] (fun bv i wr => ∃ j : Nat, j ≤ c ∧ i = .int .i64 j ∧ OwnI 3 w1.heap.size wr bv (List.replicate j a) ∧ Below w1.heap.size w1 wr) (fun _ i _ => c - (intOf i).toNat)
        case atStart => exact ⟨0, by omega, rfl, ownI_nil _ _ _, Below.refl _ _⟩
        case round =>
          obtain ⟨j, hj, rfl, hown, hwb⟩ := hrel
          have HWB := Lib.hid hwb
          have HOW := Lib.hid hown
          clear hwb hown
          by_cases hlt : j < c
          · have hd1 : (j : Int) < (c : Int) := by omega
            have hrs := Lib.hid (rep_snoc a j)
            go_wp2_with (at_builtin; refine wpList_append_int rfl (.tmp 60) (.tmp 62) 22 rfl w1.heap.size 3 Try.underlying22 (by kernel_rfl) _ _ rfl (HOW.out.alloc _) wr.heap.size 0 1 a rfl (by simp) (by simp; omega) (by have := HWB.out.size; simp; omega) ?_)
            intro v' w' hown' hg
            have HO' := Lib.hid hown'
            have HG := Lib.hid hg
            clear hown' hg
            go_wp2
            go_roundw
            case rel => exact ⟨j + 1, by omega, by go_num, by rw [hrs.out]; exact HO'.out, (HWB.out.alloc HWB.out.size _).grown HG.out (by have := HWB.out.size; simp; omega) (fun k hk => HOW.out.block k hk)⟩
            case measure => simp [intOf]; omega
          · obtain rfl : j = c := by omega
            have hir := Lib.hid (HOW.out.ints)
            have hfin := HB.out.trans (HWB.out.mono HB.out.size)
            have HF := Lib.hid hfin
            clear hfin hlt
            by_cases hs : 1073741824 < clamp a
            · have q1 : decide (1073741824 < clamp a) = true := by simpa using hs
              clear hs
              go_wp2_with (first | (go_at_call 12; refine (clamp_any _ _).mono ?_; rintro e w' ⟨rfl, rfl⟩))
              go_ret
              exact ⟨rfl, HF.out⟩
            · have q1 : decide (1073741824 < clamp a) = false := by simpa using hs
              have q4 : (mean (List.replicate j a) == clamp a) = true := by rw [mean_like a j b3 b4 (by omega)]; simp
              clear hs
              go_wp2_with (first | (go_at_call 22; refine (mean_any _ _ _ hir.out).mono ?_; rintro e w' ⟨rfl, rfl⟩) | (go_at_call 12; refine (clamp_any _ _).mono ?_; rintro e w' ⟨rfl, rfl⟩))
              go_ret
              exact ⟨rfl, HF.out⟩

end Go.Proofs.Ytnmaipmfmafcmaa.lawSatMean
namespace Go.Proofs.Ytnmaipmfmafcmaa.lawSatMean
open Go.ChangeShapes Go.WideShapes Go.RowKit
set_option linter.unusedVariables false
theorem own : ownKnob Try.prog.godebug = none := by kernel_rfl
theorem laidOut : laidOutB Try.prog = true := by kernel_rfl
set_option maxRecDepth 100000 in
theorem lifted (os : Os) (started : os.Started) (H : Type) (enc : TypeId × Value → H) :
    ReturnsInHanded {} Try.checked os 6 .any (Rows.satMeanSpec.pre6 enc Try.prog Try.f6 Rows.satMeanRow.domain false) (Rows.satMeanSpec.post enc Try.prog Try.f6 false true false false) := by
  refine returnsInHanded_of_change (C := Try.checked) own started (by kernel_rfl) Try.func6
    (ChangeSpec.witness6 (enc := enc) (C := Try.checked) false ⟨#[], #[.slice none 0 0, .int .i64 0, .int .i64 0], []⟩ 8 (by kernel_rfl) (by kernel_rfl) (by kernel_rfl) (by kernel_rfl)) ?_
  intro W base args ds gs before hval0 hW hcnd _
  have hval : ∀ (j : Nat) t v, Try.f6.params[j]? = some t → args[j]? = some v → Value.okWide Try.prog W .any base t v := hval0
  have hW' := hW
  obtain ⟨p, q, hA0, hV, rfl, hfz, hnd⟩ := hW
  have hA : DataW.TrodAll enc Try.prog W 0 (fun _ => true) true Try.f6.params.toList args.toList ds p := hA0
  rw [Try.params6] at hA hval
  obtain ⟨v0, vs0, d0, ds0, p0, q0, hargs, rfl, rfl, h0, r0⟩ := trodAll_cons hA
  obtain ⟨v1, vs1, d1, ds1, p1, q1, rfl, rfl, rfl, h1, r1⟩ := trodAll_cons r0
  obtain ⟨v2, vs2, d2, ds2, p2, q2, rfl, rfl, rfl, h2, r2⟩ := trodAll_cons r1
  obtain ⟨rfl, rfl, rfl⟩ := trodAll_nil r2
  obtain rfl : args = #[v0, v1, v2] := by cases args; simp_all
  obtain ⟨rfl, rfl⟩ := trodVars_none hV
  obtain ⟨a0, len0, cap0, rfl⟩ := okWide_slice Try.underlying22 (hval 0 22 v0 rfl rfl)
  have k0 := h0
  have lt0 : ∀ x ∈ p0, x.block < W.heap.size := by obtain ⟨m, hm⟩ := k0; exact DataW.trod_lt m _ _ _ hm
  obtain ⟨z0, w0, y0⟩ : ∃ xs, Nj.Ints W (.slice a0 len0 cap0) xs ∧ ∀ n ∈ xs, (Lit.int .i64 n).wf = true := by
    obtain ⟨fuel, hf⟩ := h0
    exact Nj.ints_of_open Try.underlying22 Try.underlying3 (by kernel_rfl) hf
  obtain ⟨a1, rfl, rfl, rfl, w1⟩ := open_int Try.underlying3 (hval 1 3 v1 rfl rfl) h1
  obtain ⟨a2, rfl, rfl, rfl, w2⟩ := open_int Try.underlying3 (hval 2 3 v2 rfl rfl) h2
  clear hA0 hval0
  refine (walk _ z0 a1 a2 W w0 y0 w1 w2).mono fun e W' ⟨he, bel⟩ => ?_
  subst he
  exact ⟨_, rfl, _, _, _, [], _, [], hW', trodAll_mk1 (shut_bool Try.underlying4 _), (trodAll_cons_mk (Below.trod laidOut (by kernel_rfl) (of_decide_eq_true (by kernel_rfl)) k0 bel lt0) (trodAll_cons_mk (shut_int Try.underlying3 w1) (trodAll_cons_mk (shut_int Try.underlying3 w2) trodAll_mk0))), rfl, bel.frame _, fun h => by cases h⟩
theorem over : Rows.satMeanRow.holds Try.pinned (OpenSpec.ofChange Rows.satMeanSpec) :=
  OpenClaim.holds_of_wide 6 Try.f6 rfl rfl rfl rfl rfl rfl rfl ⟨rfl, rfl, rfl, rfl, rfl⟩ rfl rfl rfl rfl rfl (by kernel_rfl) Try.func6 (by kernel_rfl)
    (of_decide_eq_true (by kernel_rfl)) (by unfold Func.isWrapper; first | (rw [if_pos (by decide +kernel)]; kernel_rfl) | (rw [if_neg (by decide +kernel)]; exact ⟨rfl, rfl⟩))
    (fun os started H enc _ => lifted os started H enc)
/-- THE STATEMENT -/
theorem proved : Rows.SatMeanSaid := over
end Go.Proofs.Ytnmaipmfmafcmaa.lawSatMean
#print axioms Go.Proofs.Ytnmaipmfmafcmaa.lawSatMean.proved

/-
  THE STATEMENT 'Rows.SessionUsersSaid': nightjarlaw18.SessionUsers returns true for every input, and its arguments read afterwards as they read before. No condition.
-/
import Derived.Test.YtlmkkfigmoefdaaSes14
import Derived.Test.YtlmkkfigmoefdaaSesPlain
import Derived.Test.YtlmkkfigmoefdaaSesRead
import Derived.Test.YtlmkkfigmoefdaaRows
import Derived.Deep.DeepCutAuto
import Derived.Deep.Light
import Derived.ProofKit
import Derived.OpenShut
import Derived.ShutString
import Derived.ChangeOld
import Derived.Below
set_option linter.unusedVariables false
set_option linter.unusedSimpArgs false
namespace Go.Proofs.Ytlmkkfigmoefdaa.lawSessionUsers
open Go Go.RowKit Nj K

set_option maxRecDepth 100000 in
set_option maxHeartbeats 8000000 in
theorem walk (v : Value) (l : List Sv) (w : World) (h : Sess w v l) :
    Calls Try.prog 5 #[v] w fun e w' => e = .returned (.bool true) ∧ Below w.heap.size w w' := by
  have HS := Lib.hid h
  obtain ⟨p, cap, rfl, hcap⟩ := sess_shape h
  clear h
  obtain ⟨rb, hrb⟩ : ∃ rb, sesRight (cons l) = rb := ⟨_, rfl⟩
  have HR := Lib.hid hrb
  have HC := Lib.hid (fun W (B : Below w.heap.size w W) => sesright_any _ l W (HS.out.keep B))
  rw [hrb] at HC
  clear hrb
  have hcl := Lib.hid (show (cons l).length = l.length by simp [cons])
  go_enter Try.func5, Try.ntmps5
  go_wp2_with fail
  refine (small18_any _).mono ?_; rintro e w1 ⟨rfl, BA⟩
  go_wp2_with fail
  refine (HC.out _ BA.out).mono ?_; rintro e w2 ⟨rfl, B2⟩
  replace BA := Lib.hid (chain BA.out B2.out)
  clear B2 HC
  cases rb with
  | false =>
    go_wp2_with fail
    go_ret
    exact ⟨rfl, BA.out⟩
  | true =>
    have hl32 : l.length ≤ 32 := by have := (right_parts HR.out).1; rw [hcl.out] at this; exact this
    have hl0 : l.length ≤ 1000 := by omega
    go_wp2_with fail
    go_loopw [4, 5] (fun n4 n5 wr => ∃ k : Nat, k ≤ 16 ∧ n5 = .int .i64 ((k : Int) + 1) ∧ n4 = .int .i64 (upTo (cons l) k) ∧ Below w.heap.size w wr) (fun _ i _ => 17 - (intOf i).toNat)
    case atStart => exact ⟨0, by omega, rfl, by rw [upTo_zero]; rfl, BA.out⟩
    case round =>
      obtain ⟨k, hk, rfl, rfl, hb⟩ := hrel
      clear BA
      have BA := Lib.hid hb
      clear hb
      by_cases hlt : k < 16
      · obtain ⟨u, hu⟩ : ∃ u : Int, u = (k : Int) + 1 := ⟨_, rfl⟩
        obtain ⟨U, hU⟩ : ∃ U, sesOf (cons l) u = U := ⟨_, rfl⟩
        obtain ⟨S, hS⟩ : ∃ S, sesStat (cons l) u = S := ⟨_, rfl⟩
        have HU := Lib.hid hU
        have HSt := Lib.hid hS
        have HRow := Lib.hid (user_row HR.out u)
        have hUS : S.length = U.length := by rw [← hU, ← hS]; exact HRow.out.1
        have hU4 : U.length ≤ 4 := by rw [← hU]; exact HRow.out.2.1
        have HSum := Lib.hid (show upTo (cons l) (k + 1) = upTo (cons l) k + U.length by rw [upTo_succ, ← hu, ← hU]; rfl)
        have HSl := Lib.hid (show upTo (cons l) k ≤ 1000 by
          unfold upTo; exact Nat.le_trans (List.length_filter_le _ _) (by rw [hcl.out]; exact hl0))
        obtain ⟨n, hn⟩ : ∃ n, n = upTo (cons l) k := ⟨_, rfl⟩
        rw [← hn] at HSum HSl ⊢
        have hn1 : n ≤ 1000 := HSl.out
        have HUo := Lib.hid hu
        rw [← hu]
        have hu16 : u ≤ 16 := by omega
        have hu1 : 1 ≤ u := by omega
        clear hU hS hn hu
        go_wp2_with fail
        refine (sesof_any _ l u _ (HS.out.keep BA.out) hl0 U HU.out).mono ?_
        rintro e w3 ⟨p3, cap3, rfl, O3, B3⟩
        replace BA := Lib.hid (chain BA.out B3.out)
        clear B3
        go_wp2_with fail
        refine (sesstatuses_any _ l u _ (HS.out.keep BA.out) hl0 S HSt.out).mono ?_
        rintro e w4 ⟨p4, cap4, rfl, O4, B4⟩
        have I3 := Lib.hid (ints_of_own (O3.out.keep B4.out)).2
        have I4 := Lib.hid (ints_of_own O4.out).2
        replace BA := Lib.hid (chain BA.out B4.out)
        clear B4 O3 O4
        rw [hUS] at I4 ⊢
        have x0 := bne_self_eq_false (U.length : Int)
        have x1 : ¬ (4 : Int) < (U.length : Int) := by omega
        go_wp2_with fail
        go_loopw [8] (fun i wr => ∃ j : Nat, j ≤ U.length ∧ i = .int .i64 j ∧ Below w4.heap.size w4 wr) (fun i _ => U.length - (intOf i).toNat)
        case atStart => exact ⟨0, by omega, rfl, Below.refl _ _⟩
        case round =>
          obtain ⟨j, hj, rfl, hb4⟩ := hrel
          have B4 := Lib.hid hb4
          clear hb4
          by_cases hjl : j < U.length
          · have hjS : j < S.length := by omega
            obtain ⟨b3, o3, hp3, hc3⟩ := (I3.out.keep B4.out).atp j hjl
            obtain ⟨b4, o4, hp4, hc4⟩ := (I4.out.keep B4.out).atp j hjS
            subst hp3 hp4
            obtain ⟨a, ha⟩ : ∃ a, a = U[j] := ⟨_, rfl⟩
            obtain ⟨st, hst⟩ : ∃ st, st = S[j] := ⟨_, rfl⟩
            have HK3 := Lib.hid (fun W (B : Below w4.heap.size w4 W) => show W.cell? ⟨b3, o3 + j, none⟩ = some (.int .i64 a) by
              obtain ⟨b, o, e, hc⟩ := (I3.out.keep B).atp j hjl; cases e; rw [ha]; exact hc)
            have HK4 := Lib.hid (fun W (B : Below w4.heap.size w4 W) => show W.cell? ⟨b4, o4 + j, none⟩ = some (.int .i64 st) by
              obtain ⟨b, o, e, hc⟩ := (I4.out.keep B).atp j hjS; cases e; rw [hst]; exact hc)
            have HKm := Lib.hid (fun (m : Nat) (hm : m < U.length) W (B : Below w4.heap.size w4 W) => show W.cell? ⟨b3, o3 + m, none⟩ = some (.int .i64 U[m]) by
              obtain ⟨b, o, e, hc⟩ := (I3.out.keep B).atp m hm; cases e; exact hc)
            obtain ⟨s, hs⟩ := show ∃ s, sesFind (cons l) a = (s, true) ∧ s.user = u ∧ s.status = st ∧ ∀ m, (hm : j = m + 1) → U[m]'(by omega) < a from by
              have h1 := HRow.out.2.2 j (by rw [HU.out]; exact hjl) (by rw [HSt.out]; exact hjS)
              have e1 := HU.out
              have e2 := HSt.out
              rw [ha, hst]
              subst e1 e2
              exact h1
            clear hc3 hc4
            have hc3 := HK3.out _ B4.out
            have HFd := Lib.hid hs.1
            have HFu := Lib.hid hs.2.1
            have HFs := Lib.hid hs.2.2.1
            have HFm := Lib.hid hs.2.2.2
            have t1 : (j : Int) < (U.length : Int) := by omega
            have t2 : (0 : Int) ≤ (j : Int) := by omega
            clear ha hst hs
            have BX := Lib.hid (chain BA.out B4.out)
            go_wp2_with fail
            refine (sfind_any _ l a _ (HS.out.keep BX.out) (right_small HR.out) s true HFd.out).mono ?_
            rintro e w5 ⟨y, hy, rfl, -, B5⟩
            have HYu := Lib.hid (show y.s.user = u by rw [hy]; exact HFu.out)
            have HYs := Lib.hid (show y.s.status = st by rw [hy]; exact HFs.out)
            have B45 := Lib.hid (chain B4.out B5.out)
            clear hy B5 hc3
            go_upto_region 16 with (refine stl (Lib.hid (heap_new w5 (.cells #[.int .i64 0, .int .i64 0, .int .i64 0, .int .i64 0, .int .u8 0, .int .u8 0, .int .u8 0, .int .u8 0, .int .u8 0, .int .u8 0, .int .u8 0, .int .u8 0, .int .u8 0, .int .u8 0, .int .u8 0, .int .u8 0, .int .u8 0, .int .u8 0, .int .u8 0, .int .u8 0, .int .i64 0, .int .i64 0, .int .i64 0, .slice none 0 0, .int .i64 0, .int .i64 0, .int .i64 0, .slice none 0 0, .int .i64 0, .int .i64 0, .int .i64 0, .int .i64 0, .int .i64 0, .int .i64 0, .bool false] 38) w5.heap.size rfl)) rfl rfl rfl rfl rfl ?_; intro w6 A9 M6; have B6 := Lib.hid (Mod.below (B := w5.heap.size) M6.out ((Below.refl w5.heap.size w5).alloc (Nat.le_refl _) _) (by simp) (fun k hk => by omega)))
            (try simp only [Act.put])
            have B46 := Lib.hid (chain B45.out B6.out)
            have k1 := g_user (rangeAt_block A9.out)
            have k5 := g_status (rangeAt_block A9.out)
            rw [HYu.out] at k1
            rw [HYs.out] at k5
            have hc3 := HK3.out _ B46.out
            have hc4 := HK4.out _ B46.out
            have x2 := bne_self_eq_false u
            have x3 := bne_self_eq_false st
            have HBX := Lib.hid (chain BA.out B46.out)
            clear A9 M6 B6 B45 BX
            by_cases hj0 : 0 < j
            · obtain ⟨m, rfl⟩ : ∃ m, j = m + 1 := ⟨j - 1, by omega⟩
              have hcm := HKm.out m (by omega) _ B46.out
              obtain ⟨am, ham⟩ : ∃ am, am = U[m] := ⟨_, rfl⟩
              rw [← ham] at hcm
              have hlt2 : am < a := by rw [ham]; exact HFm.out m rfl
              have u2 : ¬ a ≤ am := by omega
              have u3 : (0 : Int) < (m : Int) + 1 := by omega
              have u4 : (m : Int) < (U.length : Int) := by omega
              have u5 : (0 : Int) ≤ (m : Int) := by omega
              have hwr : IntKind.i64.wrap (m : Int) = (m : Int) := by rw [IntKind.wrap_i64]; omega
              simp only [Int.natCast_add, Int.cast_ofNat_Int] at t1 t2 ⊢
              clear ham hlt2
              go_quiet (fail)
              go_wp2_with fail
              go_roundw
              case rel => exact ⟨m + 1 + 1, by omega, by go_num, bel_drewN B46.out _⟩
              case measure => simp [intOf]; omega
            · obtain rfl : j = 0 := by omega
              simp only [Nat.add_zero] at hc3 hc4
              have t1z : (0 : Int) < (U.length : Int) := by omega
              go_quiet (fail)
              go_wp2_with fail
              go_roundw
              case rel => exact ⟨1, by omega, by go_num, bel_drewN B46.out _⟩
              case measure => simp [intOf]; omega
          · have hje : j = U.length := by omega
            subst hje
            have t1 : decide ((U.length : Int) < (U.length : Int)) = false := by simp
            have BX := Lib.hid (chain BA.out B4.out)
            go_wp2_with fail
            go_roundw
            case rel => exact ⟨k + 1, by omega, by rw [HUo.out]; go_num, by rw [HSum.out]; go_num, BX.out⟩
            case measure => rw [HUo.out]; simp [intOf]; omega
      · have hke : k = 16 := by omega
        subst hke
        have HAll := Lib.hid (show upTo (cons l) 16 = l.length by rw [upTo_all (right_parts HR.out).2.1, hcl.out])
        rw [HAll.out]
        have x0 := beq_self_eq_true (l.length : Int)
        go_wp2_with fail
        refine (sesof_any _ l 0 _ (HS.out.keep BA.out) hl0 [] (of_zero (right_parts HR.out).2.1)).mono ?_
        rintro e w3 ⟨p3, cap3, rfl, -, B3⟩
        have BX := Lib.hid (chain BA.out B3.out)
        go_wp2_with fail
        go_ret
        exact ⟨rfl, BX.out⟩

end Go.Proofs.Ytlmkkfigmoefdaa.lawSessionUsers
namespace Go.Proofs.Ytlmkkfigmoefdaa.lawSessionUsers
open Go.ChangeShapes Go.WideShapes Go.RowKit
set_option linter.unusedVariables false
theorem own : ownKnob Try.prog.godebug = none := by kernel_rfl
theorem laidOut : laidOutB Try.prog = true := by kernel_rfl
set_option maxRecDepth 100000 in
theorem lifted (os : Os) (started : os.Started) (H : Type) (enc : TypeId × Value → H) :
    ReturnsInHanded {} Try.checked os 5 .any (Rows.sessionUsersSpec.pre6 enc Try.prog Try.f5 Rows.sessionUsersRow.domain false) (Rows.sessionUsersSpec.post enc Try.prog Try.f5 false true false false) := by
  refine returnsInHanded_of_change (C := Try.checked) own started (by kernel_rfl) Try.func5
    (ChangeSpec.witness6 (enc := enc) (C := Try.checked) false ⟨#[], #[.slice none 0 0], []⟩ 8 (by kernel_rfl) (by kernel_rfl) (by kernel_rfl) (by kernel_rfl)) ?_
  intro W base args ds gs before hval0 hW hcnd _
  have hval : ∀ (j : Nat) t v, Try.f5.params[j]? = some t → args[j]? = some v → Value.okWide Try.prog W .any base t v := hval0
  have hW' := hW
  obtain ⟨p, q, hA0, hV, rfl, hfz, hnd⟩ := hW
  have hA : DataW.TrodAll enc Try.prog W 0 (fun _ => true) true Try.f5.params.toList args.toList ds p := hA0
  rw [Try.params5] at hA hval
  obtain ⟨v0, vs0, d0, ds0, p0, q0, hargs, rfl, rfl, h0, r0⟩ := trodAll_cons hA
  obtain ⟨rfl, rfl, rfl⟩ := trodAll_nil r0
  obtain rfl : args = #[v0] := by cases args; simp_all
  obtain ⟨rfl, rfl⟩ := trodVars_none hV
  obtain ⟨a0, len0, cap0, rfl⟩ := okWide_slice Try.underlying22 (hval 0 22 v0 rfl rfl)
  have k0 := h0
  have lt0 : ∀ x ∈ p0, x.block < W.heap.size := by obtain ⟨m, hm⟩ := k0; exact DataW.trod_lt m _ _ _ hm
  obtain ⟨z0, _, w0⟩ : ∃ l : List Nj.Sv, l.length = len0 ∧ Nj.Sess W (.slice a0 len0 cap0) l := by
    obtain ⟨fuel, hf⟩ := h0
    exact K.open_sess hf
  clear hA0 hval0
  refine (walk _ z0 W w0).mono fun e W' ⟨he, bel⟩ => ?_
  subst he
  exact ⟨_, rfl, _, _, _, [], _, [], hW', trodAll_mk1 (shut_bool Try.underlying4 _), (trodAll_cons_mk (Below.trod laidOut (by kernel_rfl) (of_decide_eq_true (by kernel_rfl)) k0 bel lt0) trodAll_mk0), rfl, bel.frame _, fun h => by cases h⟩
theorem over : Rows.sessionUsersRow.holds Try.pinned (OpenSpec.ofChange Rows.sessionUsersSpec) :=
  OpenClaim.holds_of_wide 5 Try.f5 rfl rfl rfl rfl rfl rfl rfl ⟨rfl, rfl, rfl, rfl, rfl⟩ rfl rfl rfl rfl rfl (by kernel_rfl) Try.func5 (by kernel_rfl)
    (of_decide_eq_true (by kernel_rfl)) (by unfold Func.isWrapper; first | (rw [if_pos (by decide +kernel)]; kernel_rfl) | (rw [if_neg (by decide +kernel)]; exact ⟨rfl, rfl⟩))
    (fun os started H enc _ => lifted os started H enc)
/-- THE STATEMENT -/
theorem proved : Rows.SessionUsersSaid := over
end Go.Proofs.Ytlmkkfigmoefdaa.lawSessionUsers
#print axioms Go.Proofs.Ytlmkkfigmoefdaa.lawSessionUsers.proved

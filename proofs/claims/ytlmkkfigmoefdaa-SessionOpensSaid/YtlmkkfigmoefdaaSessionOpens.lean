/-
  THE STATEMENT 'Rows.SessionOpensSaid': nightjarlaw18.SessionOpens returns true for every input, and its arguments read afterwards as they read before. No condition.
-/
import Derived.Test.YtlmkkfigmoefdaaSes14
import Derived.Test.YtlmkkfigmoefdaaSesPlain
import Derived.Test.YtlmkkfigmoefdaaSesRead
import Derived.Test.YtlmkkfigmoefdaaRows
import Derived.Deep.DeepCutAuto
import Derived.Deep.Light
import Derived.ProofKit
import Derived.OpenShut
import Derived.ShutString
import Derived.ChangeOld
import Derived.Below
set_option linter.unusedVariables false
set_option linter.unusedSimpArgs false
namespace Go.Proofs.Ytlmkkfigmoefdaa.lawSessionOpens
open Go Go.RowKit Nj K

theorem late_all {t : List Ses} {s : Ses} (h : sesRight t = true) : (t.all fun x => decide (x.id < s.id)) = !(sesLate t s) := by
  have hp := (right_parts h).2.2.1
  unfold sesLate
  rw [List.getLast?_eq_getElem?]
  rcases Nat.eq_zero_or_pos t.length with h0 | h0
  · rw [List.length_eq_zero_iff.1 h0]; rfl
  · rw [List.getElem?_eq_getElem (show t.length - 1 < t.length by omega)]
    simp only
    rw [Bool.eq_iff_iff, List.all_eq_true, Bool.not_eq_true', decide_eq_false_iff_not]
    constructor
    · intro hh
      have := hh _ (List.getElem_mem (show t.length - 1 < t.length by omega))
      simp only [decide_eq_true_eq] at this
      omega
    · intro hh x hx
      obtain ⟨j, hj, rfl⟩ := List.getElem_of_mem hx
      simp only [decide_eq_true_eq]
      by_cases e : j = t.length - 1
      · subst e; omega
      · have := List.pairwise_iff_getElem.1 hp j (t.length - 1) hj (by omega) (by omega)
        omega

set_option maxRecDepth 100000 in
set_option maxHeartbeats 8000000 in
theorem walk (v : Value) (l : List Sv) (x : Sv) (w : World) (h : Sess w v l) (hx : Sok w x) :
    Calls Try.prog 6 #[v, .agg x.cells.toArray] w fun e w' => e = .returned (.bool true) ∧ Below w.heap.size w w' := by
  have HS := Lib.hid h
  have HX := Lib.hid hx
  obtain ⟨p, cap, rfl, hcap⟩ := sess_shape h
  have hm : l.length ≤ 9223372036854775807 := h.1.1
  clear h hx
  obtain ⟨rb, hrb⟩ : ∃ rb, sesRight (cons l) = rb := ⟨_, rfl⟩
  have HR := Lib.hid hrb
  have HC := Lib.hid (fun W (B : Below w.heap.size w W) => sesright_any _ l W (HS.out.keep B))
  rw [hrb] at HC
  clear hrb
  have hcl := Lib.hid (show (cons l).length = l.length by simp [cons])
  go_enter Try.func6, Try.ntmps6
  go_upto_region 1 with fail
  refine gen_wp (fun w1 => Hid (Below w.heap.size w w1) ∧ Hid (w1.heap[w.heap.size]? = some (.cells x.cells.toArray 38)) ∧ True) ⟨Lib.hid (by (repeat (first | (with_reducible exact Below.refl _ _) | (with_reducible refine bel_set (by first | omega | (simp; done) | (simp; omega)) ?_) | (with_reducible refine bel_alloc (by first | omega | (simp; done) | (simp; omega)) ?_) | (with_reducible refine bel_drew ?_) | (with_reducible refine bel_drewN ?_ _))); first | done | fail "left"), Lib.hid (heap_new _ _ _ rfl), trivial⟩ ?_
  rintro w1 ⟨BA, A3, -⟩
  go_wp2_with fail
  refine (small18_any _).mono ?_; rintro e w2 ⟨rfl, B2⟩
  replace A3 := Lib.hid (keepb A3.out B2.out)
  replace BA := Lib.hid (chain BA.out B2.out)
  clear B2
  have g23 := g_bts (rangeAt_block A3.out)
  have g27 := g_fls (rangeAt_block A3.out)
  by_cases hbig : 50 < x.s.beats.length ∨ 50 < x.s.ch.send.fl.length
  · by_cases hb1 : 50 < x.s.beats.length
    · have t1 : (50 : Int) < (x.s.beats.length : Int) := by omega
      clear hbig
      go_wp2_with fail
      go_ret
      exact ⟨rfl, BA.out⟩
    · have t1 : ¬ (50 : Int) < (x.s.beats.length : Int) := by omega
      have t2 : (50 : Int) < (x.s.ch.send.fl.length : Int) := by omega
      clear hbig
      go_wp2_with fail
      go_ret
      exact ⟨rfl, BA.out⟩
  have t1 : ¬ (50 : Int) < (x.s.beats.length : Int) := by omega
  have t2 : ¬ (50 : Int) < (x.s.ch.send.fl.length : Int) := by omega
  have t1d := dec_f t1
  have t2d := dec_f t2
  clear hbig
  go_wp2_with fail
  refine (HC.out _ BA.out).mono ?_; rintro e w3 ⟨rfl, B3⟩
  replace A3 := Lib.hid (keepb A3.out B3.out)
  replace BA := Lib.hid (chain BA.out B3.out)
  clear B3 HC g23 g27
  cases rb with
  | false =>
    go_wp2_with fail
    go_ret
    exact ⟨rfl, BA.out⟩
  | true =>
    have hl32 : l.length ≤ 32 := by have := (right_parts HR.out).1; rw [hcl.out] at this; exact this
    have hl0 : l.length ≤ 1000 := by omega
    have hs3 := block_lt A3.out
    go_wp2_with fail
    clear t1 t2 t1d t2d
    go_loopw [6, 7] (fun n6 n7 wr => ∃ k : Nat, k ≤ l.length ∧ n7 = .int .i64 k ∧ n6 = .bool (((cons l).take k).all fun s => decide (s.id < x.s.id)) ∧ Below w3.heap.size w3 wr) (fun _ i _ => l.length - (intOf i).toNat)
    case atStart => exact ⟨0, by omega, rfl, rfl, Below.refl _ _⟩
    case round =>
      obtain ⟨k, hk, rfl, rfl, hb⟩ := hrel
      have B4 := Lib.hid hb
      clear hb
      have A3r := Lib.hid (keepb A3.out B4.out)
      have BX := Lib.hid (chain BA.out B4.out)
      by_cases hlt : k < l.length
      · obtain ⟨b, o, rfl, _⟩ := HS.out.1.open (by omega)
        obtain ⟨y, hy⟩ : ∃ y, y = l[k] := ⟨_, rfl⟩
        have k0 := f_id (ses_row (HS.out.1.keep (by decide) BX.out) k hlt y hy)
        have g0 := g_id (rangeAt_block A3r.out)
        have t1 : (k : Int) < (l.length : Int) := by omega
        have t2 : (0 : Int) ≤ (k : Int) := by omega
        obtain ⟨a, ha⟩ : ∃ a : Bool, a = ((cons l).take k).all fun s => decide (s.id < x.s.id) := ⟨_, rfl⟩
        have HA := Lib.hid (show (((cons l).take (k + 1)).all fun s => decide (s.id < x.s.id)) = (a && decide (y.s.id < x.s.id)) by
          rw [List.take_add_one, List.getElem?_eq_getElem (by rw [hcl.out]; exact hlt), List.all_append, ← ha]
          simp [cons, hy])
        rw [← ha]
        clear ha hy
        cases a with
        | false =>
          go_wp2_with fail
          go_quiet (fail)
          go_wp2_with fail
          go_roundw
          case rel => exact ⟨k + 1, by omega, by go_num, by rw [HA.out]; rfl, bel_drewN B4.out _⟩
          case measure => simp [intOf]; omega
        | true =>
          go_wp2_with fail
          go_quiet (fail)
          go_wp2_with fail
          go_roundw
          case rel => exact ⟨k + 1, by omega, by go_num, by rw [HA.out]; simp, bel_drewN B4.out _⟩
          case measure => simp [intOf]; omega
      · have hke : k = l.length := by omega
        subst hke
        obtain ⟨lt, hlt2⟩ : ∃ b, sesLate (cons l) x.s = b := ⟨_, rfl⟩
        obtain ⟨fb, hfb⟩ : ∃ b, sesFits x.s = b := ⟨_, rfl⟩
        obtain ⟨U, hU⟩ : ∃ U, sesOf (cons l) x.s.user = U := ⟨_, rfl⟩
        obtain ⟨t, c, hop⟩ : ∃ t c, sesOpen (cons l) x.s = (t, c) := ⟨_, _, rfl⟩
        have HGr := Lib.hid (show (((cons l).take l.length).all fun s => decide (s.id < x.s.id)) = !lt by
          rw [List.take_of_length_le (by rw [hcl.out]; exact Nat.le_refl _), late_all HR.out, hlt2])
        rw [HGr.out]
        have HU := Lib.hid hU
        have HOp := Lib.hid hop
        have HE := Lib.hid (show (t, c) = (if (!fb || lt) = true then (cons l, 1) else if (decide (32 ≤ l.length) || decide (4 ≤ U.length)) = true then (cons l, 7) else (cons l ++ [x.s], 0)) by
          rw [← hop]; unfold sesOpen; rw [hfb, hlt2, hU, hcl.out])
        have HC1 := Lib.hid (fun W (B : Below w.heap.size w W) => sesof_any _ l x.s.user W (HS.out.keep B) hl0 U HU.out)
        have HC2 := Lib.hid (fun W (B : Below w.heap.size w W) => sesopen_any _ l x W (HS.out.keep B) (right_small HR.out) (HX.out.keep B) t c HOp.out)
        have HC3 := Lib.hid (fun W (B : Below w.heap.size w W) => sfits_any x W (HX.out.keep B))
        rw [hfb] at HC3
        have g1 := g_user (rangeAt_block A3r.out)
        have t1 : decide ((l.length : Int) < (l.length : Int)) = false := by simp
        obtain ⟨rm, hrm⟩ : ∃ rm : Bool, rm = (decide (l.length < 32) && decide (U.length < 4)) := ⟨_, rfl⟩
        have HRm := Lib.hid hrm
        clear hlt2 hfb hU hop hrm
        go_upto_region 9 with fail
        go_cut [8] (fun s8 wx => s8 = .bool rm ∧ Below wr.heap.size wr wx)
        case first =>
          by_cases h32 : l.length < 32
          · have u1 : (l.length : Int) < 32 := by omega
            go_wp2_with fail
            refine (HC1.out _ BX.out).mono ?_
            rintro e w5 ⟨p5, cap5, rfl, -, B5⟩
            go_wp2_with fail
            go_meet
            case rel => exact ⟨by rw [HRm.out]; simp [h32]; omega, B5.out⟩
          · have u1 : ¬ (l.length : Int) < 32 := by omega
            go_wp2_with fail
            go_meet
            case rel => exact ⟨by rw [HRm.out]; simp [h32], Below.refl _ _⟩
        case rest =>
          obtain ⟨rfl, hbb⟩ := hcut
          obtain ⟨w5, hw5⟩ : ∃ w5, w5 = wc := ⟨_, rfl⟩
          subst hw5
          have B5 := Lib.hid hbb
          clear hbb g1
          have A5 := Lib.hid (keepb A3r.out B5.out)
          have B6 := Lib.hid (chain BX.out B5.out)
          have R5 := Lib.hid (rangeAt_block A5.out)
          go_wp2_with (refine ldl R5 rfl rfl rfl ?_)
          refine (HC2.out _ B6.out).mono ?_
          rintro e w7 ⟨p7, cap7, L, hL, rfl, HO, B7⟩
          have HL := Lib.hid hL
          have A7 := Lib.hid (keepb A5.out B7.out)
          have B8 := Lib.hid (chain B6.out B7.out)
          have R7 := Lib.hid (rangeAt_block A7.out)
          have HT7 := Lib.hid HO.out.sess
          clear hL
          go_wp2_with (refine ldl R7 rfl rfl rfl ?_)
          refine (HC3.out _ B8.out).mono ?_
          rintro e w9 ⟨rfl, B9⟩
          have HT9 := Lib.hid (HT7.out.keep B9.out)
          have B10 := Lib.hid (chain B8.out B9.out)
          clear R5 R7 A5 A7 A3 A3r HC1 HC2 HC3
          by_cases hbad : (!fb || lt) = true
          · have HE2 := Lib.hid (show t = cons l ∧ c = 1 by have := HE.out; rw [if_pos hbad] at this; cases this; exact ⟨rfl, rfl⟩)
            have hc1 := HE2.out.2
            have hcL : decide (cons L = cons l) = true := by rw [HL.out, HE2.out.1]; simp
            subst hc1
            have HC4 := Lib.hid (fun W (B : Below w9.heap.size w9 W) => sesame_any _ _ L l true W (HT9.out.keep B) (HS.out.keep (chain B10.out B)) hcL)
            cases fb <;> cases lt <;> first | (exfalso; simp at hbad; done) | skip
            all_goals clear hbad hcL
            all_goals
              go_wp2_with (go_at_call 30; refine (HC4.out _ (Below.refl _ _)).mono ?_; rintro e w11 ⟨rfl, B11⟩)
              go_ret
              exact ⟨rfl, chain B10.out B11.out⟩
          · have hfb1 : fb = true := by cases fb; simp at hbad; rfl
            have hlt0 : lt = false := by cases lt; rfl; simp at hbad
            subst hfb1 hlt0
            clear hbad
            by_cases hfull : rm = true
            · have HE2 := Lib.hid (show t = cons l ++ [x.s] ∧ c = 0 by
                have := HE.out; have h2 := HRm.out; rw [hfull] at h2
                have h3 := Bool.and_eq_true_iff.1 h2.symm
                simp only [decide_eq_true_eq] at h3
                rw [if_neg (by simp), if_neg (by simp; omega)] at this; cases this; exact ⟨rfl, rfl⟩)
              have hc1 := HE2.out.2
              have hlen : L.length = l.length + 1 := by
                have := congrArg List.length HL.out; rw [HE2.out.1] at this; simpa [cons] using this
              subst hc1 hfull
              have u1 : (L.length : Int) = (l.length : Int) + 1 := by omega
              have x1 : ((L.length : Int) == (l.length : Int) + 1) = true := by rw [u1]; simp
              have x2 : IntKind.i64.wrap ((l.length : Int) + 1) = (l.length : Int) + 1 := by rw [IntKind.wrap_i64]; omega
              clear u1 hlen
              go_wp2_with fail
              go_ret
              exact ⟨rfl, B10.out⟩
            · have hrm0 : rm = false := by simpa using hfull
              have HE2 := Lib.hid (show t = cons l ∧ c = 7 by
                have := HE.out; have h2 := HRm.out; rw [hrm0] at h2
                have h3 := Bool.and_eq_false_iff.1 h2.symm
                simp only [decide_eq_false_iff_not] at h3
                rw [if_neg (by simp), if_pos (by simp; omega)] at this; cases this; exact ⟨rfl, rfl⟩)
              have hc1 := HE2.out.2
              have hcL : decide (cons L = cons l) = true := by rw [HL.out, HE2.out.1]; simp
              subst hc1 hrm0
              have HC4 := Lib.hid (fun W (B : Below w9.heap.size w9 W) => sesame_any _ _ L l true W (HT9.out.keep B) (HS.out.keep (chain B10.out B)) hcL)
              clear hcL hfull
              go_wp2_with (go_at_call 30; refine (HC4.out _ (Below.refl _ _)).mono ?_; rintro e w11 ⟨rfl, B11⟩)
              go_ret
              exact ⟨rfl, chain B10.out B11.out⟩

end Go.Proofs.Ytlmkkfigmoefdaa.lawSessionOpens
namespace Go.Proofs.Ytlmkkfigmoefdaa.lawSessionOpens
open Go.ChangeShapes Go.WideShapes Go.RowKit
set_option linter.unusedVariables false
theorem own : ownKnob Try.prog.godebug = none := by kernel_rfl
theorem laidOut : laidOutB Try.prog = true := by kernel_rfl
set_option maxRecDepth 100000 in
theorem lifted (os : Os) (started : os.Started) (H : Type) (enc : TypeId × Value → H) :
    ReturnsInHanded {} Try.checked os 6 .any (Rows.sessionOpensSpec.pre6 enc Try.prog Try.f6 Rows.sessionOpensRow.domain false) (Rows.sessionOpensSpec.post enc Try.prog Try.f6 false true false false) := by
  refine returnsInHanded_of_change (C := Try.checked) own started (by kernel_rfl) Try.func6
    (ChangeSpec.witness6 (enc := enc) (C := Try.checked) false ⟨#[], #[.slice none 0 0, .agg #[.int .i64 0, .int .i64 0, .int .i64 0, .int .i64 0, .int .u8 0, .int .u8 0, .int .u8 0, .int .u8 0, .int .u8 0, .int .u8 0, .int .u8 0, .int .u8 0, .int .u8 0, .int .u8 0, .int .u8 0, .int .u8 0, .int .u8 0, .int .u8 0, .int .u8 0, .int .u8 0, .int .i64 0, .int .i64 0, .int .i64 0, .slice none 0 0, .int .i64 0, .int .i64 0, .int .i64 0, .slice none 0 0, .int .i64 0, .int .i64 0, .int .i64 0, .int .i64 0, .int .i64 0, .int .i64 0, .bool false]], []⟩ 8 (by kernel_rfl) (by kernel_rfl) (by kernel_rfl) (by kernel_rfl)) ?_
  intro W base args ds gs before hval0 hW hcnd _
  have hval : ∀ (j : Nat) t v, Try.f6.params[j]? = some t → args[j]? = some v → Value.okWide Try.prog W .any base t v := hval0
  have hW' := hW
  obtain ⟨p, q, hA0, hV, rfl, hfz, hnd⟩ := hW
  have hA : DataW.TrodAll enc Try.prog W 0 (fun _ => true) true Try.f6.params.toList args.toList ds p := hA0
  rw [Try.params6] at hA hval
  obtain ⟨v0, vs0, d0, ds0, p0, q0, hargs, rfl, rfl, h0, r0⟩ := trodAll_cons hA
  obtain ⟨v1, vs1, d1, ds1, p1, q1, rfl, rfl, rfl, h1, r1⟩ := trodAll_cons r0
  obtain ⟨rfl, rfl, rfl⟩ := trodAll_nil r1
  obtain rfl : args = #[v0, v1] := by cases args; simp_all
  obtain ⟨rfl, rfl⟩ := trodVars_none hV
  obtain ⟨a0, len0, cap0, rfl⟩ := okWide_slice Try.underlying22 (hval 0 22 v0 rfl rfl)
  have k0 := h0
  have lt0 : ∀ x ∈ p0, x.block < W.heap.size := by obtain ⟨m, hm⟩ := k0; exact DataW.trod_lt m _ _ _ hm
  obtain ⟨z0, _, w0⟩ : ∃ l : List Nj.Sv, l.length = len0 ∧ Nj.Sess W (.slice a0 len0 cap0) l := by
    obtain ⟨fuel, hf⟩ := h0
    exact K.open_sess hf
  obtain ⟨z1, rfl, w1⟩ := K.open_ses_arg (hval 1 38 v1 rfl rfl) h1
  have k1 := h1
  have lt1 : ∀ x ∈ p1, x.block < W.heap.size := by obtain ⟨m, hm⟩ := k1; exact DataW.trod_lt m _ _ _ hm
  clear hA0 hval0
  refine (walk _ z0 z1 W w0 w1).mono fun e W' ⟨he, bel⟩ => ?_
  subst he
  exact ⟨_, rfl, _, _, _, [], _, [], hW', trodAll_mk1 (shut_bool Try.underlying4 _), (trodAll_cons_mk (Below.trod laidOut (by kernel_rfl) (of_decide_eq_true (by kernel_rfl)) k0 bel lt0) (trodAll_cons_mk (Below.trod laidOut (by kernel_rfl) (of_decide_eq_true (by kernel_rfl)) k1 bel lt1) trodAll_mk0)), rfl, bel.frame _, fun h => by cases h⟩
theorem over : Rows.sessionOpensRow.holds Try.pinned (OpenSpec.ofChange Rows.sessionOpensSpec) :=
  OpenClaim.holds_of_wide 6 Try.f6 rfl rfl rfl rfl rfl rfl rfl ⟨rfl, rfl, rfl, rfl, rfl⟩ rfl rfl rfl rfl rfl (by kernel_rfl) Try.func6 (by kernel_rfl)
    (of_decide_eq_true (by kernel_rfl)) (by unfold Func.isWrapper; first | (rw [if_pos (by decide +kernel)]; kernel_rfl) | (rw [if_neg (by decide +kernel)]; exact ⟨rfl, rfl⟩))
    (fun os started H enc _ => lifted os started H enc)
/-- THE STATEMENT -/
theorem proved : Rows.SessionOpensSaid := over
end Go.Proofs.Ytlmkkfigmoefdaa.lawSessionOpens
#print axioms Go.Proofs.Ytlmkkfigmoefdaa.lawSessionOpens.proved

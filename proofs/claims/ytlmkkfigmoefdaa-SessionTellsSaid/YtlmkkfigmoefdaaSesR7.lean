/-
  CONTRACT of nightjarref18.Right.
-/
import Derived.Test.YtlmkkfigmoefdaaSes13
import Derived.Test.YtlmkkfigmoefdaaSes5
import Derived.Test.YtlmkkfigmoefdaaSesR2
import Derived.Test.YtlmkkfigmoefdaaSesPlain
set_option linter.unusedVariables false
set_option linter.unusedSimpArgs false
namespace Nj
/-- the first k, as the document looks at them -/
def okR (t : List Ses) (k : Nat) : Prop := ∀ j (hj : j < t.length), j < k → sesFits t[j] = true ∧ (∀ h : 0 < j, (t[j - 1]'(by omega)).id < t[j].id) ∧ cnt t t[j].user ≤ 4
theorem okR_succ {t : List Ses} {k : Nat} (h : okR t k) (hk : k < t.length) (h1 : sesFits t[k] = true) (h2 : ∀ h : 0 < k, (t[k - 1]'(by omega)).id < t[k].id) (h3 : cnt t t[k].user ≤ 4) : okR t (k + 1) := fun j hj hjk => by
  by_cases e : j = k
  · subst e; exact ⟨h1, h2, h3⟩
  · exact h j hj (by omega)
theorem okR_right {t : List Ses} (hl : t.length ≤ 32) (h : okR t t.length) : sesRight t = true := by
  unfold sesRight
  simp only [Bool.and_eq_true, decide_eq_true_eq, List.all_eq_true, sesUp_iff]
  refine ⟨hl, fun s hs => ?_, fun j hj => ?_, fun s hs => ?_⟩
  · obtain ⟨j, hj, rfl⟩ := List.getElem_of_mem hs
    exact (h j hj hj).1
  · exact (h (j + 1) hj hj).2.1 (by omega)
  · obtain ⟨j, hj, rfl⟩ := List.getElem_of_mem hs
    exact (h j hj hj).2.2
theorem okR_bad {t : List Ses} (k : Nat) (hk : k < t.length) (h : ¬ (sesFits t[k] = true ∧ (∀ h : 0 < k, (t[k - 1]'(by omega)).id < t[k].id) ∧ cnt t t[k].user ≤ 4)) : sesRight t = false := by
  cases e : sesRight t
  · rfl
  · exfalso
    apply h
    obtain ⟨_, h2, _, h4⟩ := right_parts e
    exact ⟨h2 _ (List.getElem_mem hk), (((sesRight_iff t).1 e).2 k hk hk).2.1, h4 _⟩
end Nj
namespace Go.Proofs.Ytlmkkfigmoefdaa.K
open Go Go.RowKit Nj

set_option maxRecDepth 100000 in
set_option maxHeartbeats 8000000 in
theorem rtright_any (v : Value) (l : List Sv) (w : World) (h : Sess w v l) :
    Calls Try.prog 11 #[v] w fun e w' => e = .returned (.bool (sesRight (cons l))) ∧ Hid (Below w.heap.size w w') := by
  have HS := Lib.hid h
  have hm : l.length ≤ 9223372036854775807 := h.1.1
  obtain ⟨p, cap, rfl, hcap⟩ := sess_shape h
  clear h
  have hcl := Lib.hid (show (cons l).length = l.length by simp [cons])
  go_enter Try.func11, Try.ntmps11
  by_cases h32 : 32 < l.length
  · have HF := Lib.hid (show sesRight (cons l) = false by
      cases e : sesRight (cons l)
      · rfl
      · have := (right_parts e).1; rw [hcl.out] at this; omega)
    have t1 : (32 : Int) < (l.length : Int) := by omega
    go_wp2_with fail
    go_ret
    exact ⟨ret_bool HF.out.symm, Lib.hid (Below.refl _ _)⟩
  have t32 : ¬ (32 : Int) < (l.length : Int) := by omega
  have hl0 : l.length ≤ 1000 := by omega
  go_wp2_with fail
  go_loopw [3] (fun i wr => ∃ k : Nat, k ≤ l.length ∧ i = .int .i64 k ∧ okR (cons l) k ∧ Below w.heap.size w wr) (fun i _ => l.length - (intOf i).toNat)
  case atStart => exact ⟨0, by omega, rfl, fun j _ h => by omega, Below.refl _ _⟩
  case round =>
    obtain ⟨k, hk, rfl, hok, hb⟩ := hrel
    have HK := Lib.hid hok
    have BA := Lib.hid hb
    clear hok hb
    by_cases hlt : k < l.length
    · obtain ⟨b, o, rfl, _⟩ := HS.out.1.open (by omega)
      obtain ⟨x, hx⟩ : ∃ x, x = l[k] := ⟨_, rfl⟩
      have hkc : k < (cons l).length := by rw [hcl.out]; exact hlt
      have HXc := Lib.hid (show (cons l)[k] = x.s by simp [cons, hx])
      have R0 := Lib.hid (ses_row (HS.out.1.keep (by decide) BA.out) k hlt x hx)
      have HSx := Lib.hid ((HS.out.2 x (by rw [hx]; exact List.getElem_mem hlt)).keep BA.out)
      have t1 : (k : Int) < (l.length : Int) := by omega
      have t2 : (0 : Int) ≤ (k : Int) := by omega
      have k0 := f_id R0.out
      have k1 := f_user R0.out
      have r0 := fun d os => cell_regrown k0 d os
      have r1 := fun d os => cell_regrown k1 d os
      obtain ⟨fb, hfb⟩ : ∃ fb, sesFits x.s = fb := ⟨_, rfl⟩
      have HFb := Lib.hid hfb
      have HC := Lib.hid (fun d os => reg_of (rfits_any x (Go.Sort.grow (redrawn wr d) os) (HSx.out.keep (below_regrown wr d os))))
      rw [hfb] at HC
      obtain ⟨n, hn⟩ : ∃ n, (sesOf (cons l) x.s.user).length = n := ⟨_, rfl⟩
      have HNn := Lib.hid (show cnt (cons l) x.s.user = n from hn)
      have HM := Lib.hid (fun d os => reg_of (rmany_any _ l x.s.user (Go.Sort.grow (redrawn wr d) os) (HS.out.keep (chain BA.out (below_regrown wr d os))) hl0 n hn))
      clear hfb hx hn
      go_upto_region 6 with fail
      cases fb with
      | false =>
        have HBad := Lib.hid (okR_bad k hkc (by rw [HXc.out]; rintro ⟨h, _⟩; rw [HFb.out] at h; cases h))
        refine wp_region_quiet_below (by kernel_rfl) (by kernel_rfl) ?_
        (try simp only [List.append_eq, List.cons_append, List.nil_append])
        repeat (first | go_big_quiet_skip | (go_big_quiet_want; first | ((first | refine quiet_ld R0 rfl rfl ?_); (try simp only [Act.put, List.setIfInBounds_toArray, List.set_cons_zero, List.set_cons_succ]); go_big_quiet_on) | (go_big_quiet_op; first | go_big_quiet_on | (apply Exists.intro; refine ⟨fun _ => ?_, ?_⟩; (focus ((first | (go_at_call 14; with_reducible exact HC.out _ _)))); go_big_quiet_on))))
        refine wpQuiet_nil ?_
        intro _ hw'
        obtain ⟨⟨dq, osq⟩, hw''⟩ := hw'
        subst hw''
        have BQ := Lib.hid (below_regrown wr dq osq)
        generalize Go.Sort.grow (redrawn wr dq) osq = w4 at BQ ⊢
        go_wp2_with fail
        go_ret
        exact ⟨ret_bool HBad.out.symm, Lib.hid (chain BA.out BQ.out)⟩
      | true =>
        by_cases hn4 : 4 < n
        · have HBad := Lib.hid (okR_bad k hkc (by rw [HXc.out, HNn.out]; rintro ⟨_, _, h⟩; omega))
          have u1 : (4 : Int) < (n : Int) := by omega
          have u1d := dec_t u1
          clear hn4
          refine wp_region_quiet_below (by kernel_rfl) (by kernel_rfl) ?_
          (try simp only [List.append_eq, List.cons_append, List.nil_append])
          repeat (first | go_big_quiet_skip | (go_big_quiet_want; first | ((first | refine quiet_ld R0 rfl rfl ?_); (try simp only [Act.put, List.setIfInBounds_toArray, List.set_cons_zero, List.set_cons_succ]); go_big_quiet_on) | (go_big_quiet_op; first | go_big_quiet_on | (apply Exists.intro; refine ⟨fun _ => ?_, ?_⟩; (focus ((first | (go_at_call 14; with_reducible exact HC.out _ _) | (go_at_call 33; with_reducible exact HM.out _ _)))); go_big_quiet_on))))
          refine wpQuiet_nil ?_
          intro _ hw'
          obtain ⟨⟨dq, osq⟩, hw''⟩ := hw'
          subst hw''
          have BQ := Lib.hid (below_regrown wr dq osq)
          generalize Go.Sort.grow (redrawn wr dq) osq = w4 at BQ ⊢
          go_wp2_with fail
          go_ret
          exact ⟨ret_bool HBad.out.symm, Lib.hid (chain BA.out BQ.out)⟩
        · have u1 : ¬ (4 : Int) < (n : Int) := by omega
          have u1d := dec_f u1
          clear hn4
          by_cases h0 : 0 < k
          · obtain ⟨m, rfl⟩ : ∃ m, k = m + 1 := ⟨k - 1, by omega⟩
            have hml : m < l.length := by omega
            obtain ⟨y, hy⟩ : ∃ y, y = l[m] := ⟨_, rfl⟩
            have q0 := f_id (ses_row (HS.out.1.keep (by decide) BA.out) m hml y hy)
            have rq := fun d os => cell_regrown q0 d os
            have HYc := Lib.hid (show (cons l)[m]'(by rw [hcl.out]; exact hml) = y.s by simp [cons, hy])
            have v1 : (0 : Int) < (m : Int) + 1 := by omega
            have v2 : (m : Int) < (l.length : Int) := by omega
            have v3 : (0 : Int) ≤ (m : Int) := by omega
            have hwr : IntKind.i64.wrap (m : Int) = (m : Int) := by rw [IntKind.wrap_i64]; omega
            clear hy
            simp only [Int.natCast_add, Int.cast_ofNat_Int] at t1 t2 ⊢
            by_cases hle : x.s.id ≤ y.s.id
            · have HBad := Lib.hid (okR_bad (m + 1) hkc (by rw [HXc.out]; rintro ⟨_, h, _⟩; have := h (by omega); simp only [Nat.add_sub_cancel, HYc.out] at this; omega))
              have v4 := dec_t hle
              refine wp_region_quiet_below (by kernel_rfl) (by kernel_rfl) ?_
              (try simp only [List.append_eq, List.cons_append, List.nil_append])
              repeat (first | go_big_quiet_skip | (go_big_quiet_want; first | ((first | refine quiet_ld R0 rfl rfl ?_); (try simp only [Act.put, List.setIfInBounds_toArray, List.set_cons_zero, List.set_cons_succ]); go_big_quiet_on) | (go_big_quiet_op; first | go_big_quiet_on | (apply Exists.intro; refine ⟨fun _ => ?_, ?_⟩; (focus ((first | (go_at_call 14; with_reducible exact HC.out _ _) | (go_at_call 33; with_reducible exact HM.out _ _)))); go_big_quiet_on))))
              refine wpQuiet_nil ?_
              intro _ hw'
              obtain ⟨⟨dq, osq⟩, hw''⟩ := hw'
              subst hw''
              have BQ := Lib.hid (below_regrown wr dq osq)
              generalize Go.Sort.grow (redrawn wr dq) osq = w4 at BQ ⊢
              go_wp2_with fail
              go_ret
              exact ⟨ret_bool HBad.out.symm, Lib.hid (chain BA.out BQ.out)⟩
            · have HOk := Lib.hid (okR_succ HK.out hkc (by rw [HXc.out]; exact HFb.out) (fun _ => by simp only [Nat.add_sub_cancel, HYc.out, HXc.out]; omega) (by rw [HXc.out, HNn.out]; omega))
              have v4 := dec_f hle
              refine wp_region_quiet_below (by kernel_rfl) (by kernel_rfl) ?_
              (try simp only [List.append_eq, List.cons_append, List.nil_append])
              repeat (first | go_big_quiet_skip | (go_big_quiet_want; first | ((first | refine quiet_ld R0 rfl rfl ?_); (try simp only [Act.put, List.setIfInBounds_toArray, List.set_cons_zero, List.set_cons_succ]); go_big_quiet_on) | (go_big_quiet_op; first | go_big_quiet_on | (apply Exists.intro; refine ⟨fun _ => ?_, ?_⟩; (focus ((first | (go_at_call 14; with_reducible exact HC.out _ _) | (go_at_call 33; with_reducible exact HM.out _ _)))); go_big_quiet_on))))
              refine wpQuiet_nil ?_
              intro _ hw'
              obtain ⟨⟨dq, osq⟩, hw''⟩ := hw'
              subst hw''
              have BQ := Lib.hid (below_regrown wr dq osq)
              generalize Go.Sort.grow (redrawn wr dq) osq = w4 at BQ ⊢
              go_wp2_with fail
              go_roundw
              case rel => exact ⟨m + 1 + 1, by omega, by go_num, HOk.out, chain BA.out BQ.out⟩
              case measure => simp [intOf]; omega
          · obtain rfl : k = 0 := by omega
            have HOk := Lib.hid (okR_succ HK.out hkc (by rw [HXc.out]; exact HFb.out) (fun h => absurd h h0) (by rw [HXc.out, HNn.out]; omega))
            simp only [Nat.zero_mul, Nat.add_zero] at k0 k1 r0 r1
            replace R0 := Lib.hid (show wr.rangeAt b o x.cells by have := R0.out; simpa using this)
            have t1z : (0 : Int) < (l.length : Int) := by omega
            refine wp_region_quiet_below (by kernel_rfl) (by kernel_rfl) ?_
            (try simp only [List.append_eq, List.cons_append, List.nil_append])
            repeat (first | go_big_quiet_skip | (go_big_quiet_want; first | ((first | refine quiet_ld R0 rfl rfl ?_); (try simp only [Act.put, List.setIfInBounds_toArray, List.set_cons_zero, List.set_cons_succ]); go_big_quiet_on) | (go_big_quiet_op; first | go_big_quiet_on | (apply Exists.intro; refine ⟨fun _ => ?_, ?_⟩; (focus ((first | (go_at_call 14; with_reducible exact HC.out _ _) | (go_at_call 33; with_reducible exact HM.out _ _)))); go_big_quiet_on))))
            refine wpQuiet_nil ?_
            intro _ hw'
            obtain ⟨⟨dq, osq⟩, hw''⟩ := hw'
            subst hw''
            have BQ := Lib.hid (below_regrown wr dq osq)
            generalize Go.Sort.grow (redrawn wr dq) osq = w4 at BQ ⊢
            go_wp2_with fail
            go_roundw
            case rel => exact ⟨1, by omega, by go_num, HOk.out, chain BA.out BQ.out⟩
            case measure => simp [intOf]; omega
    · have hke : k = l.length := by omega
      subst hke
      have HE := Lib.hid (show sesRight (cons l) = true from okR_right (by rw [hcl.out]; omega) (by rw [hcl.out]; exact HK.out))
      have t1 : decide ((l.length : Int) < (l.length : Int)) = false := by simp
      go_wp2_with fail
      go_ret
      exact ⟨ret_bool HE.out.symm, BA⟩
end Go.Proofs.Ytlmkkfigmoefdaa.K

/-
  CONTRACT of nightjarref18.Same.
-/
import Derived.Test.YtlmkkfigmoefdaaSesOne
import Derived.Test.YtlmkkfigmoefdaaSesQ
set_option linter.unusedVariables false
set_option linter.unusedSimpArgs false
namespace Go.Proofs.Ytlmkkfigmoefdaa.K
open Go Go.RowKit Nj

set_option maxRecDepth 100000 in
set_option maxHeartbeats 8000000 in
theorem rtsame_any (v v' : Value) (l m : List Sv) (b : Bool) (w : World) (h : Sess w v l) (h' : Sess w v' m) (hb : decide (cons l = cons m) = b) :
    Calls Try.prog 24 #[v, v'] w fun e w' => e = .returned (.bool b) ∧ Hid (Below w.heap.size w w') := by
  subst hb
  have HS := Lib.hid h
  have HS' := Lib.hid h'
  have hm : l.length ≤ 9223372036854775807 := h.1.1
  have hm' : m.length ≤ 9223372036854775807 := h'.1.1
  obtain ⟨p, cap, rfl, hcap⟩ := sess_shape h
  obtain ⟨p', cap', rfl, hcap'⟩ := sess_shape h'
  clear h h'
  by_cases hlen : l.length = m.length
  · obtain ⟨n, hn⟩ : ∃ n, n = l.length := ⟨_, rfl⟩
    have hn' : n = m.length := by omega
    rw [← hn] at hm hcap
    rw [← hn'] at hm' hcap'
    have HN := Lib.hid hn
    have HN' := Lib.hid hn'
    rw [← hn, ← hn']
    rw [← hn] at HS
    rw [← hn'] at HS'
    clear hlen hn hn' hm'
    go_enter Try.func24, Try.ntmps24
    go_wp2_with fail
    go_loopw [5] (fun i wr => ∃ k : Nat, k ≤ n ∧ i = .int .i64 k ∧ (cons l).take k = (cons m).take k ∧ Below w.heap.size w wr) (fun i _ => n - (intOf i).toNat)
    case atStart => exact ⟨0, by omega, rfl, by simp, Below.refl _ _⟩
    case round =>
      obtain ⟨k, hk, rfl, hall, hwb⟩ := hrel
      have HA := Lib.hid hall
      have BA := Lib.hid hwb
      clear hall hwb
      by_cases hlt : k < n
      · have hltl : k < l.length := by rw [← HN.out]; exact hlt
        have hltm : k < m.length := by rw [← HN'.out]; exact hlt
        obtain ⟨b, o, rfl, _⟩ := HS.out.1.open (by omega)
        obtain ⟨b', o', rfl, _⟩ := HS'.out.1.open (by omega)
        obtain ⟨x, hx⟩ : ∃ x, x = l[k] := ⟨_, rfl⟩
        obtain ⟨y, hy⟩ : ∃ y, y = m[k] := ⟨_, rfl⟩
        have R0 := Lib.hid (ses_row (HS.out.1.keep (by decide) BA.out) k hltl x hx)
        have R1 := Lib.hid (ses_row (HS'.out.1.keep (by decide) BA.out) k hltm y hy)
        have HSx := Lib.hid ((HS.out.2 x (by rw [hx]; exact List.getElem_mem hltl)).keep BA.out)
        have HSy := Lib.hid ((HS'.out.2 y (by rw [hy]; exact List.getElem_mem hltm)).keep BA.out)
        have HT := Lib.hid (show x.s = y.s → (cons l).take (k + 1) = (cons m).take (k + 1) by
          intro e
          rw [List.take_add_one, List.take_add_one, HA.out, List.getElem?_eq_getElem (by simpa [cons] using hltl), List.getElem?_eq_getElem (by simpa [cons] using hltm)]
          simp [cons, ← hx, ← hy, e])
        have HF := Lib.hid (show x.s ≠ y.s → decide (cons l = cons m) = false by
          intro hne
          simp only [decide_eq_false_iff_not]
          intro e
          apply hne
          have e2 : (cons l)[k]? = (cons m)[k]? := by rw [e]
          rw [List.getElem?_eq_getElem (by simpa [cons] using hltl), List.getElem?_eq_getElem (by simpa [cons] using hltm)] at e2
          simpa [cons, ← hx, ← hy] using e2)
        have t1 : (k : Int) < (n : Int) := by omega
        have t2 : (0 : Int) ≤ (k : Int) := by omega
        obtain ⟨eb, heb⟩ : ∃ eb, decide (x.s = y.s) = eb := ⟨_, rfl⟩
        have HEb := Lib.hid heb
        have HOn := Lib.hid (fun d os => reg_of (rone_any x y (Go.Sort.grow (redrawn wr d) os) (HSx.out.keep (below_regrown wr d os)) (HSy.out.keep (below_regrown wr d os))))
        rw [heb] at HOn
        clear hx hy heb
        go_upto_region 6 with fail
        refine wp_region_quiet_below (by kernel_rfl) (by kernel_rfl) ?_
        (try simp only [List.append_eq, List.cons_append, List.nil_append])
        repeat (first | go_big_quiet_skip | (go_big_quiet_want; first | ((first | refine quiet_ld R0 rfl rfl ?_ | refine quiet_ld R1 rfl rfl ?_); (try simp only [Act.put, List.setIfInBounds_toArray, List.set_cons_zero, List.set_cons_succ]); go_big_quiet_on) | (go_big_quiet_op; first | go_big_quiet_on | (apply Exists.intro; refine ⟨fun _ => ?_, ?_⟩; (focus ((first | (go_at_call 23; with_reducible exact HOn.out _ _)))); go_big_quiet_on))))
        refine wpQuiet_nil ?_
        intro _ hw'
        obtain ⟨⟨dq, osq⟩, hw''⟩ := hw'
        subst hw''
        have BQ := Lib.hid (below_regrown wr dq osq)
        generalize Go.Sort.grow (redrawn wr dq) osq = w6 at BQ ⊢
        cases eb with
        | true =>
          have HT2 := Lib.hid (HT.out (of_decide_eq_true HEb.out))
          go_wp2_with fail
          go_roundw
          case rel => exact ⟨k + 1, by omega, by go_num, HT2.out, chain BA.out BQ.out⟩
          case measure => simp [intOf]; omega
        | false =>
          have HF2 := Lib.hid (HF.out (of_decide_eq_false HEb.out))
          go_wp2_with fail
          go_ret
          exact ⟨ret_bool HF2.out.symm, Lib.hid (chain BA.out BQ.out)⟩
      · have hke : k = n := by omega
        subst hke
        have HF := Lib.hid (show decide (cons l = cons m) = true by
          have := HA.out
          rw [List.take_of_length_le (by simp [cons, ← HN.out]), List.take_of_length_le (by simp [cons, ← HN'.out])] at this
          simpa using this)
        have t1 : decide ((k : Int) < (k : Int)) = false := by simp
        go_wp2_with fail
        go_ret
        exact ⟨ret_bool HF.out.symm, BA⟩
  · have HF := Lib.hid (show decide (cons l = cons m) = false by
      simp only [decide_eq_false_iff_not]
      intro e
      exact hlen (by simpa [cons] using congrArg List.length e))
    have t1 : ((l.length : Int) != (m.length : Int)) = true := by simp; omega
    go_enter Try.func24, Try.ntmps24
    go_wp2_with fail
    go_ret
    exact ⟨ret_bool HF.out.symm, Lib.hid (Below.refl _ _)⟩
end Go.Proofs.Ytlmkkfigmoefdaa.K

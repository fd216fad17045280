/-
  CONTRACT of session.Right.
-/
import Derived.Test.YtlmkkfigmoefdaaSes4
import Derived.Test.YtlmkkfigmoefdaaSesQ
set_option linter.unusedVariables false
set_option linter.unusedSimpArgs false
namespace Nj
open Go
def cnt (t : List Ses) (u : Int) : Nat := (sesOf t u).length
theorem cnt_snoc (t : List Ses) (s : Ses) (u : Int) : cnt (t ++ [s]) u = cnt t u + if s.user = u then 1 else 0 := by
  unfold cnt sesOf
  rw [List.filter_append, List.map_append, List.length_append]
  congr 1
  by_cases h : s.user = u <;> simp [h]
theorem cnt_take_succ (t : List Ses) (k : Nat) (hk : k < t.length) (u : Int) : cnt (t.take (k + 1)) u = cnt (t.take k) u + if t[k].user = u then 1 else 0 := by
  rw [List.take_add_one, List.getElem?_eq_getElem hk]
  exact cnt_snoc _ _ _
/-- the first k are right, each as the program looks at it -/
def okTo (t : List Ses) (k : Nat) : Prop := ∀ j (hj : j < t.length), j < k → sesFits t[j] = true ∧ (∀ h : 0 < j, (t[j - 1]'(by omega)).id < t[j].id) ∧ cnt (t.take (j + 1)) t[j].user ≤ 4
theorem okTo_zero (t : List Ses) : okTo t 0 := fun j _ h => by omega
theorem okTo_succ {t : List Ses} {k : Nat} (h : okTo t k) (hk : k < t.length) (h1 : sesFits t[k] = true) (h2 : ∀ h : 0 < k, (t[k - 1]'(by omega)).id < t[k].id) (h3 : cnt (t.take (k + 1)) t[k].user ≤ 4) : okTo t (k + 1) := fun j hj hjk => by
  by_cases e : j = k
  · subst e; exact ⟨h1, h2, h3⟩
  · exact h j hj (by omega)
theorem cnt_le {t : List Ses} : ∀ {k : Nat}, okTo t k → k ≤ t.length → ∀ u, cnt (t.take k) u ≤ 4
  | 0, _, _, u => by simp [cnt, sesOf]
  | k + 1, h, hk, u => by
    have ih := cnt_le (k := k) (fun j hj hjk => h j hj (by omega)) (by omega) u
    have e := cnt_take_succ t k (by omega) u
    by_cases hu : t[k].user = u
    · have := (h k (by omega) (by omega)).2.2
      rw [hu] at this; exact this
    · rw [if_neg hu] at e; omega
theorem sesUp_iff : ∀ (t : List Ses), sesUp t = true ↔ ∀ j (h : j + 1 < t.length), t[j].id < t[j + 1].id
  | [] => by simp [sesUp]
  | [a] => by simp [sesUp]
  | a :: b :: l => by
    have ih := sesUp_iff (b :: l)
    simp only [sesUp, Bool.and_eq_true, decide_eq_true_eq, ih]
    constructor
    · rintro ⟨h1, h2⟩ j hj
      cases j with
      | zero => simpa using h1
      | succ j => exact h2 j (by simpa using hj)
    · intro h
      refine ⟨by simpa using h 0 (by simp), fun j hj => ?_⟩
      have := h (j + 1) (by simp at hj ⊢; omega)
      simpa using this
theorem sesRight_iff (t : List Ses) : sesRight t = true ↔ t.length ≤ 32 ∧ okTo t t.length := by
  unfold sesRight
  simp only [Bool.and_eq_true, decide_eq_true_eq, List.all_eq_true, sesUp_iff]
  constructor
  · rintro ⟨h1, h2, h3, h4⟩
    refine ⟨h1, fun j hj _ => ⟨h2 _ (List.getElem_mem hj), fun h0 => ?_, ?_⟩⟩
    · obtain ⟨i, rfl⟩ : ∃ i, j = i + 1 := ⟨j - 1, by omega⟩
      exact h3 i hj
    · have := h4 _ (List.getElem_mem hj)
      refine Nat.le_trans ?_ this
      unfold cnt sesOf
      rw [List.length_map, List.length_map]
      exact ((List.take_sublist (j + 1) t).filter _).length_le
  · rintro ⟨h1, h2⟩
    refine ⟨h1, fun s hs => ?_, fun j hj => ?_, fun s hs => ?_⟩
    · obtain ⟨j, hj, rfl⟩ := List.getElem_of_mem hs
      exact (h2 j hj hj).1
    · exact (h2 (j + 1) hj hj).2.1 (by omega)
    · have := cnt_le h2 (Nat.le_refl _) s.user
      rw [List.take_length] at this
      exact this
theorem sesRight_bad {t : List Ses} (k : Nat) (hk : k < t.length) (h : ¬ (sesFits t[k] = true ∧ (∀ h : 0 < k, (t[k - 1]'(by omega)).id < t[k].id) ∧ cnt (t.take (k + 1)) t[k].user ≤ 4)) : sesRight t = false := by
  cases e : sesRight t
  · rfl
  · exact absurd (((sesRight_iff t).1 e).2 k hk hk) h
/-- how many of each user, as the program keeps them -/
def perArr (t : List Ses) : Array Value := ((List.range 17).map fun u : Nat => Value.int .i64 (cnt t u)).toArray
theorem perArr_size (t : List Ses) : (perArr t).size = 17 := by simp [perArr]
theorem perArr_get (t : List Ses) (u : Nat) (hu : u < 17) : (perArr t)[u]? = some (.int .i64 (cnt t u)) := by
  simp [perArr, hu]
theorem perArr_set (t : List Ses) (s : Ses) (U : Nat) (hU : s.user = (U : Int)) (h17 : U < 17) : (perArr t).setIfInBounds U (.int .i64 ((cnt t U : Int) + 1)) = perArr (t ++ [s]) := by
  apply Array.ext_getElem?
  intro i
  by_cases hi : i < 17
  · rw [perArr_get _ _ hi, cnt_snoc, Array.getElem?_setIfInBounds]
    by_cases e : U = i
    · subst e
      simp [perArr_size, h17, hU]
    · rw [if_neg e, perArr_get _ _ hi, if_neg (by rw [hU]; omega)]
      simp
  · rw [Array.getElem?_eq_none (by rw [Array.size_setIfInBounds, perArr_size]; omega), Array.getElem?_eq_none (by rw [perArr_size]; omega)]
end Nj
namespace Go.Proofs.Ytlmkkfigmoefdaa.K
open Go Go.RowKit Nj

set_option maxRecDepth 100000 in
set_option maxHeartbeats 8000000 in
theorem sesright_any (v : Value) (l : List Sv) (w : World) (h : Sess w v l) :
    Calls Try.prog 10 #[v] w fun e w' => e = .returned (.bool (sesRight (cons l))) ∧ Hid (Below w.heap.size w w') := by
  have HS := Lib.hid h
  have hm : l.length ≤ 9223372036854775807 := h.1.1
  obtain ⟨p, cap, rfl, hcap⟩ := sess_shape h
  clear h
  have hcl := Lib.hid (show (cons l).length = l.length by simp [cons])
  go_enter Try.func10, Try.ntmps10
  go_upto_region 2 with fail
  refine gen_wp (fun w1 => Hid (w1.heap[w.heap.size]? = some (.cells (perArr []) 62)) ∧ Hid (Below w.heap.size w w1) ∧ True) ⟨Lib.hid (heap_new _ _ _ rfl), Lib.hid (by (repeat (first | (with_reducible exact Below.refl _ _) | (with_reducible refine bel_set (by first | omega | (simp; done) | (simp; omega)) ?_) | (with_reducible refine bel_alloc (by first | omega | (simp; done) | (simp; omega)) ?_) | (with_reducible refine bel_drew ?_) | (with_reducible refine bel_drewN ?_ _))); first | done | fail "left"), trivial⟩ ?_
  rintro w1 ⟨A3, BA, -⟩
  go_wp2_with fail
  go_loopw [8] (fun i wr => ∃ k : Nat, k ≤ l.length ∧ i = .int .i64 k ∧ okTo (cons l) k ∧ wr.heap[w.heap.size]? = some (.cells (perArr ((cons l).take k)) 62) ∧ Below w.heap.size w wr) (fun i _ => l.length - (intOf i).toNat)
  case atStart => exact ⟨0, by omega, rfl, okTo_zero _, A3.out, BA.out⟩
  case round =>
    obtain ⟨k, hk, rfl, hok, ha3, hb⟩ := hrel
    have HK := Lib.hid hok
    clear A3 BA
    have A3 := Lib.hid ha3
    have BA := Lib.hid hb
    clear hok ha3 hb
    by_cases hlt : k < l.length
    · obtain ⟨b, o, rfl, _⟩ := HS.out.1.open (by omega)
      obtain ⟨x, hx⟩ : ∃ x, x = l[k] := ⟨_, rfl⟩
      have hkc : k < (cons l).length := by rw [hcl.out]; exact hlt
      have HXc := Lib.hid (show (cons l)[k] = x.s by simp [cons, hx])
      have R0 := Lib.hid (ses_row (HS.out.1.keep (by decide) BA.out) k hlt x hx)
      have HSx := Lib.hid (HS.out.2 x (by rw [hx]; exact List.getElem_mem hlt))
      have t1 : (k : Int) < (l.length : Int) := by omega
      have t2 : (0 : Int) ≤ (k : Int) := by omega
      have hs3 := block_lt A3.out
      clear hx
      go_upto_region 5 with (first | (refine ldl R0 rfl rfl rfl ?_) | (refine stl (Lib.hid (heap_new wr (.cells #[.int .i64 0, .int .i64 0, .int .i64 0, .int .i64 0, .int .u8 0, .int .u8 0, .int .u8 0, .int .u8 0, .int .u8 0, .int .u8 0, .int .u8 0, .int .u8 0, .int .u8 0, .int .u8 0, .int .u8 0, .int .u8 0, .int .u8 0, .int .u8 0, .int .u8 0, .int .u8 0, .int .i64 0, .int .i64 0, .int .i64 0, .slice none 0 0, .int .i64 0, .int .i64 0, .int .i64 0, .slice none 0 0, .int .i64 0, .int .i64 0, .int .i64 0, .int .i64 0, .int .i64 0, .int .i64 0, .bool false] 38) wr.heap.size rfl)) rfl rfl rfl rfl rfl ?_; intro w3 A5 M3; have B3 := Lib.hid (Mod.below (B := wr.heap.size) M3.out ((Below.refl wr.heap.size wr).alloc (Nat.le_refl _) _) (by simp) (fun k hk => by omega))))
      simp only [Act.put]
      replace BA := Lib.hid (chain BA.out B3.out)
      replace A3 := Lib.hid (keepb A3.out B3.out)
      replace R0 := Lib.hid (rangeAt_keep R0.out B3.out)
      have R5 := Lib.hid (rangeAt_block A5.out)
      obtain ⟨fb, hfb⟩ : ∃ fb, sesFits x.s = fb := ⟨_, rfl⟩
      have HFb := Lib.hid hfb
      have HC := Lib.hid (fun d os => reg_of (sfits_any x (Go.Sort.grow (redrawn w3 d) os) (HSx.out.keep (chain BA.out (below_regrown w3 d os)))))
      rw [hfb] at HC
      clear hfb
      cases fb with
      | false =>
        have HBad := Lib.hid (sesRight_bad k hkc (by rw [HXc.out]; rintro ⟨h, _⟩; rw [HFb.out] at h; cases h))
        refine wp_region_quiet_below (by kernel_rfl) (by kernel_rfl) ?_
        (try simp only [List.append_eq, List.cons_append, List.nil_append])
        repeat (first | go_big_quiet_skip | (go_big_quiet_want; first | ((first | refine quiet_ld R5 rfl rfl ?_); (try simp only [Act.put, List.setIfInBounds_toArray, List.set_cons_zero, List.set_cons_succ]); go_big_quiet_on) | (go_big_quiet_op; first | go_big_quiet_on | (apply Exists.intro; refine ⟨fun _ => ?_, ?_⟩; (focus ((first | (go_at_call 13; with_reducible exact HC.out _ _)))); go_big_quiet_on))))
        refine wpQuiet_nil ?_
        intro _ hw'
        obtain ⟨⟨dq, osq⟩, hw''⟩ := hw'
        subst hw''
        have BQ := Lib.hid (below_regrown w3 dq osq)
        generalize Go.Sort.grow (redrawn w3 dq) osq = w4 at BQ ⊢
        go_wp2_with fail
        go_ret
        exact ⟨ret_bool HBad.out.symm, Lib.hid (chain BA.out BQ.out)⟩
      | true =>
        have g0 := g_id R5.out
        have r0 := fun d os => cell_regrown g0 d os
        obtain ⟨lb, hlb⟩ : ∃ lb : Bool, lb = (decide (0 < k) && decide (x.s.id ≤ ((cons l).getD (k - 1) (⟨0, 0, 0, 0, ⟨0, 0, 0, 0, 0, 0, 0, 0, 0, 0, 0, 0, 0, 0, 0, 0⟩, 0, 0, 0, [], 0, 0, ⟨⟨0, [], 0, 0⟩, ⟨0, 0, 0, 0, false⟩⟩⟩ : Ses)).id)) := ⟨_, rfl⟩
        have HLb := Lib.hid hlb
        go_cut [30] (fun s30 wx => s30 = .bool lb ∧ Below w3.heap.size w3 wx)
        case first =>
          by_cases h0 : 0 < k
          · obtain ⟨m, rfl⟩ : ∃ m, k = m + 1 := ⟨k - 1, by omega⟩
            have hml : m < l.length := by omega
            obtain ⟨y, hy⟩ : ∃ y, y = l[m] := ⟨_, rfl⟩
            have q0 := f_id (ses_row (HS.out.1.keep (by decide) BA.out) m hml y hy)
            have rq := fun d os => cell_regrown q0 d os
            have hE := Lib.hid (show decide (x.s.id ≤ y.s.id) = lb by
              rw [hlb, List.getD_eq_getElem?_getD, Nat.add_sub_cancel, List.getElem?_eq_getElem (by rw [hcl.out]; exact hml)]
              simp [cons, hy])
            have u1 : (0 : Int) < ((m + 1 : Nat) : Int) := by omega
            have u2 : (m : Int) < (l.length : Int) := by omega
            have u3 : (0 : Int) ≤ (m : Int) := by omega
            have hwr : IntKind.i64.wrap (m : Int) = (m : Int) := by rw [IntKind.wrap_i64]; omega
            clear hlb hy
            simp only [Int.natCast_add, Int.cast_ofNat_Int] at u1 t1 t2 ⊢
            refine wp_region_quiet_below (by kernel_rfl) (by kernel_rfl) ?_
            (try simp only [List.append_eq, List.cons_append, List.nil_append])
            repeat (first | go_big_quiet_skip | (go_big_quiet_want; first | ((first | refine quiet_ld R5 rfl rfl ?_); (try simp only [Act.put, List.setIfInBounds_toArray, List.set_cons_zero, List.set_cons_succ]); go_big_quiet_on) | (go_big_quiet_op; first | go_big_quiet_on | (apply Exists.intro; refine ⟨fun _ => ?_, ?_⟩; (focus ((first | (go_at_call 13; with_reducible exact HC.out _ _)))); go_big_quiet_on))))
            refine wpQuiet_nil ?_
            intro _ hw'
            obtain ⟨⟨dq, osq⟩, hw''⟩ := hw'
            subst hw''
            have BQ := Lib.hid (below_regrown w3 dq osq)
            generalize Go.Sort.grow (redrawn w3 dq) osq = w4 at BQ ⊢
            go_wp2_with fail
            go_meet
            case rel => exact ⟨by rw [← hE.out], BQ.out⟩
          · obtain rfl : k = 0 := by omega
            have hE : lb = false := by rw [hlb]; simp
            subst hE
            clear hlb
            refine wp_region_quiet_below (by kernel_rfl) (by kernel_rfl) ?_
            (try simp only [List.append_eq, List.cons_append, List.nil_append])
            repeat (first | go_big_quiet_skip | (go_big_quiet_want; first | ((first | refine quiet_ld R5 rfl rfl ?_); (try simp only [Act.put, List.setIfInBounds_toArray, List.set_cons_zero, List.set_cons_succ]); go_big_quiet_on) | (go_big_quiet_op; first | go_big_quiet_on | (apply Exists.intro; refine ⟨fun _ => ?_, ?_⟩; (focus ((first | (go_at_call 13; with_reducible exact HC.out _ _)))); go_big_quiet_on))))
            refine wpQuiet_nil ?_
            intro _ hw'
            obtain ⟨⟨dq, osq⟩, hw''⟩ := hw'
            subst hw''
            have BQ := Lib.hid (below_regrown w3 dq osq)
            generalize Go.Sort.grow (redrawn w3 dq) osq = w4 at BQ ⊢
            go_wp2_with fail
            go_meet
            case rel => exact ⟨rfl, BQ.out⟩
        case rest =>
          obtain ⟨rfl, hbb⟩ := hcut
          obtain ⟨w4, hw4⟩ : ∃ w4, w4 = wc := ⟨_, rfl⟩
          subst hw4
          have B4 := Lib.hid hbb
          clear hbb g0 r0 hlb HC R0
          replace A3 := Lib.hid (keepb A3.out B4.out)
          replace BA := Lib.hid (chain BA.out B4.out)
          replace A5 := Lib.hid (keepb A5.out B4.out)
          have g1 := g_user (rangeAt_block A5.out)
          have hs5 := block_lt A5.out
          clear B4 B3 R5 hs3
          have HUp := Lib.hid (show (∀ h : 0 < k, ((cons l)[k - 1]'(by omega)).id < (cons l)[k].id) ↔ lb = false by
            rw [HLb.out, HXc.out, List.getD_eq_getElem?_getD, List.getElem?_eq_getElem (show k - 1 < (cons l).length by omega)]
            simp only [Option.getD_some, Bool.and_eq_false_iff, decide_eq_false_iff_not]
            constructor
            · intro h
              by_cases h0 : 0 < k
              · exact .inr (by have := h h0; omega)
              · exact .inl h0
            · rintro (h | h) h0
              · exact absurd h0 h
              · omega)
          cases lb with
          | true =>
            have HBad := Lib.hid (sesRight_bad k hkc (by rintro ⟨_, h, _⟩; have := HUp.out.1 h; cases this))
            go_wp2_with fail
            go_ret
            exact ⟨ret_bool HBad.out.symm, BA⟩
          | false =>
            have hwho : 1 ≤ x.s.user ∧ x.s.user ≤ 16 := by
              have := HFb.out
              simp only [sesFits, sesWho, Bool.and_eq_true, decide_eq_true_eq] at this
              omega
            obtain ⟨U, hU⟩ : ∃ U, U = x.s.user.toNat := ⟨_, rfl⟩
            have HU := Lib.hid (show x.s.user = (U : Int) by omega)
            have hU17 : U < 17 := by omega
            obtain ⟨c, hc⟩ : ∃ c, c = cnt ((cons l).take k) U := ⟨_, rfl⟩
            have hc4 : c ≤ 4 := by rw [hc]; exact cnt_le HK.out (by omega) _
            have HCn := Lib.hid (show cnt ((cons l).take (k + 1)) x.s.user = c + 1 by
              rw [cnt_take_succ _ _ hkc, HXc.out, if_pos rfl, hc, HU.out])
            have C3 := Lib.hid (show w4.cell? ⟨w.heap.size, x.s.user.toNat, none⟩ = some (.int .i64 c) by
              rw [cell_of_block A3.out, ← hU, perArr_get _ _ hU17, hc])
            have c3 := C3.out
            have f3 := frozen_of_block A3.out
            have u1 : (0 : Int) ≤ x.s.user := by omega
            have u2 : x.s.user < 17 := by omega
            have hm1 : w.heap.size ≠ wr.heap.size := by have := block_lt A3.out; intro e; have h3 := A3.out; have h5 := A5.out; rw [e, h5] at h3; simp only [Option.some.injEq, Obj.cells.injEq] at h3; exact absurd h3.2.1 (by decide)
            have HUn := Lib.hid hU
            have HCc := Lib.hid hc
            have hwr : IntKind.i64.wrap ((c : Int) + 1) = (c : Int) + 1 := by rw [IntKind.wrap_i64]; omega
            clear hU hc
            go_upto_region 8 with fail
            refine gen_wp (fun w7 => Hid (w7.heap[w.heap.size]? = some (.cells ((perArr ((cons l).take k)).setIfInBounds x.s.user.toNat (.int .i64 ((c : Int) + 1))) 62)) ∧ Hid (w7.heap[wr.heap.size]? = some (.cells x.cells.toArray 38)) ∧ Hid (Below w.heap.size w w7) ∧ True) ⟨Lib.hid (heap_set_same A3.out _ _), Lib.hid ((heap_set_other hm1.symm).trans A5.out), Lib.hid (by have hbsz := Below.size (BA.out); (repeat (first | (with_reducible exact BA.out) | (with_reducible refine bel_set (by first | omega | (simp; done) | (simp; omega)) ?_) | (with_reducible refine bel_alloc (by first | omega | (simp; done) | (simp; omega)) ?_) | (with_reducible refine bel_drew ?_) | (with_reducible refine bel_drewN ?_ _))); first | done | fail "left"), trivial⟩ ?_
            rintro w7 ⟨A3n, A5n, BA7, -⟩
            clear c3 f3 g1
            have g1 := g_user (rangeAt_block A5n.out)
            have c3 : w7.cell? ⟨w.heap.size, x.s.user.toNat, none⟩ = some (.int .i64 ((c : Int) + 1)) := by
              rw [cell_of_block A3n.out, ← HUn.out, Array.getElem?_setIfInBounds]
              simp [perArr_size, hU17]
            have HA3 := Lib.hid (show w7.heap[w.heap.size]? = some (.cells (perArr ((cons l).take (k + 1))) 62) by
              rw [A3n.out, ← HUn.out, HCc.out, perArr_set _ x.s U HU.out hU17, List.take_add_one, List.getElem?_eq_getElem hkc, HXc.out]; rfl)
            by_cases hc3 : 4 < c + 1
            · have HBad := Lib.hid (sesRight_bad k hkc (by rw [HXc.out, HCn.out]; rintro ⟨_, _, h⟩; omega))
              have u5 : (4 : Int) < (c : Int) + 1 := by omega
              clear hc3
              go_wp2_with fail
              go_ret
              exact ⟨ret_bool HBad.out.symm, BA7⟩
            · have HOk := Lib.hid (okTo_succ HK.out hkc (by rw [HXc.out]; exact HFb.out) (HUp.out.2 rfl) (by rw [HXc.out, HCn.out]; omega))
              have u5 : ¬ (4 : Int) < (c : Int) + 1 := by omega
              clear hc3
              go_wp2_with fail
              go_roundw
              case rel => exact ⟨k + 1, by omega, by go_num, HOk.out, HA3.out, BA7.out⟩
              case measure => simp [intOf]; omega
    · have hke : k = l.length := by omega
      subst hke
      have HE := Lib.hid (show decide ((l.length : Int) ≤ 32) = sesRight (cons l) by
        rw [Bool.eq_iff_iff, sesRight_iff, decide_eq_true_eq, hcl.out]
        exact ⟨fun h => ⟨by omega, HK.out⟩, fun h => by have := h.1; omega⟩)
      have t1 : decide ((l.length : Int) < (l.length : Int)) = false := by simp
      go_wp2_with fail
      go_ret
      exact ⟨ret_bool HE.out, BA⟩
end Go.Proofs.Ytlmkkfigmoefdaa.K

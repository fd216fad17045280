/-
  CONTRACT of nightjarref18.Open.
-/
import Derived.Test.YtlmkkfigmoefdaaSes11
import Derived.Test.YtlmkkfigmoefdaaSes5
import Derived.Test.YtlmkkfigmoefdaaSesR1
import Derived.Test.YtlmkkfigmoefdaaSesR2
import Derived.Test.YtlmkkfigmoefdaaSesQ
set_option linter.unusedVariables false
set_option linter.unusedSimpArgs false
namespace Go.Proofs.Ytlmkkfigmoefdaa.K
open Go Go.RowKit Nj

set_option maxRecDepth 100000 in
set_option maxHeartbeats 8000000 in
theorem ropen_any (v : Value) (l : List Sv) (x : Sv) (w : World) (h : Sess w v l) (hl : SmS (cons l)) (hx : Sok w x) (t : List Ses) (c : Int) (ho : sesOpen (cons l) x.s = (t, c)) :
    Calls Try.prog 16 #[v, .agg x.cells.toArray] w (RetOpen w t c) := by
  have HS := Lib.hid h
  have HSx := Lib.hid hx
  have HOp := Lib.hid ho
  have HSm := Lib.hid hl
  have hl0 : l.length ≤ 1000 := by have := hl.1; simpa [cons] using this
  obtain ⟨p, cap, rfl, hcap⟩ := sess_shape h
  clear h hx ho hl
  go_enter Try.func16, Try.ntmps16
  go_upto_region 1 with fail
  refine gen_wp (fun w1 => Hid (Below w.heap.size w w1) ∧ Hid (w1.heap[w.heap.size]? = some (.cells x.cells.toArray 38)) ∧ True) ⟨Lib.hid (by (repeat (first | (with_reducible exact Below.refl _ _) | (with_reducible refine bel_set (by first | omega | (simp; done) | (simp; omega)) ?_) | (with_reducible refine bel_alloc (by first | omega | (simp; done) | (simp; omega)) ?_) | (with_reducible refine bel_drew ?_) | (with_reducible refine bel_drewN ?_ _))); first | done | fail "left"), Lib.hid (heap_new _ _ _ rfl), trivial⟩ ?_
  rintro w1 ⟨BA, A1, -⟩
  have hs1 := block_lt A1.out
  go_wp2_with fail
  refine (rtcopy_any _ l _ (HS.out.keep BA.out) HSm.out).mono ?_
  rintro e w2 ⟨p2, cap2, L, hL, rfl, HO, B2⟩
  have HL := Lib.hid hL
  have HLl := Lib.hid (show L.length = l.length by simpa [cons] using congrArg List.length hL)
  replace A1 := Lib.hid (keepb A1.out B2.out)
  replace BA := Lib.hid (chain BA.out B2.out)
  have hs2 : w.heap.size < w1.heap.size := hs1
  replace HO := Lib.hid (HO.out.mono (Nat.le_of_lt hs2))
  clear B2 hL hs1 hs2
  have R1 := Lib.hid (rangeAt_block A1.out)
  obtain ⟨fb, hfb⟩ : ∃ b, sesFits x.s = b := ⟨_, rfl⟩
  have HFt := Lib.hid hfb
  have HFq := Lib.hid (fun d os => reg_of (rfits_any x (Go.Sort.grow (redrawn w2 d) os) (HSx.out.keep (chain BA.out (below_regrown w2 d os)))))
  rw [hfb] at HFq
  obtain ⟨lt, hlt⟩ : ∃ b, sesLate (cons l) x.s = b := ⟨_, rfl⟩
  have HLt := Lib.hid hlt
  clear hfb
  go_upto_region 2 with fail
  go_cut [28] (fun s28 wx => s28 = .bool (!fb || lt) ∧ Below w2.heap.size w2 wx)
  case first =>
    cases fb with
    | false =>
      refine wp_region_quiet_below (by kernel_rfl) (by kernel_rfl) ?_
      (try simp only [List.append_eq, List.cons_append, List.nil_append])
      repeat (first | go_big_quiet_skip | (go_big_quiet_want; first | ((first | refine quiet_ld R1 rfl rfl ?_); (try simp only [Act.put, List.setIfInBounds_toArray, List.set_cons_zero, List.set_cons_succ]); go_big_quiet_on) | (go_big_quiet_op; first | go_big_quiet_on | (apply Exists.intro; refine ⟨fun _ => ?_, ?_⟩; (focus ((first | (go_at_call 14; with_reducible exact HFq.out _ _)))); go_big_quiet_on))))
      refine wpQuiet_nil ?_
      intro _ hw'
      obtain ⟨⟨dq, osq⟩, hw''⟩ := hw'
      subst hw''
      have BQ := Lib.hid (below_regrown w2 dq osq)
      generalize Go.Sort.grow (redrawn w2 dq) osq = w3 at BQ ⊢
      go_wp2_with fail
      go_meet
      case rel => exact ⟨by simp, BQ.out⟩
    | true =>
      have g0 := g_id R1.out
      have r0 := fun d os => cell_regrown g0 d os
      by_cases h0 : l.length = 0
      · have hE : lt = false := by
          rw [← hlt, List.length_eq_zero_iff.1 h0]; rfl
        subst hE
        have t1 : decide (0 < l.length) = false := by simp [h0]
        clear hlt
        refine wp_region_quiet_below (by kernel_rfl) (by kernel_rfl) ?_
        (try simp only [List.append_eq, List.cons_append, List.nil_append])
        repeat (first | go_big_quiet_skip | (go_big_quiet_want; first | ((first | refine quiet_ld R1 rfl rfl ?_); (try simp only [Act.put, List.setIfInBounds_toArray, List.set_cons_zero, List.set_cons_succ]); go_big_quiet_on) | (go_big_quiet_op; first | go_big_quiet_on | (apply Exists.intro; refine ⟨fun _ => ?_, ?_⟩; (focus ((first | (go_at_call 14; with_reducible exact HFq.out _ _)))); go_big_quiet_on))))
        refine wpQuiet_nil ?_
        intro _ hw'
        obtain ⟨⟨dq, osq⟩, hw''⟩ := hw'
        subst hw''
        have BQ := Lib.hid (below_regrown w2 dq osq)
        generalize Go.Sort.grow (redrawn w2 dq) osq = w3 at BQ ⊢
        go_wp2_with fail
        go_meet
        case rel => exact ⟨by simp, BQ.out⟩
      · obtain ⟨b, o, rfl, _⟩ := HS.out.1.open (by omega)
        obtain ⟨m, hm⟩ : ∃ m, l.length = m + 1 := ⟨l.length - 1, by omega⟩
        have hml : m < l.length := by omega
        obtain ⟨y, hy⟩ : ∃ y, y = l[m] := ⟨_, rfl⟩
        have k0 := f_id (ses_row (HS.out.1.keep (by decide) BA.out) m hml y hy)
        have r1 := fun d os => cell_regrown k0 d os
        have hE : lt = decide (x.s.id ≤ y.s.id) := by
          rw [← hlt]
          unfold sesLate
          rw [List.getLast?_eq_getElem?, show (cons l).length - 1 = m by simp [cons, hm], List.getElem?_eq_getElem (by simpa [cons] using hml)]
          simp [cons, hy]
        have t1 := dec_t (show 0 < l.length by omega)
        have hwr : IntKind.i64.wrap ((l.length : Int) - 1) = (l.length : Int) - 1 := by rw [IntKind.wrap_i64]; omega
        have hp0 : (0 : Int) ≤ (l.length : Int) - 1 := by omega
        have hp1 : (l.length : Int) - 1 < (l.length : Int) := by omega
        have hp2 : ((l.length : Int) - 1).toNat = m := by omega
        have HE := Lib.hid hE
        clear hm hE hy hlt
        refine wp_region_quiet_below (by kernel_rfl) (by kernel_rfl) ?_
        (try simp only [List.append_eq, List.cons_append, List.nil_append])
        repeat (first | go_big_quiet_skip | (go_big_quiet_want; first | ((first | refine quiet_ld R1 rfl rfl ?_); (try simp only [Act.put, List.setIfInBounds_toArray, List.set_cons_zero, List.set_cons_succ]); go_big_quiet_on) | (go_big_quiet_op; first | go_big_quiet_on | (apply Exists.intro; refine ⟨fun _ => ?_, ?_⟩; (focus ((first | (go_at_call 14; with_reducible exact HFq.out _ _)))); go_big_quiet_on))))
        refine wpQuiet_nil ?_
        intro _ hw'
        obtain ⟨⟨dq, osq⟩, hw''⟩ := hw'
        subst hw''
        have BQ := Lib.hid (below_regrown w2 dq osq)
        generalize Go.Sort.grow (redrawn w2 dq) osq = w3 at BQ ⊢
        go_wp2_with fail
        go_meet
        case rel => exact ⟨by rw [HE.out]; simp, BQ.out⟩
  case rest =>
    obtain ⟨rfl, hbb⟩ := hcut
    obtain ⟨w4, hw4⟩ : ∃ w4, w4 = wc := ⟨_, rfl⟩
    subst hw4
    have B4 := Lib.hid hbb
    clear hlt hbb HFq
    replace A1 := Lib.hid (keepb A1.out B4.out)
    replace BA := Lib.hid (chain BA.out B4.out)
    replace HO := Lib.hid (HO.out.keep B4.out)
    replace R1 := Lib.hid (rangeAt_block A1.out)
    have g1 := g_user R1.out
    clear B4
    obtain ⟨bad, hbad⟩ : ∃ bad, bad = (!fb || lt) := ⟨_, rfl⟩
    rw [← hbad]
    have HBd := Lib.hid hbad
    clear hbad
    cases bad with
    | true =>
      have HE := Lib.hid (show t = cons l ∧ c = 1 by
        have := HOp.out; unfold sesOpen at this; rw [HFt.out, HLt.out, ← HBd.out] at this; simp at this; exact ⟨this.1.symm, this.2.symm⟩)
      obtain ⟨rfl, rfl⟩ := HE.out
      go_wp2_with fail
      go_ret2
      exact ⟨p2, cap2, L, HL.out, rfl, HO, BA⟩
    | false =>
      have hfs := fits_small (show sesFits x.s = true by rw [HFt.out]; have := HBd.out; cases fb; simp at this; rfl)
      obtain ⟨U, hU⟩ : ∃ U, sesOf (cons l) x.s.user = U := ⟨_, rfl⟩
      have HU := Lib.hid hU
      have hcl : (cons l).length = l.length := by simp [cons]
      by_cases hfull : 32 ≤ l.length ∨ 4 ≤ U.length
      · have HE := Lib.hid (show t = cons l ∧ c = 7 by
          have := HOp.out; unfold sesOpen at this
          rw [HFt.out, HLt.out, ← HBd.out, hU, hcl, if_neg (by simp), if_pos (by simpa using hfull)] at this
          cases this; exact ⟨rfl, rfl⟩)
        have HFl := Lib.hid hfull
        clear hfull hU hcl
        obtain ⟨rfl, rfl⟩ := HE.out
        by_cases h32 : 32 ≤ l.length
        · have t1 : (32 : Int) ≤ (l.length : Int) := by omega
          go_wp2_with fail
          go_ret2
          exact ⟨p2, cap2, L, HL.out, rfl, HO, BA⟩
        · have t1 : ¬ (32 : Int) ≤ (l.length : Int) := by omega
          have t2 : (4 : Int) ≤ (U.length : Int) := by have := HFl.out; omega
          go_wp2_with fail
          refine (rmany_any _ l x.s.user _ (HS.out.keep BA.out) hl0 U.length (by rw [HU.out])).mono ?_
          rintro e w5 ⟨rfl, B5⟩
          replace BA := Lib.hid (chain BA.out B5.out)
          replace HO := Lib.hid (HO.out.keep B5.out)
          go_wp2_with fail
          go_ret2
          exact ⟨p2, cap2, L, HL.out, rfl, HO, BA⟩
      · have HE := Lib.hid (show t = cons l ++ [x.s] ∧ c = 0 by
          have := HOp.out; unfold sesOpen at this
          rw [HFt.out, HLt.out, ← HBd.out, hU, hcl, if_neg (by simp), if_neg (by simpa using hfull)] at this
          cases this; exact ⟨rfl, rfl⟩)
        obtain ⟨hf1, hf2⟩ : l.length < 32 ∧ U.length < 4 := by omega
        clear hfull hU hcl
        have t1 : ¬ (32 : Int) ≤ (l.length : Int) := by omega
        have t2 : ¬ (4 : Int) ≤ (U.length : Int) := by omega
        go_wp2_with fail
        refine (rmany_any _ l x.s.user _ (HS.out.keep BA.out) hl0 U.length (by rw [HU.out])).mono ?_
        rintro e w5 ⟨rfl, B5⟩
        replace A1 := Lib.hid (keepb A1.out B5.out)
        replace BA := Lib.hid (chain BA.out B5.out)
        replace HO := Lib.hid (HO.out.keep B5.out)
        have R5 := Lib.hid (rangeAt_block A1.out)
        go_wp2_with (refine ldl R5 rfl rfl rfl ?_)
        refine (rcopy_any x _ (HSx.out.keep BA.out) (by omega) (by omega)).mono ?_
        rintro e w6 ⟨y, hy, rfl, HY, B6⟩
        have HYs := Lib.hid hy
        have hz5 : w.heap.size ≤ w5.heap.size := BA.out.size
        replace BA := Lib.hid (chain BA.out B6.out)
        replace HO := Lib.hid (HO.out.keep B6.out)
        replace HY := Lib.hid (HY.out.mono hz5)
        clear hy R1 R5 A1 B5 B6 g1
        have HOr := Lib.hid HO.out.row
        have ylen := sv_len y
        have hLs : L.length ≤ 1000 := by rw [HLl.out]; exact hl0
        go_wp2_with (at_builtin; rw [build_ses]; rotate_left; rfl; refine wpList_app rfl (.tmp 41) (.tmp 44) 22 rfl w.heap.size 38 (.agg #[.int .i64 0, .int .i64 0, .int .i64 0, .int .i64 0, .int .u8 0, .int .u8 0, .int .u8 0, .int .u8 0, .int .u8 0, .int .u8 0, .int .u8 0, .int .u8 0, .int .u8 0, .int .u8 0, .int .u8 0, .int .u8 0, .int .u8 0, .int .u8 0, .int .u8 0, .int .u8 0, .int .i64 0, .int .i64 0, .int .i64 0, .slice none 0 0, .int .i64 0, .int .i64 0, .int .i64 0, .slice none 0 0, .int .i64 0, .int .i64 0, .int .i64 0, .int .i64 0, .int .i64 0, .int .i64 0, .bool false]) 35 200 Try.underlying22 (by kernel_rfl) rfl (by decide) w.heap.size w (Lib.hid (BA.out.alloc BA.out.size _)) (by omega) (Lib.hid (HOr.out.alloc _)) rfl ⟨w6.heap.size, 0, none⟩ 1 1 rfl y.cells (sv_len y) (Lib.hid (news_new (heap_new _ _ _ rfl))) (sv_one y) (by omega) (by omega) (by have := BA.out.size; simp; omega) ?_; intro p9 cap9 w8 hc2 HO8 HB8 HK8)
        obtain ⟨rfl, rfl⟩ := HE.out
        go_ret2
        refine ⟨p9, cap9, L ++ [y], ?_, by simp, Lib.hid ⟨?_, ?_⟩, HB8⟩
        · simp [cons, HYs.out]; exact HL.out
        · have := HO8.out
          rw [flat_append, List.length_append]
          simpa [flat] using this
        · intro z hz
          rcases List.mem_append.1 hz with h | h
          · exact SOk.kept ((HO.out.ok z h).alloc _) (HOr.out.alloc _) (by decide) (by decide) HK8.out
          · rw [List.mem_singleton] at h
            subst h
            exact SOk.kept (HY.out.alloc _) (HOr.out.alloc _) (by decide) (by decide) HK8.out
end Go.Proofs.Ytlmkkfigmoefdaa.K

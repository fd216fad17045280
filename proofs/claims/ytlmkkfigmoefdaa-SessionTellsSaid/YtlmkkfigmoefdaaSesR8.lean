/-
  CONTRACT of nightjarref18.Put.
-/
import Derived.Test.YtlmkkfigmoefdaaSes12
import Derived.Test.YtlmkkfigmoefdaaSes5
import Derived.Test.YtlmkkfigmoefdaaSesR1
set_option linter.unusedVariables false
set_option linter.unusedSimpArgs false
namespace Go.Proofs.Ytlmkkfigmoefdaa.K
open Go Go.RowKit Nj

def hitR (s : Ses) (x : Ses) : Bool := decide (x.id = s.id) && (decide (x.user = s.user) && sesFits s)
def sesPutR (t : List Ses) (s : Ses) : List Ses × Bool := match t.findIdx? (hitR s) with
  | some k => (t.set k s, true)
  | none => (t, false)

set_option maxRecDepth 100000 in
set_option maxHeartbeats 8000000 in
theorem rput_any (v : Value) (l : List Sv) (x : Sv) (w : World) (h : Sess w v l) (hl : SmS (cons l)) (hx : Sok w x) (t : List Ses) (c : Bool) (ho : sesPutR (cons l) x.s = (t, c)) :
    Calls Try.prog 18 #[v, .agg x.cells.toArray] w (RetPut w t c) := by
  have HS := Lib.hid h
  have HSx := Lib.hid hx
  have HOp := Lib.hid ho
  have HSm := Lib.hid hl
  have hl0 : l.length ≤ 1000 := by have := hl.1; simpa [cons] using this
  obtain ⟨p, cap, rfl, hcap⟩ := sess_shape h
  clear h hx ho hl
  go_enter Try.func18, Try.ntmps18
  go_upto_region 1 with fail
  refine gen_wp (fun w1 => Hid (Below w.heap.size w w1) ∧ Hid (w1.heap[w.heap.size]? = some (.cells x.cells.toArray 38)) ∧ True) ⟨Lib.hid (by (repeat (first | (with_reducible exact Below.refl _ _) | (with_reducible refine bel_set (by first | omega | (simp; done) | (simp; omega)) ?_) | (with_reducible refine bel_alloc (by first | omega | (simp; done) | (simp; omega)) ?_) | (with_reducible refine bel_drew ?_) | (with_reducible refine bel_drewN ?_ _))); first | done | fail "left"), Lib.hid (heap_new _ _ _ rfl), trivial⟩ ?_
  rintro w1 ⟨BA, A1, -⟩
  have hs1 := block_lt A1.out
  go_wp2_with fail
  refine (rtcopy_any _ l _ (HS.out.keep BA.out) HSm.out).mono ?_
  rintro e w2 ⟨p2, cap2, L, hL, rfl, HO, B2⟩
  have HL := Lib.hid hL
  have HLl := Lib.hid (show L.length = l.length by simpa [cons] using congrArg List.length hL)
  replace A1 := Lib.hid (keepb A1.out B2.out)
  replace BA := Lib.hid (chain BA.out B2.out)
  have hs2 : w.heap.size < w1.heap.size := hs1
  replace HO := Lib.hid (HO.out.mono (Nat.le_of_lt hs2))
  clear B2 hL hs1 hs2
  have hLm : L.length ≤ 1000 := by rw [HLl.out]; exact hl0
  obtain ⟨fb, hfb⟩ : ∃ fb, sesFits x.s = fb := ⟨_, rfl⟩
  have HFb := Lib.hid hfb
  clear hfb
  go_wp2_with fail
  go_loopw [7] (fun iv wr => ∃ k : Nat, k ≤ L.length ∧ iv = .int .i64 k ∧ (∀ j (hj : j < L.length), j < k → hitR x.s L[j].s = false) ∧ Below w2.heap.size w2 wr) (fun iv _ => L.length - (intOf iv).toNat)
  case atStart => exact ⟨0, by omega, rfl, fun j _ hj => by omega, Below.refl _ _⟩
  case round =>
    obtain ⟨k, hk, rfl, hall, hb⟩ := hrel
    have HA := Lib.hid hall
    have B4 := Lib.hid hb
    clear hall hb
    have A4 := Lib.hid (keepb A1.out B4.out)
    have BX := Lib.hid (chain BA.out B4.out)
    have HO4 := Lib.hid (HO.out.keep B4.out)
    by_cases hlt : k < L.length
    · obtain ⟨g, rfl⟩ := own_head HO4.out.row (by omega)
      have hg : w.heap.size ≤ g := HO4.out.row.block g rfl
      obtain ⟨y, hy⟩ : ∃ y, y = L[k] := ⟨_, rfl⟩
      have Ry := ses_row (Own.sl HO4.out.row) k hlt y hy
      have k0 := f_id Ry
      have k1 := f_user Ry
      simp only [Nat.zero_add] at k0 k1
      have Rx := Lib.hid (rangeAt_block A4.out)
      have g0 := g_id Rx.out
      have g1 := g_user Rx.out
      have r0 := fun d os => cell_regrown k0 d os
      have r1 := fun d os => cell_regrown k1 d os
      have r2 := fun d os => cell_regrown g0 d os
      have r3 := fun d os => cell_regrown g1 d os
      have t1 : (k : Int) < (L.length : Int) := by omega
      have t2 : (0 : Int) ≤ (k : Int) := by omega
      have HFq := Lib.hid (fun d os => reg_of (rfits_any x (Go.Sort.grow (redrawn wr d) os) (HSx.out.keep (chain BX.out (below_regrown wr d os)))))
      rw [HFb.out] at HFq
      obtain ⟨hb, hhb⟩ : ∃ hb, hb = (decide (y.s.id = x.s.id) && (decide (y.s.user = x.s.user) && fb)) := ⟨_, rfl⟩
      have HHb := Lib.hid hhb
      have HHit := Lib.hid (show hitR x.s L[k].s = hb by rw [hhb, ← hy]; unfold hitR; rw [HFb.out])
      clear hhb hy Ry
      go_upto_region 5 with fail
      go_cut [37] (fun s37 wx => s37 = .bool hb ∧ Below wr.heap.size wr wx)
      case first =>
        by_cases h1 : y.s.id = x.s.id
        · by_cases h2 : y.s.user = x.s.user
          · have u1 : (y.s.id == x.s.id) = true := by simp [h1]
            have u2 : (y.s.user == x.s.user) = true := by simp [h2]
            have HB2 := Lib.hid (show hb = fb by rw [HHb.out, dec_t h1, dec_t h2]; simp)
            clear h1 h2
            refine wp_region_quiet_below (by kernel_rfl) (by kernel_rfl) ?_
            (try simp only [List.append_eq, List.cons_append, List.nil_append])
            repeat (first | go_big_quiet_skip | (go_big_quiet_want; first | ((first | refine quiet_ld Rx rfl rfl ?_); (try simp only [Act.put, List.setIfInBounds_toArray, List.set_cons_zero, List.set_cons_succ]); go_big_quiet_on) | (go_big_quiet_op; first | go_big_quiet_on | (apply Exists.intro; refine ⟨fun _ => ?_, ?_⟩; (focus ((first | (go_at_call 14; with_reducible exact HFq.out _ _)))); go_big_quiet_on))))
            refine wpQuiet_nil ?_
            intro _ hw'
            obtain ⟨⟨dq, osq⟩, hw''⟩ := hw'
            subst hw''
            have BQ := Lib.hid (below_regrown wr dq osq)
            generalize Go.Sort.grow (redrawn wr dq) osq = w6 at BQ ⊢
            go_wp2_with fail
            go_meet
            case rel => exact ⟨by rw [HB2.out], BQ.out⟩
          · have u1 : (y.s.id == x.s.id) = true := by simp [h1]
            have u2 : (y.s.user == x.s.user) = false := by simp [h2]
            have HB2 := Lib.hid (show hb = false by rw [HHb.out, dec_f h2]; simp)
            clear h1 h2
            refine wp_region_quiet_below (by kernel_rfl) (by kernel_rfl) ?_
            (try simp only [List.append_eq, List.cons_append, List.nil_append])
            repeat (first | go_big_quiet_skip | (go_big_quiet_want; first | ((first | refine quiet_ld Rx rfl rfl ?_); (try simp only [Act.put, List.setIfInBounds_toArray, List.set_cons_zero, List.set_cons_succ]); go_big_quiet_on) | (go_big_quiet_op; first | go_big_quiet_on | (apply Exists.intro; refine ⟨fun _ => ?_, ?_⟩; (focus (fail)); go_big_quiet_on))))
            refine wpQuiet_nil ?_
            intro _ hw'
            obtain ⟨⟨dq, osq⟩, hw''⟩ := hw'
            subst hw''
            have BQ := Lib.hid (below_regrown wr dq osq)
            generalize Go.Sort.grow (redrawn wr dq) osq = w6 at BQ ⊢
            go_wp2_with fail
            go_meet
            case rel => exact ⟨by rw [HB2.out], BQ.out⟩
        · have u1 : (y.s.id == x.s.id) = false := by simp [h1]
          have HB2 := Lib.hid (show hb = false by rw [HHb.out, dec_f h1]; simp)
          clear h1
          refine wp_region_quiet_below (by kernel_rfl) (by kernel_rfl) ?_
          (try simp only [List.append_eq, List.cons_append, List.nil_append])
          repeat (first | go_big_quiet_skip | (go_big_quiet_want; first | ((first | refine quiet_ld Rx rfl rfl ?_); (try simp only [Act.put, List.setIfInBounds_toArray, List.set_cons_zero, List.set_cons_succ]); go_big_quiet_on) | (go_big_quiet_op; first | go_big_quiet_on | (apply Exists.intro; refine ⟨fun _ => ?_, ?_⟩; (focus (fail)); go_big_quiet_on))))
          refine wpQuiet_nil ?_
          intro _ hw'
          obtain ⟨⟨dq, osq⟩, hw''⟩ := hw'
          subst hw''
          have BQ := Lib.hid (below_regrown wr dq osq)
          generalize Go.Sort.grow (redrawn wr dq) osq = w6 at BQ ⊢
          go_wp2_with fail
          go_meet
          case rel => exact ⟨by rw [HB2.out], BQ.out⟩
      case rest =>
        obtain ⟨rfl, hbb⟩ := hcut
        obtain ⟨w6, hw6⟩ : ∃ w6, w6 = wc := ⟨_, rfl⟩
        subst hw6
        have B6 := Lib.hid hbb
        clear hbb k0 k1 g0 g1 r0 r1 r2 r3 HFq
        have A6 := Lib.hid (keepb A4.out B6.out)
        have BY := Lib.hid (chain BX.out B6.out)
        have HO6 := Lib.hid (HO4.out.keep B6.out)
        replace Rx := Lib.hid (rangeAt_block A6.out)
        cases hb with
        | false =>
          have HA2 := Lib.hid (show ∀ j (hj : j < L.length), j < k + 1 → hitR x.s L[j].s = false by
            intro j hj hjk
            by_cases e : j = k
            · subst e; exact HHit.out
            · exact HA.out j hj (by omega))
          go_wp2_with fail
          go_roundw
          case rel => exact ⟨k + 1, by omega, by go_num, HA2.out, chain B4.out B6.out⟩
          case measure => simp [intOf]; omega
        | true =>
          have hfs := fits_small (show sesFits x.s = true by rw [HFb.out]; have := HHb.out; cases fb; simp at this; rfl)
          have HE := Lib.hid (show t = (cons l).set k x.s ∧ c = true by
            have e : (cons l).findIdx? (hitR x.s) = some k := by
              rw [← HL.out, List.findIdx?_eq_some_iff_getElem]
              refine ⟨by simpa [cons] using hlt, by simpa [cons] using HHit.out, fun j hj => ?_⟩
              have := HA.out j (by omega) hj
              simpa [cons] using this
            have h2 := HOp.out
            unfold sesPutR at h2
            rw [e] at h2
            cases h2
            exact ⟨rfl, rfl⟩)
          go_wp2_with (refine ldl Rx rfl rfl rfl ?_)
          refine (rcopy_any x _ (HSx.out.keep BY.out) (by omega) (by omega)).mono ?_
          rintro e w7 ⟨z, hz, rfl, HY, B7⟩
          have HYs := Lib.hid hz
          have hz5 : w.heap.size ≤ w6.heap.size := BY.out.size
          have BZ := Lib.hid (chain BY.out B7.out)
          have HO7 := Lib.hid (HO6.out.keep B7.out)
          replace HY := Lib.hid (HY.out.mono hz5)
          clear hz Rx A1 A4 A6 B4 B6 B7
          go_wp2_with (refine stp HO7 HY hlt rfl rfl (by simp [Act.eval, Act.put]) rfl ?_; intro w8 HO8 M8)
          have BW := Lib.hid (Mod.below M8.out BZ.out BZ.out.size (fun k hk => by omega))
          have hc := HE.out.2
          have ht := HE.out.1
          subst hc ht
          go_ret2
          exact ⟨_, cap2, L.set k z, by rw [cons_set, HL.out, HYs.out], by rw [List.length_set]; rfl, Lib.hid (by rw [List.length_set]; exact HO8.out), BW⟩
    · have hke : k = L.length := by omega
      subst hke
      have HE := Lib.hid (show t = cons l ∧ c = false by
        have e : (cons l).findIdx? (hitR x.s) = none := by
          rw [← HL.out, List.findIdx?_eq_none_iff]
          intro s hs
          simp only [cons, List.mem_map] at hs
          obtain ⟨y, hy, rfl⟩ := hs
          obtain ⟨j, hj, rfl⟩ := List.getElem_of_mem hy
          exact HA.out j hj hj
        have h2 := HOp.out
        unfold sesPutR at h2
        rw [e] at h2
        cases h2
        exact ⟨rfl, rfl⟩)
      obtain ⟨rfl, rfl⟩ := HE.out
      have t1 : decide ((L.length : Int) < (L.length : Int)) = false := by simp
      go_wp2_with fail
      go_ret2
      exact ⟨p2, cap2, L, HL.out, rfl, HO4, BX⟩
end Go.Proofs.Ytlmkkfigmoefdaa.K

/-
  CONTRACTS of package session: Put, Close.
-/
import Derived.Test.YtlmkkfigmoefdaaSes11
import Derived.Test.YtlmkkfigmoefdaaSesQ
set_option linter.unusedVariables false
set_option linter.unusedSimpArgs false
namespace Go.Proofs.Ytlmkkfigmoefdaa.K
open Go Go.RowKit Nj
def sesAt (t : List Ses) (i : Int) : Option Nat := t.findIdx? fun s => decide (s.id = i)
def sesPut (t : List Ses) (s : Ses) : List Ses × Bool := match sesAt t s.id with
  | some k => if (decide ((t.getD k ses0).user = s.user) && sesFits s) = true then (t.set k s, true) else (t, false)
  | none => (t, false)
def sesClose (t : List Ses) (i : Int) : List Ses × Bool := match sesAt t i with
  | some k => (t.eraseIdx k, true)
  | none => (t, false)
theorem sesAt_some {l : List Sv} {i : Int} {k : Nat} (hk : k < l.length) (hi : l[k].s.id = i) (hno : ∀ j (hj : j < l.length), j < k → l[j].s.id ≠ i) : sesAt (cons l) i = some k := by
  unfold sesAt
  rw [List.findIdx?_eq_some_iff_getElem]
  refine ⟨by simpa [cons] using hk, by simpa [cons] using hi, fun j hj => ?_⟩
  have := hno j (by omega) hj
  simpa [cons] using this
theorem sesAt_none {l : List Sv} {i : Int} (hno : ∀ j (hj : j < l.length), l[j].s.id ≠ i) : sesAt (cons l) i = none := by
  unfold sesAt
  rw [List.findIdx?_eq_none_iff]
  intro s hs
  simp only [cons, List.mem_map] at hs
  obtain ⟨x, hx, rfl⟩ := hs
  obtain ⟨j, hj, rfl⟩ := List.getElem_of_mem hx
  simpa using hno j hj
/-- where an own slice that is not empty lies: at the head of a block -/
theorem own_head {E : TypeId} {sz B : Nat} {w : World} {p : Option Addr} {n cap : Nat} {cs : List Value} (h : Own E sz B w (.slice p n cap) n cs) (hn : 0 < n) : ∃ g, p = some ⟨g, 0, none⟩ := by
  obtain ⟨_, ⟨h, hc⟩ | ⟨g, cap', cur, h, _⟩⟩ := h
  · cases h; omega
  · cases h; exact ⟨g, rfl⟩
theorem cons_erase (L : List Sv) (k : Nat) : cons (L.eraseIdx k) = (cons L).eraseIdx k := by simp [cons, List.eraseIdx_eq_take_drop_succ, List.map_take, List.map_drop]

def RetPut (w : World) (t : List Ses) (c : Bool) (e : Ending) (w' : World) : Prop := ∃ (p : Option Addr) (cap : Nat) (L : List Sv), cons L = t ∧ e = .returned (.tuple #[.slice p L.length cap, .bool c]) ∧ Hid (OwnS 38 57 85 w.heap.size w' (.slice p L.length cap) L) ∧ Hid (Below w.heap.size w w')

set_option maxRecDepth 100000 in
set_option maxHeartbeats 8000000 in
theorem sesclose_any (v : Value) (l : List Sv) (i : Int) (w : World) (h : Sess w v l) (hl : SmS (cons l)) (t : List Ses) (c : Bool) (ho : sesClose (cons l) i = (t, c)) :
    Calls Try.prog 19 #[v, .int .i64 i] w (RetPut w t c) := by
  have HS := Lib.hid h
  have HOp := Lib.hid ho
  have HSm := Lib.hid hl
  have hl0 : l.length ≤ 1000 := by have := hl.1; simpa [cons] using this
  obtain ⟨p, cap, rfl, hcap⟩ := sess_shape h
  clear h ho hl
  go_enter Try.func19, Try.ntmps19
  go_wp2_with fail
  refine (sescopy_any _ l _ HS.out HSm.out).mono ?_
  rintro e w2 ⟨p2, cap2, L, hL, rfl, HO, BA⟩
  have HL := Lib.hid hL
  have HLl := Lib.hid (show L.length = l.length by simpa [cons] using congrArg List.length hL)
  clear hL
  go_wp2_with fail
  refine (splace_any _ l i _ (HS.out.keep BA.out)).mono ?_
  rintro e w3 ⟨hpl, B3⟩
  replace BA := Lib.hid (chain BA.out B3.out)
  replace HO := Lib.hid (HO.out.keep B3.out)
  clear B3
  rcases hpl with ⟨k, hk, hki, hno, rfl⟩ | ⟨hno, rfl⟩
  · have HE := Lib.hid (show t = (cons l).eraseIdx k ∧ c = true by
      have := HOp.out; unfold sesClose at this; rw [sesAt_some hk hki hno] at this; cases this; exact ⟨rfl, rfl⟩)
    clear hki hno
    have hkL : k < L.length := by rw [HLl.out]; exact hk
    obtain ⟨g, rfl⟩ := own_head HO.out.row (by omega)
    have t1 : ¬ (k : Int) < 0 := by omega
    have hwr : IntKind.i64.wrap ((k : Int) + 1) = (k : Int) + 1 := by rw [IntKind.wrap_i64]; omega
    go_wp2_with fail
    refine (sdelete_any w.heap.size g cap2 k L _ HO.out.row hkL (by rw [HLl.out]; omega)).mono ?_
    rintro e w4 ⟨rfl, HO4, HM⟩
    have hg : w.heap.size ≤ g := HO.out.row.block g rfl
    have BX := Lib.hid (Mod.below HM.out BA.out BA.out.size (fun k hk => by omega))
    have HE1 := HE.out.1
    have HE2 := HE.out.2
    subst HE1 HE2
    go_wp2_with fail
    go_ret2
    refine ⟨_, cap2, L.eraseIdx k, by rw [cons_erase, HL.out], rfl, Lib.hid ⟨HO4.out, fun z hz => ?_⟩, BX⟩
    have hzL := HO.out.ok z (List.mem_of_mem_eraseIdx hz)
    exact hzL.mod HM.out (fun b hb e => own_apart hzL.bt HO.out.row (by decide) b hb (by rw [e]; rfl)) (fun b hb e => own_apart hzL.fl HO.out.row (by decide) b hb (by rw [e]; rfl))
  · have HE := Lib.hid (show t = cons l ∧ c = false by
      have := HOp.out; unfold sesClose at this; rw [sesAt_none hno] at this; cases this; exact ⟨rfl, rfl⟩)
    clear hno
    obtain ⟨rfl, rfl⟩ := HE.out
    go_wp2_with fail
    go_ret2
    exact ⟨p2, cap2, L, HL.out, rfl, HO, BA⟩

set_option maxRecDepth 100000 in
set_option maxHeartbeats 8000000 in
theorem sesput_any (v : Value) (l : List Sv) (x : Sv) (w : World) (h : Sess w v l) (hl : SmS (cons l)) (hx : Sok w x) (t : List Ses) (c : Bool) (ho : sesPut (cons l) x.s = (t, c)) :
    Calls Try.prog 17 #[v, .agg x.cells.toArray] w (RetPut w t c) := by
  have HS := Lib.hid h
  have HSx := Lib.hid hx
  have HOp := Lib.hid ho
  have HSm := Lib.hid hl
  have hl0 : l.length ≤ 1000 := by have := hl.1; simpa [cons] using this
  obtain ⟨p, cap, rfl, hcap⟩ := sess_shape h
  clear h hx ho hl
  go_enter Try.func17, Try.ntmps17
  go_upto_region 1 with fail
  refine gen_wp (fun w1 => Hid (Below w.heap.size w w1) ∧ Hid (w1.heap[w.heap.size]? = some (.cells x.cells.toArray 38)) ∧ True) ⟨Lib.hid (by (repeat (first | (with_reducible exact Below.refl _ _) | (with_reducible refine bel_set (by first | omega | (simp; done) | (simp; omega)) ?_) | (with_reducible refine bel_alloc (by first | omega | (simp; done) | (simp; omega)) ?_) | (with_reducible refine bel_drew ?_) | (with_reducible refine bel_drewN ?_ _))); first | done | fail "left"), Lib.hid (heap_new _ _ _ rfl), trivial⟩ ?_
  rintro w1 ⟨BA, A1, -⟩
  have hs1 := block_lt A1.out
  go_wp2_with fail
  refine (sescopy_any _ l _ (HS.out.keep BA.out) HSm.out).mono ?_
  rintro e w2 ⟨p2, cap2, L, hL, rfl, HO, B2⟩
  have HL := Lib.hid hL
  have HLl := Lib.hid (show L.length = l.length by simpa [cons] using congrArg List.length hL)
  replace A1 := Lib.hid (keepb A1.out B2.out)
  replace BA := Lib.hid (chain BA.out B2.out)
  have hs2 : w.heap.size < w1.heap.size := hs1
  replace HO := Lib.hid (HO.out.mono (Nat.le_of_lt hs2))
  clear B2 hL hs1 hs2
  have g0 := g_id (rangeAt_block A1.out)
  go_wp2_with fail
  refine (splace_any _ l x.s.id _ (HS.out.keep BA.out)).mono ?_
  rintro e w3 ⟨hpl, B3⟩
  replace A1 := Lib.hid (keepb A1.out B3.out)
  replace BA := Lib.hid (chain BA.out B3.out)
  replace HO := Lib.hid (HO.out.keep B3.out)
  clear B3 g0
  obtain ⟨b, hb⟩ : ∃ b, sesFits x.s = b := ⟨_, rfl⟩
  have HFt := Lib.hid hb
  have HC := Lib.hid (fun W (h : Sok W x) => sfits_any x W h)
  rw [hb] at HC
  clear hb
  rcases hpl with ⟨k, hk, hki, hno, rfl⟩ | ⟨hno, rfl⟩
  · obtain ⟨bb, o, rfl, _⟩ := HS.out.1.open (by omega)
    obtain ⟨y, hy⟩ : ∃ y, y = l[k] := ⟨_, rfl⟩
    have HE := Lib.hid (show (if (decide (y.s.user = x.s.user) && b) = true then ((cons l).set k x.s, true) else (cons l, false)) = (t, c) by
      have := HOp.out; unfold sesPut at this; rw [sesAt_some hk hki hno, HFt.out] at this
      have e : (cons l).getD k ses0 = y.s := by rw [List.getD_eq_getElem?_getD, List.getElem?_eq_getElem (by simpa [cons] using hk)]; simp [cons, hy]
      simp only [e] at this; exact this)
    have R0 := Lib.hid (ses_row (HS.out.1.keep (by decide) BA.out) k hk y hy)
    have hkL : k < L.length := by rw [HLl.out]; exact hk
    clear hki hno hy
    have k1 := f_user R0.out
    have g1 := g_user (rangeAt_block A1.out)
    have R1 := Lib.hid (rangeAt_block A1.out)
    have t1 : ¬ (k : Int) < 0 := by omega
    have t2 : (0 : Int) ≤ (k : Int) := by omega
    have t3 : (k : Int) < (l.length : Int) := by omega
    have t1d := dec_f t1
    go_upto_region 3 with fail
    go_cut [30] (fun s30 wx => s30 = .bool (!(decide (y.s.user = x.s.user) && b)) ∧ Below w3.heap.size w3 wx)
    case first =>
      by_cases hu : y.s.user = x.s.user
      · have t4 : (y.s.user != x.s.user) = false := by simp [hu]
        have t5 := dec_t hu
        clear hu
        have HCq := Lib.hid (fun d os => reg_of (HC.out (Go.Sort.grow (redrawn w3 d) os) (HSx.out.keep (chain BA.out (below_regrown w3 d os)))))
        have r1 := fun d os => cell_regrown k1 d os
        have r2 := fun d os => cell_regrown g1 d os
        refine wp_region_quiet_below (by kernel_rfl) (by kernel_rfl) ?_
        (try simp only [List.append_eq, List.cons_append, List.nil_append])
        repeat (first | go_big_quiet_skip | (go_big_quiet_want; first | ((first | refine quiet_ld R1 rfl rfl ?_); (try simp only [Act.put, List.setIfInBounds_toArray, List.set_cons_zero, List.set_cons_succ]); go_big_quiet_on) | (go_big_quiet_op; first | go_big_quiet_on | (apply Exists.intro; refine ⟨fun _ => ?_, ?_⟩; (focus ((first | (go_at_call 13; with_reducible exact HCq.out _ _)))); go_big_quiet_on))))
        refine wpQuiet_nil ?_
        intro _ hw'
        obtain ⟨⟨dq, osq⟩, hw''⟩ := hw'
        subst hw''
        have BQ := Lib.hid (below_regrown w3 dq osq)
        generalize Go.Sort.grow (redrawn w3 dq) osq = w4 at BQ ⊢
        go_wp2_with fail
        go_meet
        case rel => exact ⟨by simp [t5], BQ.out⟩
      · have t4 : (y.s.user != x.s.user) = true := by simp [hu]
        have t5 := dec_f hu
        clear hu
        go_quiet (fail)
        go_wp2_with fail
        go_meet
        case rel => exact ⟨by simp [t5], bel_drewN (Below.refl _ _) _⟩
    case rest =>
      obtain ⟨rfl, hbb⟩ := hcut
      obtain ⟨w4, hw4⟩ : ∃ w4, w4 = wc := ⟨_, rfl⟩
      subst hw4
      have B4 := Lib.hid hbb
      clear hbb k1 g1 R1 R0
      replace A1 := Lib.hid (keepb A1.out B4.out)
      replace BA := Lib.hid (chain BA.out B4.out)
      replace HO := Lib.hid (HO.out.keep B4.out)
      have R1 := Lib.hid (rangeAt_block A1.out)
      cases b with
      | false =>
        simp only [Bool.and_false, Bool.not_false, Bool.false_eq_true, if_false] at HE ⊢
        have HE2 := Lib.hid (show t = cons l ∧ c = false by have := HE.out; cases this; exact ⟨rfl, rfl⟩)
        obtain ⟨rfl, rfl⟩ := HE2.out
        go_wp2_with fail
        go_ret2
        exact ⟨p2, cap2, L, HL.out, rfl, HO, BA⟩
      | true =>
        have hfs := fits_small HFt.out
        by_cases hu : y.s.user = x.s.user
        · have HE2 := Lib.hid (show t = (cons l).set k x.s ∧ c = true by
            have := HE.out; rw [dec_t hu] at this; cases this; exact ⟨rfl, rfl⟩)
          rw [dec_t hu]
          simp only [Bool.and_self, Bool.not_true]
          clear hu HE
          obtain ⟨g, rfl⟩ := own_head HO.out.row (by omega)
          have hg : w.heap.size ≤ g := HO.out.row.block g rfl
          have t4 : (k : Int) < (L.length : Int) := by omega
          go_wp2_with (refine ldl R1 rfl rfl rfl ?_)
          refine (sesown_any x _ (HSx.out.keep BA.out) (by omega) (by omega)).mono ?_
          rintro e w6 ⟨z, hz, rfl, HY, B6⟩
          have HYs := Lib.hid hz
          have hz5 : w.heap.size ≤ w4.heap.size := BA.out.size
          replace BA := Lib.hid (chain BA.out B6.out)
          replace HO := Lib.hid (HO.out.keep B6.out)
          replace HY := Lib.hid (HY.out.mono hz5)
          clear hz R1 A1 B4 B6
          go_wp2_with (refine stp HO HY hkL rfl rfl (by simp [Act.eval, Act.put]) rfl ?_; intro w7 HO7 M7)
          have BX := Lib.hid (Mod.below M7.out BA.out BA.out.size (fun k hk => by omega))
          obtain ⟨rfl, rfl⟩ := HE2.out
          go_ret2
          exact ⟨_, cap2, L.set k z, by rw [cons_set, HL.out, HYs.out], by rw [List.length_set]; rfl, Lib.hid (by rw [List.length_set]; exact HO7.out), BX⟩
        · have HE2 := Lib.hid (show t = cons l ∧ c = false by
            have := HE.out; rw [dec_f hu] at this; cases this; exact ⟨rfl, rfl⟩)
          rw [dec_f hu]
          simp only [Bool.false_and, Bool.not_false]
          clear hu HE
          obtain ⟨rfl, rfl⟩ := HE2.out
          go_wp2_with fail
          go_ret2
          exact ⟨p2, cap2, L, HL.out, rfl, HO, BA⟩
  · have HE := Lib.hid (show t = cons l ∧ c = false by
      have := HOp.out; unfold sesPut at this; rw [sesAt_none hno] at this; cases this; exact ⟨rfl, rfl⟩)
    clear hno
    obtain ⟨rfl, rfl⟩ := HE.out
    go_upto_region 3 with fail
    go_quiet (fail)
    go_wp2_with fail
    go_ret2
    exact ⟨p2, cap2, L, HL.out, rfl, Lib.hid (HO.out.keep (bel_drewN (Below.refl _ _) _)), Lib.hid (bel_drewN BA.out _)⟩
end Go.Proofs.Ytlmkkfigmoefdaa.K

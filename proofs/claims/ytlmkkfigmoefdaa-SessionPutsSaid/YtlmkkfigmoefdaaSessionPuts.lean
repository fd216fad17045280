/-
  THE STATEMENT 'Rows.SessionPutsSaid': nightjarlaw18.SessionPuts returns true for every input, and its arguments read afterwards as they read before. No condition.
-/
import Derived.Test.YtlmkkfigmoefdaaSes14
import Derived.Test.YtlmkkfigmoefdaaSesPlain
import Derived.Test.YtlmkkfigmoefdaaSesRead
import Derived.Test.YtlmkkfigmoefdaaSesOne
import Derived.Test.YtlmkkfigmoefdaaRows
import Derived.Deep.DeepCutAuto
import Derived.Deep.Light
import Derived.ProofKit
import Derived.OpenShut
import Derived.ShutString
import Derived.ChangeOld
import Derived.Below
set_option linter.unusedVariables false
set_option linter.unusedSimpArgs false
namespace Go.Proofs.Ytlmkkfigmoefdaa.lawSessionPuts
open Go Go.RowKit Nj K

def hit (s : Ses) (x : Ses) : Bool := decide (x.id = s.id) && (decide (x.user = s.user) && sesFits s)
theorem put_law {t : List Ses} (h : sesRight t = true) {s : Ses} {t' : List Ses} {c : Bool} (hp : sesPut t s = (t', c)) :
    t'.length = t.length ∧ c = t.any (hit s) ∧ ∀ i (hi : i < t.length) (hi' : i < t'.length), t'[i] = if hit s t[i] = true then s else t[i] := by
  have hpw := (right_parts h).2.2.1
  have hno : ∀ k, sesAt t s.id = some k → ∀ i (hi : i < t.length), i ≠ k → hit s t[i] = false := by
    intro k hk i hi hik
    unfold sesAt at hk
    rw [List.findIdx?_eq_some_iff_getElem] at hk
    obtain ⟨hkl, he, _⟩ := hk
    simp only [decide_eq_true_eq] at he
    have hne : t[i].id ≠ s.id := by
      rcases Nat.lt_or_gt_of_ne hik with hl | hl
      · have := List.pairwise_iff_getElem.1 hpw i k hi hkl hl; omega
      · have := List.pairwise_iff_getElem.1 hpw k i hkl hi hl; omega
    simp [hit, hne]
  unfold sesPut at hp
  split at hp
  · rename_i k hk
    have hk2 := hk
    unfold sesAt at hk2
    rw [List.findIdx?_eq_some_iff_getElem] at hk2
    obtain ⟨hkl, he, _⟩ := hk2
    simp only [decide_eq_true_eq] at he
    have hg : t.getD k ses0 = t[k] := by rw [List.getD_eq_getElem?_getD, List.getElem?_eq_getElem hkl]; rfl
    have hhit : hit s t[k] = (decide ((t.getD k ses0).user = s.user) && sesFits s) := by rw [hg]; simp [hit, he]
    rw [← hhit] at hp
    have hany : t.any (hit s) = hit s t[k] := by
      rw [Bool.eq_iff_iff, List.any_eq_true]
      constructor
      · rintro ⟨y, hy, h1⟩
        obtain ⟨i, hi, rfl⟩ := List.getElem_of_mem hy
        by_cases e : i = k
        · subst e; exact h1
        · rw [hno k hk i hi e] at h1; cases h1
      · intro h1; exact ⟨_, List.getElem_mem hkl, h1⟩
    split at hp
    · rename_i hh
      cases hp
      refine ⟨by simp, by rw [hany, hh], fun i hi hi' => ?_⟩
      rw [List.getElem_set]
      by_cases e : k = i
      · subst e; rw [if_pos rfl, if_pos hh]
      · rw [if_neg e, hno k hk i hi (Ne.symm e)]; simp
    · rename_i hh
      cases hp
      refine ⟨rfl, by rw [hany]; simpa using hh, fun i hi hi' => ?_⟩
      by_cases e : i = k
      · subst e; rw [if_neg hh]
      · rw [hno k hk i hi e]; simp
  · rename_i hk
    cases hp
    unfold sesAt at hk
    rw [List.findIdx?_eq_none_iff] at hk
    have hn : ∀ y ∈ t, hit s y = false := fun y hy => by
      have := hk y hy
      simp only [decide_eq_false_iff_not] at this
      simp [hit, this]
    refine ⟨rfl, ?_, fun i hi hi' => by rw [hn _ (List.getElem_mem hi)]; simp⟩
    symm
    rw [List.any_eq_false]
    intro y hy
    rw [hn y hy]; simp

set_option maxRecDepth 100000 in
set_option maxHeartbeats 8000000 in
theorem walk (v : Value) (l : List Sv) (x : Sv) (w : World) (h : Sess w v l) (hx : Sok w x) :
    Calls Try.prog 7 #[v, .agg x.cells.toArray] w fun e w' => e = .returned (.bool true) ∧ Below w.heap.size w w' := by
  have HS := Lib.hid h
  have HX := Lib.hid hx
  obtain ⟨p, cap, rfl, hcap⟩ := sess_shape h
  have hm : l.length ≤ 9223372036854775807 := h.1.1
  clear h hx
  obtain ⟨rb, hrb⟩ : ∃ rb, sesRight (cons l) = rb := ⟨_, rfl⟩
  have HR := Lib.hid hrb
  have HC := Lib.hid (fun W (B : Below w.heap.size w W) => sesright_any _ l W (HS.out.keep B))
  rw [hrb] at HC
  clear hrb
  have hcl := Lib.hid (show (cons l).length = l.length by simp [cons])
  go_enter Try.func7, Try.ntmps7
  go_upto_region 1 with fail
  refine gen_wp (fun w1 => Hid (Below w.heap.size w w1) ∧ Hid (w1.heap[w.heap.size]? = some (.cells x.cells.toArray 38)) ∧ True) ⟨Lib.hid (by (repeat (first | (with_reducible exact Below.refl _ _) | (with_reducible refine bel_set (by first | omega | (simp; done) | (simp; omega)) ?_) | (with_reducible refine bel_alloc (by first | omega | (simp; done) | (simp; omega)) ?_) | (with_reducible refine bel_drew ?_) | (with_reducible refine bel_drewN ?_ _))); first | done | fail "left"), Lib.hid (heap_new _ _ _ rfl), trivial⟩ ?_
  rintro w1 ⟨BA, A3, -⟩
  go_wp2_with fail
  refine (small18_any _).mono ?_; rintro e w2 ⟨rfl, B2⟩
  replace A3 := Lib.hid (keepb A3.out B2.out)
  replace BA := Lib.hid (chain BA.out B2.out)
  clear B2
  have g23 := g_bts (rangeAt_block A3.out)
  have g27 := g_fls (rangeAt_block A3.out)
  by_cases hbig : 50 < x.s.beats.length ∨ 50 < x.s.ch.send.fl.length
  · by_cases hb1 : 50 < x.s.beats.length
    · have t1 : (50 : Int) < (x.s.beats.length : Int) := by omega
      clear hbig
      go_wp2_with fail
      go_ret
      exact ⟨rfl, BA.out⟩
    · have t1 : ¬ (50 : Int) < (x.s.beats.length : Int) := by omega
      have t2 : (50 : Int) < (x.s.ch.send.fl.length : Int) := by omega
      clear hbig
      go_wp2_with fail
      go_ret
      exact ⟨rfl, BA.out⟩
  have t1 : ¬ (50 : Int) < (x.s.beats.length : Int) := by omega
  have t2 : ¬ (50 : Int) < (x.s.ch.send.fl.length : Int) := by omega
  have t1d := dec_f t1
  have t2d := dec_f t2
  clear hbig
  go_wp2_with fail
  refine (HC.out _ BA.out).mono ?_; rintro e w3 ⟨rfl, B3⟩
  replace A3 := Lib.hid (keepb A3.out B3.out)
  replace BA := Lib.hid (chain BA.out B3.out)
  clear B3 HC g23 g27
  cases rb with
  | false =>
    go_wp2_with fail
    go_ret
    exact ⟨rfl, BA.out⟩
  | true =>
    have hs3 := block_lt A3.out
    obtain ⟨t, c, hop⟩ : ∃ t c, sesPut (cons l) x.s = (t, c) := ⟨_, _, rfl⟩
    have HLaw := Lib.hid (put_law HR.out hop)
    have HC2 := Lib.hid (fun W (B : Below w.heap.size w W) => sesput_any _ l x W (HS.out.keep B) (right_small HR.out) (HX.out.keep B) t c hop)
    have R3 := Lib.hid (rangeAt_block A3.out)
    clear hop
    go_wp2_with (refine ldl R3 rfl rfl rfl ?_)
    refine (HC2.out _ BA.out).mono ?_
    rintro e w4 ⟨p4, cap4, L, hL, rfl, HO, B4⟩
    have HL := Lib.hid hL
    have hLl : L.length = l.length := by
      have := HLaw.out.1; rw [← hL] at this; simpa [cons] using this
    replace A3 := Lib.hid (keepb A3.out B4.out)
    replace BA := Lib.hid (chain BA.out B4.out)
    have HT := Lib.hid HO.out.sess
    clear B4 HO hL R3 hs3 HC2
    rw [hLl] at HT ⊢
    have x0 := bne_self_eq_false (l.length : Int)
    go_wp2_with fail
    clear t1 t2 t1d t2d x0
    go_loopw [8, 9] (fun n8 n9 wr => ∃ k : Nat, k ≤ l.length ∧ n9 = .int .i64 k ∧ n8 = .bool (((cons l).take k).any (hit x.s)) ∧ Below w4.heap.size w4 wr) (fun _ i _ => l.length - (intOf i).toNat)
    case atStart => exact ⟨0, by omega, rfl, rfl, Below.refl _ _⟩
    case round =>
      obtain ⟨k, hk, rfl, rfl, hb⟩ := hrel
      have B4 := Lib.hid hb
      clear hb
      have A3r := Lib.hid (keepb A3.out B4.out)
      have BX := Lib.hid (chain BA.out B4.out)
      by_cases hlt : k < l.length
      · have hkL : k < L.length := by omega
        obtain ⟨b, o, rfl, _⟩ := HS.out.1.open (by omega)
        obtain ⟨b4, o4, hp4, _⟩ := HT.out.1.open (by omega)
        subst hp4
        obtain ⟨y, hy⟩ : ∃ y, y = l[k] := ⟨_, rfl⟩
        obtain ⟨z, hz⟩ : ∃ z, z = L[k] := ⟨_, rfl⟩
        have Ry := Lib.hid (ses_row (HS.out.1.keep (by decide) BX.out) k hlt y hy)
        have Rz := Lib.hid (ses_row (HT.out.1.keep (by decide) B4.out) k hkL z hz)
        have Rx := Lib.hid (rangeAt_block A3r.out)
        have HSy := Lib.hid ((HS.out.2 y (by rw [hy]; exact List.getElem_mem hlt)).keep BX.out)
        have HSz := Lib.hid ((HT.out.2 z (by rw [hz]; exact List.getElem_mem hkL)).keep B4.out)
        have HSx := Lib.hid (HX.out.keep BX.out)
        obtain ⟨hb, hhb⟩ : ∃ hb, hit x.s y.s = hb := ⟨_, rfl⟩
        have HHit := Lib.hid hhb
        have HZ := Lib.hid (show z.s = if hb = true then x.s else y.s by
          have h1 := HLaw.out.2.2 k (by rw [hcl.out]; exact hlt) (by rw [← HL.out]; simpa [cons] using hkL)
          have e1 : t[k]'(by rw [← HL.out]; simpa [cons] using hkL) = z.s := by
            simp only [← HL.out, hz]; simp [cons]
          have e2 : (cons l)[k]'(by rw [hcl.out]; exact hlt) = y.s := by simp [cons, hy]
          rw [e1, e2, hhb] at h1
          exact h1)
        obtain ⟨a, ha⟩ : ∃ a : Bool, a = ((cons l).take k).any (hit x.s) := ⟨_, rfl⟩
        have HA := Lib.hid (show (((cons l).take (k + 1)).any (hit x.s)) = (a || hb) by
          rw [List.take_add_one, List.getElem?_eq_getElem (by rw [hcl.out]; exact hlt), List.any_append, ← ha]
          simp [cons, ← hy, hhb])
        rw [← ha]
        have k0 := f_id Ry.out
        have k1 := f_user Ry.out
        have g0 := g_id Rx.out
        have g1 := g_user Rx.out
        have r0 := fun d os => cell_regrown k0 d os
        have r1 := fun d os => cell_regrown k1 d os
        have r2 := fun d os => cell_regrown g0 d os
        have r3 := fun d os => cell_regrown g1 d os
        have t1 : (k : Int) < (l.length : Int) := by omega
        have t2 : (0 : Int) ≤ (k : Int) := by omega
        obtain ⟨fb, hfb⟩ : ∃ fb, sesFits x.s = fb := ⟨_, rfl⟩
        have HFq := Lib.hid (fun d os => reg_of (sfits_any x (Go.Sort.grow (redrawn wr d) os) (HSx.out.keep (below_regrown wr d os))))
        rw [hfb] at HFq
        have HHb := Lib.hid (show hb = (decide (y.s.id = x.s.id) && (decide (y.s.user = x.s.user) && fb)) by rw [← hhb, ← hfb]; rfl)
        clear ha hy hz hhb hfb
        go_upto_region 11 with fail
        go_cut [67] (fun s67 wx => s67 = .bool hb ∧ Below wr.heap.size wr wx)
        case first =>
          by_cases h1 : y.s.id = x.s.id
          · by_cases h2 : y.s.user = x.s.user
            · have u1 : (y.s.id == x.s.id) = true := by simp [h1]
              have u2 : (y.s.user == x.s.user) = true := by simp [h2]
              have HB2 := Lib.hid (show hb = fb by rw [HHb.out, dec_t h1, dec_t h2]; simp)
              clear h1 h2
              refine wp_region_quiet_below (by kernel_rfl) (by kernel_rfl) ?_
              (try simp only [List.append_eq, List.cons_append, List.nil_append])
              repeat (first | go_big_quiet_skip | (go_big_quiet_want; first | ((first | refine quiet_ld Rx rfl rfl ?_); (try simp only [Act.put, List.setIfInBounds_toArray, List.set_cons_zero, List.set_cons_succ]); go_big_quiet_on) | (go_big_quiet_op; first | go_big_quiet_on | (apply Exists.intro; refine ⟨fun _ => ?_, ?_⟩; (focus ((first | (go_at_call 13; with_reducible exact HFq.out _ _)))); go_big_quiet_on))))
              refine wpQuiet_nil ?_
              intro _ hw'
              obtain ⟨⟨dq, osq⟩, hw''⟩ := hw'
              subst hw''
              have BQ := Lib.hid (below_regrown wr dq osq)
              generalize Go.Sort.grow (redrawn wr dq) osq = w6 at BQ ⊢
              go_wp2_with fail
              go_meet
              case rel => exact ⟨by rw [HB2.out], BQ.out⟩
            · have u1 : (y.s.id == x.s.id) = true := by simp [h1]
              have u2 : (y.s.user == x.s.user) = false := by simp [h2]
              have HB2 := Lib.hid (show hb = false by rw [HHb.out, dec_f h2]; simp)
              clear h1 h2
              refine wp_region_quiet_below (by kernel_rfl) (by kernel_rfl) ?_
              (try simp only [List.append_eq, List.cons_append, List.nil_append])
              repeat (first | go_big_quiet_skip | (go_big_quiet_want; first | ((first | refine quiet_ld Rx rfl rfl ?_); (try simp only [Act.put, List.setIfInBounds_toArray, List.set_cons_zero, List.set_cons_succ]); go_big_quiet_on) | (go_big_quiet_op; first | go_big_quiet_on | (apply Exists.intro; refine ⟨fun _ => ?_, ?_⟩; (focus (fail)); go_big_quiet_on))))
              refine wpQuiet_nil ?_
              intro _ hw'
              obtain ⟨⟨dq, osq⟩, hw''⟩ := hw'
              subst hw''
              have BQ := Lib.hid (below_regrown wr dq osq)
              generalize Go.Sort.grow (redrawn wr dq) osq = w6 at BQ ⊢
              go_wp2_with fail
              go_meet
              case rel => exact ⟨by rw [HB2.out], BQ.out⟩
          · have u1 : (y.s.id == x.s.id) = false := by simp [h1]
            have HB2 := Lib.hid (show hb = false by rw [HHb.out, dec_f h1]; simp)
            clear h1
            refine wp_region_quiet_below (by kernel_rfl) (by kernel_rfl) ?_
            (try simp only [List.append_eq, List.cons_append, List.nil_append])
            repeat (first | go_big_quiet_skip | (go_big_quiet_want; first | ((first | refine quiet_ld Rx rfl rfl ?_); (try simp only [Act.put, List.setIfInBounds_toArray, List.set_cons_zero, List.set_cons_succ]); go_big_quiet_on) | (go_big_quiet_op; first | go_big_quiet_on | (apply Exists.intro; refine ⟨fun _ => ?_, ?_⟩; (focus (fail)); go_big_quiet_on))))
            refine wpQuiet_nil ?_
            intro _ hw'
            obtain ⟨⟨dq, osq⟩, hw''⟩ := hw'
            subst hw''
            have BQ := Lib.hid (below_regrown wr dq osq)
            generalize Go.Sort.grow (redrawn wr dq) osq = w6 at BQ ⊢
            go_wp2_with fail
            go_meet
            case rel => exact ⟨by rw [HB2.out], BQ.out⟩
        case rest =>
          obtain ⟨rfl, hbb⟩ := hcut
          obtain ⟨w6, hw6⟩ : ∃ w6, w6 = wc := ⟨_, rfl⟩
          subst hw6
          have B6 := Lib.hid hbb
          clear hbb k0 k1 g0 g1 r0 r1 r2 r3 HFq
          replace Ry := Lib.hid (rangeAt_keep Ry.out B6.out)
          replace Rz := Lib.hid (rangeAt_keep Rz.out B6.out)
          replace Rx := Lib.hid (rangeAt_keep Rx.out B6.out)
          have B46 := Lib.hid (chain B4.out B6.out)
          cases hb with
          | true =>
            have HOn := Lib.hid (fun d os => reg_of (rone_any z x (Go.Sort.grow (redrawn w6 d) os) (HSz.out.keep (chain B6.out (below_regrown w6 d os))) (HSx.out.keep (chain B6.out (below_regrown w6 d os)))))
            rw [show decide (z.s = x.s) = true by rw [HZ.out]; simp] at HOn
            go_upto_region 13 with fail
            refine wp_region_quiet_below (by kernel_rfl) (by kernel_rfl) ?_
            (try simp only [List.append_eq, List.cons_append, List.nil_append])
            repeat (first | go_big_quiet_skip | (go_big_quiet_want; first | ((first | refine quiet_ld Rz rfl rfl ?_ | refine quiet_ld Rx rfl rfl ?_); (try simp only [Act.put, List.setIfInBounds_toArray, List.set_cons_zero, List.set_cons_succ]); go_big_quiet_on) | (go_big_quiet_op; first | go_big_quiet_on | (apply Exists.intro; refine ⟨fun _ => ?_, ?_⟩; (focus ((first | (go_at_call 23; with_reducible exact HOn.out _ _)))); go_big_quiet_on))))
            refine wpQuiet_nil ?_
            intro _ hw'
            obtain ⟨⟨dq, osq⟩, hw''⟩ := hw'
            subst hw''
            have BQ := Lib.hid (below_regrown w6 dq osq)
            generalize Go.Sort.grow (redrawn w6 dq) osq = w7 at BQ ⊢
            go_wp2_with fail
            go_roundw
            case rel => exact ⟨k + 1, by omega, by go_num, by rw [HA.out]; simp, chain B46.out BQ.out⟩
            case measure => simp [intOf]; omega
          | false =>
            have HOn := Lib.hid (fun d os => reg_of (rone_any z y (Go.Sort.grow (redrawn w6 d) os) (HSz.out.keep (chain B6.out (below_regrown w6 d os))) (HSy.out.keep (chain B6.out (below_regrown w6 d os)))))
            rw [show decide (z.s = y.s) = true by rw [HZ.out]; simp] at HOn
            go_upto_region 15 with fail
            refine wp_region_quiet_below (by kernel_rfl) (by kernel_rfl) ?_
            (try simp only [List.append_eq, List.cons_append, List.nil_append])
            repeat (first | go_big_quiet_skip | (go_big_quiet_want; first | ((first | refine quiet_ld Rz rfl rfl ?_ | refine quiet_ld Ry rfl rfl ?_); (try simp only [Act.put, List.setIfInBounds_toArray, List.set_cons_zero, List.set_cons_succ]); go_big_quiet_on) | (go_big_quiet_op; first | go_big_quiet_on | (apply Exists.intro; refine ⟨fun _ => ?_, ?_⟩; (focus ((first | (go_at_call 23; with_reducible exact HOn.out _ _)))); go_big_quiet_on))))
            refine wpQuiet_nil ?_
            intro _ hw'
            obtain ⟨⟨dq, osq⟩, hw''⟩ := hw'
            subst hw''
            have BQ := Lib.hid (below_regrown w6 dq osq)
            generalize Go.Sort.grow (redrawn w6 dq) osq = w7 at BQ ⊢
            go_wp2_with fail
            go_roundw
            case rel => exact ⟨k + 1, by omega, by go_num, by rw [HA.out]; simp, chain B46.out BQ.out⟩
            case measure => simp [intOf]; omega
      · have hke : k = l.length := by omega
        subst hke
        have HAny := Lib.hid (show (((cons l).take l.length).any (hit x.s)) = c by
          rw [List.take_of_length_le (by rw [hcl.out]; exact Nat.le_refl _)]; exact HLaw.out.2.1.symm)
        rw [HAny.out]
        have x1 := beq_self_eq_true c
        have t1 : decide ((l.length : Int) < (l.length : Int)) = false := by simp
        go_wp2_with fail
        go_ret
        exact ⟨rfl, BX.out⟩

end Go.Proofs.Ytlmkkfigmoefdaa.lawSessionPuts
namespace Go.Proofs.Ytlmkkfigmoefdaa.lawSessionPuts
open Go.ChangeShapes Go.WideShapes Go.RowKit
set_option linter.unusedVariables false
theorem own : ownKnob Try.prog.godebug = none := by kernel_rfl
theorem laidOut : laidOutB Try.prog = true := by kernel_rfl
set_option maxRecDepth 100000 in
theorem lifted (os : Os) (started : os.Started) (H : Type) (enc : TypeId × Value → H) :
    ReturnsInHanded {} Try.checked os 7 .any (Rows.sessionPutsSpec.pre6 enc Try.prog Try.f7 Rows.sessionPutsRow.domain false) (Rows.sessionPutsSpec.post enc Try.prog Try.f7 false true false false) := by
  refine returnsInHanded_of_change (C := Try.checked) own started (by kernel_rfl) Try.func7
    (ChangeSpec.witness6 (enc := enc) (C := Try.checked) false ⟨#[], #[.slice none 0 0, .agg #[.int .i64 0, .int .i64 0, .int .i64 0, .int .i64 0, .int .u8 0, .int .u8 0, .int .u8 0, .int .u8 0, .int .u8 0, .int .u8 0, .int .u8 0, .int .u8 0, .int .u8 0, .int .u8 0, .int .u8 0, .int .u8 0, .int .u8 0, .int .u8 0, .int .u8 0, .int .u8 0, .int .i64 0, .int .i64 0, .int .i64 0, .slice none 0 0, .int .i64 0, .int .i64 0, .int .i64 0, .slice none 0 0, .int .i64 0, .int .i64 0, .int .i64 0, .int .i64 0, .int .i64 0, .int .i64 0, .bool false]], []⟩ 8 (by kernel_rfl) (by kernel_rfl) (by kernel_rfl) (by kernel_rfl)) ?_
  intro W base args ds gs before hval0 hW hcnd _
  have hval : ∀ (j : Nat) t v, Try.f7.params[j]? = some t → args[j]? = some v → Value.okWide Try.prog W .any base t v := hval0
  have hW' := hW
  obtain ⟨p, q, hA0, hV, rfl, hfz, hnd⟩ := hW
  have hA : DataW.TrodAll enc Try.prog W 0 (fun _ => true) true Try.f7.params.toList args.toList ds p := hA0
  rw [Try.params7] at hA hval
  obtain ⟨v0, vs0, d0, ds0, p0, q0, hargs, rfl, rfl, h0, r0⟩ := trodAll_cons hA
  obtain ⟨v1, vs1, d1, ds1, p1, q1, rfl, rfl, rfl, h1, r1⟩ := trodAll_cons r0
  obtain ⟨rfl, rfl, rfl⟩ := trodAll_nil r1
  obtain rfl : args = #[v0, v1] := by cases args; simp_all
  obtain ⟨rfl, rfl⟩ := trodVars_none hV
  obtain ⟨a0, len0, cap0, rfl⟩ := okWide_slice Try.underlying22 (hval 0 22 v0 rfl rfl)
  have k0 := h0
  have lt0 : ∀ x ∈ p0, x.block < W.heap.size := by obtain ⟨m, hm⟩ := k0; exact DataW.trod_lt m _ _ _ hm
  obtain ⟨z0, _, w0⟩ : ∃ l : List Nj.Sv, l.length = len0 ∧ Nj.Sess W (.slice a0 len0 cap0) l := by
    obtain ⟨fuel, hf⟩ := h0
    exact K.open_sess hf
  obtain ⟨z1, rfl, w1⟩ := K.open_ses_arg (hval 1 38 v1 rfl rfl) h1
  have k1 := h1
  have lt1 : ∀ x ∈ p1, x.block < W.heap.size := by obtain ⟨m, hm⟩ := k1; exact DataW.trod_lt m _ _ _ hm
  clear hA0 hval0
  refine (walk _ z0 z1 W w0 w1).mono fun e W' ⟨he, bel⟩ => ?_
  subst he
  exact ⟨_, rfl, _, _, _, [], _, [], hW', trodAll_mk1 (shut_bool Try.underlying4 _), (trodAll_cons_mk (Below.trod laidOut (by kernel_rfl) (of_decide_eq_true (by kernel_rfl)) k0 bel lt0) (trodAll_cons_mk (Below.trod laidOut (by kernel_rfl) (of_decide_eq_true (by kernel_rfl)) k1 bel lt1) trodAll_mk0)), rfl, bel.frame _, fun h => by cases h⟩
theorem over : Rows.sessionPutsRow.holds Try.pinned (OpenSpec.ofChange Rows.sessionPutsSpec) :=
  OpenClaim.holds_of_wide 7 Try.f7 rfl rfl rfl rfl rfl rfl rfl ⟨rfl, rfl, rfl, rfl, rfl⟩ rfl rfl rfl rfl rfl (by kernel_rfl) Try.func7 (by kernel_rfl)
    (of_decide_eq_true (by kernel_rfl)) (by unfold Func.isWrapper; first | (rw [if_pos (by decide +kernel)]; kernel_rfl) | (rw [if_neg (by decide +kernel)]; exact ⟨rfl, rfl⟩))
    (fun os started H enc _ => lifted os started H enc)
/-- THE STATEMENT -/
theorem proved : Rows.SessionPutsSaid := over
end Go.Proofs.Ytlmkkfigmoefdaa.lawSessionPuts
#print axioms Go.Proofs.Ytlmkkfigmoefdaa.lawSessionPuts.proved

/-
  CONTRACTS of those functions of detect and the answer 14 that package session reaches (each as in its own chapter).
-/
import Derived.Test.YtlmkkfigmoefdaaProg
import Derived.Test.YtlmkkfigmoefdaaSl
import Derived.Test.YtlmkkfigmoefdaaReg
import Derived.Test.YtlmkkfigmoefdaaSesFns
import Derived.Deep.RegionHeld3
import Derived.Deep.RegionWith
import Derived.RegionTactic
import Derived.BigRegion
set_option linter.unusedVariables false
set_option linter.unusedSimpArgs false
namespace Nj
open Go Go.RowKit

def Bt.cells (b : Bt) : List Value := [.int .i64 b.seq, .int .i64 b.at_]

theorem bt_two (b : Bt) : b.cells.length = 2 := rfl

/-- v is a slice of these heartbeats -/
def Bts (w : World) (v : Value) (l : List Bt) : Prop := Sl 2 w v l.length (flat Bt.cells l)


end Nj
namespace Go.Proofs.Ytlmkkfigmoefdaa.K
open Go Go.RowKit Nj

theorem may_any (s a : Int) (w : World) :
    Calls Try.prog 57 #[.agg #[.int .i64 s, .int .i64 a]] w fun e w' => e = .returned (.bool (btMay ⟨s, a⟩)) ∧ Below w.heap.size w w' := by
  go_enter Try.func57, Try.ntmps57
  go_wp2
  all_goals go_ret
  all_goals exact ⟨ret_bool (by simp_all [btMay]; try omega), (Below.refl _ _).alloc (Nat.le_refl _) _⟩

theorem behind_any (s a s' a' : Int) (w : World) :
    Calls Try.prog 58 #[.agg #[.int .i64 s, .int .i64 a], .agg #[.int .i64 s', .int .i64 a']] w fun e w' => e = .returned (.bool (btBehind ⟨s, a⟩ ⟨s', a'⟩)) ∧ Below w.heap.size w w' := by
  go_enter Try.func58, Try.ntmps58
  go_wp2_with fail
  refine (may_any _ _ _).mono ?_; rintro e w1 ⟨rfl, hb⟩
  obtain ⟨hq1, hq2, _, hbw⟩ := blocks2 hb
  have HB := Lib.hid hbw
  have hc1 := cell_of_block hq1
  have hc2 := cell_of_block hq2
  clear hb hq1 hq2 hbw
  go_wp2_with fail
  all_goals go_ret
  all_goals exact ⟨ret_bool (by simp_all [btBehind]; try omega), HB.out⟩

theorem right_false_of {l : List Bt} (h : ¬ ∃ h : 0 < l.length, l.length ≤ 8 ∧ btMay l[0] = true ∧ ∀ k (h : k + 1 < l.length), btBehind l[k + 1] l[k] = true) : btRight l = false := by
  cases e : btRight l
  · rfl
  · exact absurd ((btRight_iff l).1 e) h

set_option maxHeartbeats 1000000 in
theorem dright_any (v : Value) (l : List Bt) (w : World) (h : Bts w v l) :
    Calls Try.prog 36 #[v] w fun e w' => e = .returned (.bool (btRight l)) ∧ Below w.heap.size w w' := by
  have HS := Lib.hid h
  obtain ⟨hm, hl, p, cap, rfl, hcap, hc⟩ := h
  clear hc hl
  by_cases h0 : l.length = 0
  · have HF := Lib.hid (right_false_of (l := l) (by rintro ⟨h, _⟩; omega))
    have d0 : ((l.length : Int) == 0) = true := by simp [h0]
    clear h0
    go_enter Try.func36, Try.ntmps36
    go_wp2_with fail
    go_ret
    exact ⟨ret_bool HF.out.symm, Below.refl _ _⟩
  · by_cases h8 : 8 < l.length
    · have HF := Lib.hid (right_false_of (l := l) (by rintro ⟨_, h, _⟩; omega))
      have d0 : ((l.length : Int) == 0) = false := by rw [beq_eq_false_iff_ne]; omega
      have d1 : decide ((8 : Int) < (l.length : Int)) = true := by simp; omega
      clear h0 h8
      go_enter Try.func36, Try.ntmps36
      go_wp2_with fail
      go_ret
      exact ⟨ret_bool HF.out.symm, Below.refl _ _⟩
    · have hpos : 0 < l.length := by omega
      have d0 : ((l.length : Int) == 0) = false := by rw [beq_eq_false_iff_ne]; omega
      have d1 : decide ((8 : Int) < (l.length : Int)) = false := by simp; omega
      have d2 : (0 : Int) < (l.length : Int) := by omega
      obtain ⟨b, o, rfl, _⟩ := HS.out.open hpos
      have HE := Lib.hid (fun (w' : World) (hb : Below w.heap.size w w') i (hi : i < l.length) => (show w'.cell? ⟨b, o + (i * 2 + 0), none⟩ = some (.int .i64 l[i].seq) ∧ w'.cell? ⟨b, o + (i * 2 + 1), none⟩ = some (.int .i64 l[i].at_) from
        ⟨Sl.elem bt_two (HS.out.keep (by decide) hb) i 0 hi (by decide) _ rfl, Sl.elem bt_two (HS.out.keep (by decide) hb) i 1 hi (by decide) _ rfl⟩))
      have e0 := (HE.out w (Below.refl _ _) 0 hpos).1
      have e1 := (HE.out w (Below.refl _ _) 0 hpos).2
      simp only [Nat.zero_mul, Nat.add_zero, Nat.zero_add] at e0 e1
      go_enter Try.func36, Try.ntmps36
      go_wp2_with fail
      refine (may_any _ _ _).mono ?_; rintro e w1 ⟨rfl, hb⟩
      have HB := Lib.hid hb
      clear hb e0 e1
      cases hmay : btMay l[0]
      · have HF := Lib.hid (right_false_of (l := l) (by rintro ⟨_, _, h, _⟩; rw [hmay] at h; cases h))
        go_wp2_with fail
        go_ret
        exact ⟨ret_bool HF.out.symm, HB.out⟩
      · have HM := Lib.hid hmay
        clear hmay
        go_wp2_with fail
        go_loopw [22] (fun i wr => ∃ k : Nat, k + 1 ≤ l.length ∧ i = .int .i64 k ∧ (∀ j (hj : j + 1 < l.length), j < k → btBehind l[j + 1] l[j] = true) ∧ Below w.heap.size w wr) (fun i _ => l.length - (intOf i).toNat)
        case atStart => exact ⟨0, by omega, rfl, fun j _ hj => by omega, HB.out⟩
        case round =>
          obtain ⟨k, hk, rfl, hall, hwb⟩ := hrel
          have HA := Lib.hid hall
          have HW := Lib.hid hwb
          clear hall hwb
          by_cases hlt : k + 1 < l.length
          · have t1 : (k : Int) < (l.length : Int) - 1 := by omega
            have t2 : (k : Int) + 1 < (l.length : Int) := by omega
            have t3 : (k : Int) < (l.length : Int) := by omega
            have t4 : (0 : Int) ≤ (k : Int) := by omega
            obtain ⟨x, hx⟩ : ∃ x, x = l[k + 1] := ⟨_, rfl⟩
            obtain ⟨y, hy⟩ : ∃ y, y = l[k] := ⟨_, rfl⟩
            have c0 : ∀ d os, (Go.Sort.grow (redrawn wr d) os).cell? ⟨b, o + k * 2, none⟩ = some (.int .i64 y.seq) := fun d os => by rw [hy]; exact (HE.out _ (chain HW.out (below_regrown wr d os)) k (by omega)).1
            have c1 : ∀ d os, (Go.Sort.grow (redrawn wr d) os).cell? ⟨b, o + k * 2 + 1, none⟩ = some (.int .i64 y.at_) := fun d os => by rw [hy]; exact (HE.out _ (chain HW.out (below_regrown wr d os)) k (by omega)).2
            have c2 : ∀ d os, (Go.Sort.grow (redrawn wr d) os).cell? ⟨b, o + (k + 1) * 2, none⟩ = some (.int .i64 x.seq) := fun d os => by rw [hx]; exact (HE.out _ (chain HW.out (below_regrown wr d os)) (k + 1) hlt).1
            have c3 : ∀ d os, (Go.Sort.grow (redrawn wr d) os).cell? ⟨b, o + (k + 1) * 2 + 1, none⟩ = some (.int .i64 x.at_) := fun d os => by rw [hx]; exact (HE.out _ (chain HW.out (below_regrown wr d os)) (k + 1) hlt).2
            have HLT := Lib.hid hlt
            have HX := Lib.hid hx
            have HY := Lib.hid hy
            clear hx hy
            cases hbe : btBehind x y
            · have HF := Lib.hid (right_false_of (l := l) (by
                rintro ⟨_, _, _, h⟩
                have := h k hlt
                rw [← HX.out, ← HY.out, hbe] at this
                cases this))
              go_wp2_with fail
              refine wp_region_quiet_below (by kernel_rfl) (by kernel_rfl) ?_
              (try simp only [List.append_eq, List.cons_append, List.nil_append])
              repeat (first | go_big_quiet_skip | (go_big_quiet_want; go_big_quiet_op; first | go_big_quiet_on | (apply Exists.intro; refine ⟨fun _ => ?_, ?_⟩; (focus ((first | (go_at_call 58; exact Calls.regrown_of (behind_any _ _ _ _ _))))); go_big_quiet_on)))
              refine wpQuiet_nil ?_
              intro _ hw'
              obtain ⟨⟨dq, osq⟩, hw''⟩ := hw'
              subst hw''
              have HB2 := Lib.hid (chain HW.out (below_regrown wr dq osq))
              go_wp2_with fail
              go_ret
              exact ⟨ret_bool HF.out.symm, HB2.out⟩
            · have HT := Lib.hid (show ∀ j (hj : j + 1 < l.length), j < k + 1 → btBehind l[j + 1] l[j] = true by
                intro j hj hjk
                by_cases e : j = k
                · subst e; rw [← HX.out, ← HY.out]; exact hbe
                · exact HA.out j hj (by omega))
              go_wp2_with fail
              refine wp_region_quiet_below (by kernel_rfl) (by kernel_rfl) ?_
              (try simp only [List.append_eq, List.cons_append, List.nil_append])
              repeat (first | go_big_quiet_skip | (go_big_quiet_want; go_big_quiet_op; first | go_big_quiet_on | (apply Exists.intro; refine ⟨fun _ => ?_, ?_⟩; (focus ((first | (go_at_call 58; exact Calls.regrown_of (behind_any _ _ _ _ _))))); go_big_quiet_on)))
              refine wpQuiet_nil ?_
              intro _ hw'
              obtain ⟨⟨dq, osq⟩, hw''⟩ := hw'
              subst hw''
              have HB2 := Lib.hid (chain HW.out (below_regrown wr dq osq))
              go_wp2_with fail
              go_roundw
              case rel => exact ⟨k + 1, by omega, by go_num, HT.out, HB2.out⟩
              case measure => simp [intOf]; omega
          · have hke : l.length = k + 1 := by omega
            have HF := Lib.hid (show btRight l = true from (btRight_iff l).2 ⟨hpos, by omega, HM.out, fun j hj => HA.out j hj (by omega)⟩)
            have t1 : decide ((k : Int) < (l.length : Int) - 1) = false := by simp; omega
            clear hke hlt
            go_wp2_with fail
            all_goals go_ret
            all_goals exact ⟨ret_bool HF.out.symm, HW.out⟩

theorem cells_one (l : List Bt) : ∀ u ∈ flat Bt.cells l, u.oneCell' = true := by
  intro u hu
  simp only [flat, List.mem_flatMap, Bt.cells, List.mem_cons, List.not_mem_nil, or_false] at hu
  obtain ⟨b, _, rfl | rfl⟩ := hu <;> rfl

/-- a slice of heartbeats of the call's own comes back -/
def RetBts (w : World) (l : List Bt) (e : Ending) (w' : World) : Prop := ∃ v', e = .returned v' ∧ Own 57 2 w.heap.size w' v' l.length (flat Bt.cells l) ∧ Below w.heap.size w w'

theorem bclone_any (v : Value) (l : List Bt) (w : World) (h : Bts w v l) (hle : l.length ≤ 1048576) :
    Calls Try.prog 63 #[v] w (RetBts w l) := by
  have HS := Lib.hid h
  obtain ⟨hm, hl, p, cap, rfl, hcap, hc⟩ := h
  clear hc hl
  have heq := fun w => Lib.run_eql_slice_nil (P := Try.prog) w 27 57 p l.length cap 0 0 Try.underlying27
  cases p with
  | none =>
    have h0 : l = [] := by
      cases l with
      | nil => rfl
      | cons a l => obtain ⟨b, o, h, _⟩ := HS.out.open (by simp); cases h
    subst h0
    simp only [List.length_nil] at heq
    go_enter Try.func63, Try.ntmps63
    go_wp2_with fail
    go_ret
    exact ⟨_, rfl, own_nil _ _ _ _, Below.refl _ _⟩
  | some ad =>
    go_enter Try.func63, Try.ntmps63
    go_wp2_with (at_builtin; refine wpList_append_sl rfl (.tmp 5) (.tmp 6) 27 rfl w.heap.size 57 (.agg #[.int .i64 0, .int .i64 0]) 2 16 Try.underlying27 (by kernel_rfl) rfl (by decide) _ 0 [] rfl (own_empty _ _ _ _ _ rfl (Nat.le_refl _)) ad l.length cap rfl (flat Bt.cells l) (flat_length bt_two l) ?hc (cells_one l) (by omega) (by omega) (by simp) ?_)
    case hc =>
      intro j u hj
      have hlt : j < (flat Bt.cells l).length := by
        by_cases hh : j < (flat Bt.cells l).length
        · exact hh
        · rw [List.getElem?_eq_none (by omega)] at hj; cases hj
      have hlen : 0 < l.length := by have := flat_length bt_two l; omega
      obtain ⟨b, o, e, hd⟩ := HS.out.open hlen
      cases e
      have := hd j hlt
      rw [List.getElem?_eq_getElem hlt] at hj
      simp only [Option.some.injEq] at hj
      subst hj
      rw [← this]
      show (w.alloc _).cell? _ = _
      have ea : (Addr.add ⟨b, o, none⟩ j) = ⟨b, o + j, none⟩ := Addr.add_lit b o j
      rw [ea]
      exact World.cell?_alloc_lt w _ ⟨b, o + j, none⟩ (cell_lt (a := ⟨b, o + j, none⟩) this)
    intro v' w' hown hg
    have HO := Lib.hid hown
    have HG := Lib.hid (((Below.refl w.heap.size w).alloc (Nat.le_refl _) (.cells #[] 57)).grown hg (by simp) (fun k hk => by simp [Value.ownBlock] at hk; omega))
    clear hown hg
    go_wp2_with fail
    go_ret
    exact ⟨_, rfl, by simpa using HO.out, HG.out⟩


end Go.Proofs.Ytlmkkfigmoefdaa.K
namespace Nj
open Go Go.RowKit

/-- a beat that may stand behind 'a' (or first) -/
theorem right_step (l : List Bt) (k : Nat) (hk : k < l.length) : (btMay l[k] && (decide (k = 0) || btBehind l[k] (l[k-1]'(by omega)))) = true ↔
    (¬ l[k].seq < 0 ∧ ¬ 1073741824 < l[k].seq ∧ ¬ l[k].at_ < 0 ∧ ¬ 1099511627776 < l[k].at_ ∧ (0 < k → ¬ l[k].seq ≤ (l[k-1]'(by omega)).seq ∧ ¬ l[k].at_ < (l[k-1]'(by omega)).at_)) := by
  simp only [btMay, btBehind, Bool.and_eq_true, Bool.or_eq_true, decide_eq_true_eq]
  omega

def okAt (l : List Bt) (k : Nat) : Prop := ∃ hk : k < l.length, ¬ l[k].seq < 0 ∧ ¬ 1073741824 < l[k].seq ∧ ¬ l[k].at_ < 0 ∧ ¬ 1099511627776 < l[k].at_ ∧ (0 < k → ¬ l[k].seq ≤ (l[k-1]'(by omega)).seq ∧ ¬ l[k].at_ < (l[k-1]'(by omega)).at_)

theorem right_iff2 (l : List Bt) : btRight l = true ↔ 0 < l.length ∧ l.length ≤ 8 ∧ ∀ k, k < l.length → okAt l k := by
  rw [btRight_iff]
  constructor
  · rintro ⟨h0, h8, hm, hb⟩
    refine ⟨h0, h8, fun k hk => ⟨hk, (right_step l k hk).1 ?_⟩⟩
    cases k with
    | zero => simp [hm]
    | succ k =>
      have := hb k hk
      simp only [Nat.add_sub_cancel, this]
      unfold btBehind at this
      simp only [Bool.and_eq_true] at this
      simp [this.1]
  · rintro ⟨h0, h8, h⟩
    have hs := fun k hk => (right_step l k hk).2 (h k hk).2
    refine ⟨h0, h8, ?_, fun k hk => ?_⟩
    · have := hs 0 h0
      simp only [Bool.and_eq_true] at this
      exact this.1
    · have := hs (k + 1) hk
      simpa using (Bool.and_eq_true_iff.1 this).2

theorem right_bad {l : List Bt} (k : Nat) (hk : k < l.length) (h : ¬ okAt l k) : btRight l = false := by
  cases e : btRight l
  · rfl
  · exact absurd (((right_iff2 l).1 e).2.2 k hk) h


end Nj
namespace Go.Proofs.Ytlmkkfigmoefdaa.K
open Go Go.RowKit Nj

set_option maxHeartbeats 2000000 in
theorem drright_any (v : Value) (l : List Bt) (w : World) (h : Bts w v l) :
    Calls Try.prog 38 #[v] w fun e w' => e = .returned (.bool (btRight l)) ∧ Below w.heap.size w w' := by
  have HS := Lib.hid h
  obtain ⟨hm, hl, p, cap, rfl, hcap, hc⟩ := h
  clear hc hl
  by_cases h0 : l.length = 0
  · have HF := Lib.hid (right_false_of (l := l) (by rintro ⟨h, _⟩; omega))
    have d0 : decide ((l.length : Int) < 1) = true := by simp; omega
    clear h0
    go_enter Try.func38, Try.ntmps38
    go_wp2_with fail
    go_ret
    exact ⟨ret_bool HF.out.symm, Below.refl _ _⟩
  · by_cases h8 : 8 < l.length
    · have HF := Lib.hid (right_false_of (l := l) (by rintro ⟨_, h, _⟩; omega))
      have d0 : decide ((l.length : Int) < 1) = false := by simp; omega
      have d1 : decide ((8 : Int) < (l.length : Int)) = true := by simp; omega
      clear h0 h8
      go_enter Try.func38, Try.ntmps38
      go_wp2_with fail
      go_ret
      exact ⟨ret_bool HF.out.symm, Below.refl _ _⟩
    · have hpos : 0 < l.length := by omega
      have d0 : decide ((l.length : Int) < 1) = false := by simp; omega
      have d1 : decide ((8 : Int) < (l.length : Int)) = false := by simp; omega
      obtain ⟨b, o, rfl, _⟩ := HS.out.open hpos
      have HE := Lib.hid (fun (w' : World) (hb : Below w.heap.size w w') i (hi : i < l.length) => (show w'.cell? ⟨b, o + (i * 2 + 0), none⟩ = some (.int .i64 l[i].seq) ∧ w'.cell? ⟨b, o + (i * 2 + 1), none⟩ = some (.int .i64 l[i].at_) from
        ⟨Sl.elem bt_two (HS.out.keep (by decide) hb) i 0 hi (by decide) _ rfl, Sl.elem bt_two (HS.out.keep (by decide) hb) i 1 hi (by decide) _ rfl⟩))
      go_enter Try.func38, Try.ntmps38
      go_wp2_with fail
      go_loopw [3] (fun i wr => ∃ k : Nat, k ≤ l.length ∧ i = .int .i64 k ∧ (∀ j, j < k → okAt l j) ∧ Below w.heap.size w wr) (fun i _ => l.length - (intOf i).toNat)
      case atStart => exact ⟨0, by omega, rfl, fun j hj => by omega, Below.refl _ _⟩
      case round =>
        obtain ⟨k, hk, rfl, hall, hwb⟩ := hrel
        have HA := Lib.hid hall
        have HW := Lib.hid hwb
        clear hall hwb
        by_cases hlt : k < l.length
        · obtain ⟨x, hx⟩ : ∃ x, x = l[k] := ⟨_, rfl⟩
          have t2 : (k : Int) < (l.length : Int) := by omega
          have t4 : (0 : Int) ≤ (k : Int) := by omega
          have c0 : ∀ d os, (Go.Sort.grow (redrawn wr d) os).cell? ⟨b, o + k * 2, none⟩ = some (.int .i64 x.seq) := fun d os => by rw [hx]; exact (HE.out _ (chain HW.out (below_regrown wr d os)) k (by omega)).1
          have c1 : ∀ d os, (Go.Sort.grow (redrawn wr d) os).cell? ⟨b, o + k * 2 + 1, none⟩ = some (.int .i64 x.at_) := fun d os => by rw [hx]; exact (HE.out _ (chain HW.out (below_regrown wr d os)) k (by omega)).2
          have HX := Lib.hid hx
          clear hx
          have hno : ∀ hn : ¬ okAt l k, btRight l = false := fun hn => right_bad k hlt hn
          have HN := Lib.hid hno
          clear hno
          cases k with
          | zero =>
            simp only [Nat.zero_mul, Nat.add_zero] at c0 c1
            by_cases hbad : x.seq < 0 ∨ 1073741824 < x.seq ∨ x.at_ < 0 ∨ 1099511627776 < x.at_
            · have HF := Lib.hid (HN.out (by rintro ⟨_, g1, g2, g3, g4, g5⟩; rw [← HX.out] at *; omega))
              rcases (show (x.seq < 0) ∨ (¬ x.seq < 0 ∧ 1073741824 < x.seq) ∨ (¬ x.seq < 0 ∧ ¬ 1073741824 < x.seq ∧ x.at_ < 0) ∨ (¬ x.seq < 0 ∧ ¬ 1073741824 < x.seq ∧ ¬ x.at_ < 0 ∧ 1099511627776 < x.at_) by omega) with e1 | ⟨e1, e2⟩ | ⟨e1, e2, e3⟩ | ⟨e1, e2, e3, e4⟩
              all_goals clear hbad
              all_goals try (first | have d2 := dec_f e1 | have d2 := dec_t e1)
              all_goals try (first | have d3 := dec_f e2 | have d3 := dec_t e2)
              all_goals try (first | have d4 := dec_f e3 | have d4 := dec_t e3)
              all_goals try (first | have d5 := dec_f e4 | have d5 := dec_t e4)
              all_goals
                go_wp2_with fail
                refine wp_region_quiet_below (by kernel_rfl) (by kernel_rfl) ?_
                (try simp only [List.append_eq, List.cons_append, List.nil_append])
                repeat (first | go_big_quiet_skip | (go_big_quiet_want; go_big_quiet_op; first | go_big_quiet_on | (apply Exists.intro; refine ⟨fun _ => ?_, ?_⟩; (focus ((first | fail))); go_big_quiet_on)))
                refine wpQuiet_nil ?_
                intro _ hw'
                obtain ⟨⟨dq, osq⟩, hw''⟩ := hw'
                subst hw''
                have HB2 := Lib.hid (chain HW.out (below_regrown wr dq osq))
                go_wp2_with fail
                go_ret
                exact ⟨ret_bool HF.out.symm, HB2.out⟩
            · have HT := Lib.hid (show ∀ j, j < 0 + 1 → okAt l j from fun j hj => by
                obtain rfl : j = 0 := by omega
                exact ⟨hlt, by rw [← HX.out]; omega⟩)
              obtain ⟨e1, e2, e3, e4⟩ : ¬ x.seq < 0 ∧ ¬ 1073741824 < x.seq ∧ ¬ x.at_ < 0 ∧ ¬ 1099511627776 < x.at_ := by omega
              clear hbad
              have d2 := dec_f e1
              have d3 := dec_f e2
              have d4 := dec_f e3
              have d5 := dec_f e4
              go_wp2_with fail
              refine wp_region_quiet_below (by kernel_rfl) (by kernel_rfl) ?_
              (try simp only [List.append_eq, List.cons_append, List.nil_append])
              repeat (first | go_big_quiet_skip | (go_big_quiet_want; go_big_quiet_op; first | go_big_quiet_on | (apply Exists.intro; refine ⟨fun _ => ?_, ?_⟩; (focus ((first | fail))); go_big_quiet_on)))
              refine wpQuiet_nil ?_
              intro _ hw'
              obtain ⟨⟨dq, osq⟩, hw''⟩ := hw'
              subst hw''
              have HB2 := Lib.hid (chain HW.out (below_regrown wr dq osq))
              go_wp2_with fail
              go_roundw
              case rel => exact ⟨1, by omega, by go_num, HT.out, HB2.out⟩
              case measure => simp [intOf]; omega
          | succ m =>
            obtain ⟨y, hy⟩ : ∃ y, y = l[m] := ⟨_, rfl⟩
            have c2 : ∀ d os, (Go.Sort.grow (redrawn wr d) os).cell? ⟨b, o + m * 2, none⟩ = some (.int .i64 y.seq) := fun d os => by rw [hy]; exact (HE.out _ (chain HW.out (below_regrown wr d os)) m (by omega)).1
            have c3 : ∀ d os, (Go.Sort.grow (redrawn wr d) os).cell? ⟨b, o + m * 2 + 1, none⟩ = some (.int .i64 y.at_) := fun d os => by rw [hy]; exact (HE.out _ (chain HW.out (below_regrown wr d os)) m (by omega)).2
            have HY := Lib.hid hy
            clear hy
            have t5 : (m : Int) + 1 < (l.length : Int) := by omega
            have t6 : (m : Int) < (l.length : Int) := by omega
            have t7 : (0 : Int) < (m : Int) + 1 := by omega
            by_cases hbad : x.seq < 0 ∨ 1073741824 < x.seq ∨ x.at_ < 0 ∨ 1099511627776 < x.at_ ∨ x.seq ≤ y.seq ∨ x.at_ < y.at_
            · have HF := Lib.hid (HN.out (by
                rintro ⟨_, g1, g2, g3, g4, g5⟩
                have g6 := g5 (by omega)
                simp only [Nat.add_sub_cancel] at g6
                rw [← HX.out, ← HY.out] at g6
                rw [← HX.out] at g1 g2 g3 g4
                omega))
              rcases (show (x.seq < 0) ∨ (¬ x.seq < 0 ∧ 1073741824 < x.seq) ∨ (¬ x.seq < 0 ∧ ¬ 1073741824 < x.seq ∧ x.at_ < 0) ∨ (¬ x.seq < 0 ∧ ¬ 1073741824 < x.seq ∧ ¬ x.at_ < 0 ∧ 1099511627776 < x.at_) ∨
                (¬ x.seq < 0 ∧ ¬ 1073741824 < x.seq ∧ ¬ x.at_ < 0 ∧ ¬ 1099511627776 < x.at_ ∧ x.seq ≤ y.seq) ∨ (¬ x.seq < 0 ∧ ¬ 1073741824 < x.seq ∧ ¬ x.at_ < 0 ∧ ¬ 1099511627776 < x.at_ ∧ ¬ x.seq ≤ y.seq ∧ x.at_ < y.at_) by omega) with e1 | ⟨e1, e2⟩ | ⟨e1, e2, e3⟩ | ⟨e1, e2, e3, e4⟩ | ⟨e1, e2, e3, e4, e5⟩ | ⟨e1, e2, e3, e4, e5, e6⟩
              all_goals clear hbad
              all_goals try (first | have d2 := dec_f e1 | have d2 := dec_t e1)
              all_goals try (first | have d3 := dec_f e2 | have d3 := dec_t e2)
              all_goals try (first | have d4 := dec_f e3 | have d4 := dec_t e3)
              all_goals try (first | have d5 := dec_f e4 | have d5 := dec_t e4)
              all_goals try (first | have d6 := dec_f e5 | have d6 := dec_t e5)
              all_goals try (first | have d7 := dec_f e6 | have d7 := dec_t e6)
              all_goals
                go_wp2_with fail
                refine wp_region_quiet_below (by kernel_rfl) (by kernel_rfl) ?_
                (try simp only [List.append_eq, List.cons_append, List.nil_append])
                repeat (first | go_big_quiet_skip | (go_big_quiet_want; go_big_quiet_op; first | go_big_quiet_on | (apply Exists.intro; refine ⟨fun _ => ?_, ?_⟩; (focus ((first | fail))); go_big_quiet_on)))
                refine wpQuiet_nil ?_
                intro _ hw'
                obtain ⟨⟨dq, osq⟩, hw''⟩ := hw'
                subst hw''
                have HB2 := Lib.hid (chain HW.out (below_regrown wr dq osq))
                go_wp2_with fail
                go_ret
                exact ⟨ret_bool HF.out.symm, HB2.out⟩
            · have HT := Lib.hid (show ∀ j, j < m + 1 + 1 → okAt l j from fun j hj => by
                by_cases e : j < m + 1
                · exact HA.out j e
                · obtain rfl : j = m + 1 := by omega
                  exact ⟨hlt, by simp only [Nat.add_sub_cancel]; rw [← HX.out, ← HY.out]; omega⟩)
              obtain ⟨e1, e2, e3, e4, e5, e6⟩ : ¬ x.seq < 0 ∧ ¬ 1073741824 < x.seq ∧ ¬ x.at_ < 0 ∧ ¬ 1099511627776 < x.at_ ∧ ¬ x.seq ≤ y.seq ∧ ¬ x.at_ < y.at_ := by omega
              clear hbad
              have d2 := dec_f e1
              have d3 := dec_f e2
              have d4 := dec_f e3
              have d5 := dec_f e4
              have d6 := dec_f e5
              have d7 := dec_f e6
              go_wp2_with fail
              refine wp_region_quiet_below (by kernel_rfl) (by kernel_rfl) ?_
              (try simp only [List.append_eq, List.cons_append, List.nil_append])
              repeat (first | go_big_quiet_skip | (go_big_quiet_want; go_big_quiet_op; first | go_big_quiet_on | (apply Exists.intro; refine ⟨fun _ => ?_, ?_⟩; (focus ((first | fail))); go_big_quiet_on)))
              refine wpQuiet_nil ?_
              intro _ hw'
              obtain ⟨⟨dq, osq⟩, hw''⟩ := hw'
              subst hw''
              have HB2 := Lib.hid (chain HW.out (below_regrown wr dq osq))
              go_wp2_with fail
              go_roundw
              case rel => exact ⟨m + 1 + 1, by omega, by go_num, HT.out, HB2.out⟩
              case measure => simp [intOf]; omega
        · have hke : k = l.length := by omega
          subst hke
          have HF := Lib.hid (show btRight l = true from (right_iff2 l).2 ⟨hpos, by omega, HA.out⟩)
          have t1 : decide ((l.length : Int) < (l.length : Int)) = false := by simp
          go_wp2_with fail
          go_ret
          exact ⟨ret_bool HF.out.symm, HW.out⟩


theorem neq_bt (x y : Bt) (w : World) :
    (binOp .neq 57 (.agg #[.int .i64 x.seq, .int .i64 x.at_]) (.agg #[.int .i64 y.seq, .int .i64 y.at_])).run Try.prog w = .ok (.bool (!(decide (x = y)))) w := by
  go_simp
  have e : (x = y) ↔ x.seq = y.seq ∧ x.at_ = y.at_ := by cases x; cases y; simp
  simp only [e]
  (repeat' split) <;> simp_all

set_option maxHeartbeats 1000000 in
theorem drsame_any (v v' : Value) (l m : List Bt) (w : World) (h : Bts w v l) (h' : Bts w v' m) :
    Calls Try.prog 43 #[v, v'] w fun e w' => e = .returned (.bool (decide (l = m))) ∧ Below w.heap.size w w' := by
  have HS := Lib.hid h
  have HS' := Lib.hid h'
  obtain ⟨hm, hl, p, cap, rfl, hcap, hc⟩ := h
  obtain ⟨hm', hl', p', cap', rfl, hcap', hc'⟩ := h'
  clear hc hl hc' hl'
  by_cases hlen : l.length = m.length
  · have HL := Lib.hid hlen
    obtain ⟨n, hn⟩ : ∃ n, n = l.length := ⟨_, rfl⟩
    have hn' : n = m.length := by omega
    rw [← hn] at hm hcap
    rw [← hn'] at hm' hcap'
    have HN := Lib.hid hn
    have HN' := Lib.hid hn'
    rw [← hn, ← hn']
    clear hlen hn hn' hm'
    go_enter Try.func43, Try.ntmps43
    go_wp2_with fail
    go_loopw [5] (fun i wr => ∃ k : Nat, k ≤ n ∧ i = .int .i64 k ∧ l.take k = m.take k ∧ Below w.heap.size w wr) (fun i _ => n - (intOf i).toNat)
    case atStart => exact ⟨0, by omega, rfl, by simp, Below.refl _ _⟩
    case round =>
      obtain ⟨k, hk, rfl, hall, hwb⟩ := hrel
      have HA := Lib.hid hall
      have HW := Lib.hid hwb
      clear hall hwb
      by_cases hlt : k < n
      · have hltl : k < l.length := by rw [← HN.out]; exact hlt
        have hltm : k < m.length := by rw [← HN'.out]; exact hlt
        obtain ⟨b, o, rfl, _⟩ := HS.out.open (by omega)
        obtain ⟨b', o', rfl, _⟩ := HS'.out.open (by omega)
        obtain ⟨x, hx⟩ : ∃ x, x = l[k] := ⟨_, rfl⟩
        obtain ⟨y, hy⟩ : ∃ y, y = m[k] := ⟨_, rfl⟩
        have c0 : wr.cell? ⟨b, o + k * 2, none⟩ = some (.int .i64 x.seq) := by rw [hx]; exact Sl.elem bt_two (HS.out.keep (by decide) HW.out) k 0 hltl (by decide) _ rfl
        have c1 : wr.cell? ⟨b, o + k * 2 + 1, none⟩ = some (.int .i64 x.at_) := by rw [hx]; exact Sl.elem bt_two (HS.out.keep (by decide) HW.out) k 1 hltl (by decide) _ rfl
        have c2 : wr.cell? ⟨b', o' + k * 2, none⟩ = some (.int .i64 y.seq) := by rw [hy]; exact Sl.elem bt_two (HS'.out.keep (by decide) HW.out) k 0 hltm (by decide) _ rfl
        have c3 : wr.cell? ⟨b', o' + k * 2 + 1, none⟩ = some (.int .i64 y.at_) := by rw [hy]; exact Sl.elem bt_two (HS'.out.keep (by decide) HW.out) k 1 hltm (by decide) _ rfl
        have HX := Lib.hid hx
        have HY := Lib.hid hy
        have t1 : (k : Int) < (n : Int) := by omega
        have t2 : (0 : Int) ≤ (k : Int) := by omega
        clear hx hy
        by_cases hxy : x = y
        · have hne := fun w => neq_bt x y w
          simp only [hxy, decide_true, Bool.not_true] at hne
          have HT := Lib.hid (show l.take (k + 1) = m.take (k + 1) by
            rw [List.take_add_one, List.take_add_one, HA.out, List.getElem?_eq_getElem hltl, List.getElem?_eq_getElem hltm, ← HX.out, ← HY.out, hxy])
          subst hxy
          go_wp2_with fail
          go_quiet (fail)
          go_wp2_with fail
          go_roundw
          case rel => exact ⟨k + 1, by omega, by go_num, HT.out, bel_drewN HW.out _⟩
          case measure => simp [intOf]; omega
        · have hne := fun w => neq_bt x y w
          simp only [hxy, decide_false, Bool.not_false] at hne
          have HF := Lib.hid (show decide (l = m) = false by
            simp only [decide_eq_false_iff_not]
            rintro rfl
            exact hxy (by rw [HX.out, HY.out]))
          clear hxy
          go_wp2_with fail
          go_quiet (fail)
          go_wp2_with fail
          go_ret
          exact ⟨ret_bool HF.out.symm, bel_drewN HW.out _⟩
      · have hke : k = n := by omega
        subst hke
        have HF := Lib.hid (show decide (l = m) = true by
          have := HA.out
          rw [List.take_of_length_le (by rw [← HN.out]; exact Nat.le_refl _), List.take_of_length_le (by rw [← HN'.out]; exact Nat.le_refl _)] at this
          simpa using this)
        have t1 : decide ((k : Int) < (k : Int)) = false := by simp
        go_wp2_with fail
        go_ret
        exact ⟨ret_bool HF.out.symm, HW.out⟩
  · have HF := Lib.hid (show decide (l = m) = false by
      simp only [decide_eq_false_iff_not]
      rintro rfl
      exact hlen rfl)
    have t1 : ((l.length : Int) != (m.length : Int)) = true := by simp; omega
    go_enter Try.func43, Try.ntmps43
    go_wp2_with fail
    go_ret
    exact ⟨ret_bool HF.out.symm, Below.refl _ _⟩


end Go.Proofs.Ytlmkkfigmoefdaa.K

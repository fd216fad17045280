/-
  CONTRACTS of the document's own answers for package detect.
-/
import Derived.Test.YtdflajgglgbphaaDet
set_option linter.unusedVariables false
set_option linter.unusedSimpArgs false
namespace Nj
/-- a beat that may stand behind 'a' (or first) -/
theorem right_step (l : List Bt) (k : Nat) (hk : k < l.length) : (btMay l[k] && (decide (k = 0) || btBehind l[k] (l[k-1]'(by omega)))) = true ↔
    (¬ l[k].seq < 0 ∧ ¬ 1073741824 < l[k].seq ∧ ¬ l[k].at_ < 0 ∧ ¬ 1099511627776 < l[k].at_ ∧ (0 < k → ¬ l[k].seq ≤ (l[k-1]'(by omega)).seq ∧ ¬ l[k].at_ < (l[k-1]'(by omega)).at_)) := by
  simp only [btMay, btBehind, Bool.and_eq_true, Bool.or_eq_true, decide_eq_true_eq]
  omega
def okAt (l : List Bt) (k : Nat) : Prop := ∃ hk : k < l.length, ¬ l[k].seq < 0 ∧ ¬ 1073741824 < l[k].seq ∧ ¬ l[k].at_ < 0 ∧ ¬ 1099511627776 < l[k].at_ ∧ (0 < k → ¬ l[k].seq ≤ (l[k-1]'(by omega)).seq ∧ ¬ l[k].at_ < (l[k-1]'(by omega)).at_)
theorem right_iff2 (l : List Bt) : btRight l = true ↔ 0 < l.length ∧ l.length ≤ 8 ∧ ∀ k, k < l.length → okAt l k := by
  rw [btRight_iff]
  constructor
  · rintro ⟨h0, h8, hm, hb⟩
    refine ⟨h0, h8, fun k hk => ⟨hk, (right_step l k hk).1 ?_⟩⟩
    cases k with
    | zero => simp [hm]
    | succ k =>
      have := hb k hk
      simp only [Nat.add_sub_cancel, this]
      unfold btBehind at this
      simp only [Bool.and_eq_true] at this
      simp [this.1]
  · rintro ⟨h0, h8, h⟩
    have hs := fun k hk => (right_step l k hk).2 (h k hk).2
    refine ⟨h0, h8, ?_, fun k hk => ?_⟩
    · have := hs 0 h0
      simp only [Bool.and_eq_true] at this
      exact this.1
    · have := hs (k + 1) hk
      simpa using (Bool.and_eq_true_iff.1 this).2
end Nj
namespace Nj
theorem dec_t {p : Prop} [Decidable p] (h : p) : decide p = true := by simpa using h
theorem dec_f {p : Prop} [Decidable p] (h : ¬ p) : decide p = false := by simpa using h
theorem right_bad {l : List Bt} (k : Nat) (hk : k < l.length) (h : ¬ okAt l k) : btRight l = false := by
  cases e : btRight l
  · rfl
  · exact absurd (((right_iff2 l).1 e).2.2 k hk) h
end Nj
namespace Go.Proofs.Ytdflajgglgbphaa.K
open Go Go.RowKit Nj

set_option maxHeartbeats 2000000 in
theorem rright_any (v : Value) (l : List Bt) (w : World) (h : Bts w v l) :
    Calls Try.prog 11 #[v] w fun e w' => e = .returned (.bool (btRight l)) ∧ Below w.heap.size w w' := by
  have HS := Lib.hid h
  obtain ⟨hm, hl, p, cap, rfl, hcap, hc⟩ := h
  clear hc hl
  by_cases h0 : l.length = 0
  · have HF := Lib.hid (right_false_of (l := l) (by rintro ⟨h, _⟩; omega))
    have d0 : decide ((l.length : Int) < 1) = true := by simp; omega
    clear h0
    go_enter Try.func11, Try.ntmps11
    go_wp2_with fail
    go_ret
    exact ⟨ret_bool HF.out.symm, Below.refl _ _⟩
  · by_cases h8 : 8 < l.length
    · have HF := Lib.hid (right_false_of (l := l) (by rintro ⟨_, h, _⟩; omega))
      have d0 : decide ((l.length : Int) < 1) = false := by simp; omega
      have d1 : decide ((8 : Int) < (l.length : Int)) = true := by simp; omega
      clear h0 h8
      go_enter Try.func11, Try.ntmps11
      go_wp2_with fail
      go_ret
      exact ⟨ret_bool HF.out.symm, Below.refl _ _⟩
    · have hpos : 0 < l.length := by omega
      have d0 : decide ((l.length : Int) < 1) = false := by simp; omega
      have d1 : decide ((8 : Int) < (l.length : Int)) = false := by simp; omega
      obtain ⟨b, o, rfl, _⟩ := HS.out.open hpos
      have HE := Lib.hid (fun (w' : World) (hb : Below w.heap.size w w') i (hi : i < l.length) => (show w'.cell? ⟨b, o + (i * 2 + 0), none⟩ = some (.int .i64 l[i].seq) ∧ w'.cell? ⟨b, o + (i * 2 + 1), none⟩ = some (.int .i64 l[i].at_) from
        ⟨Sl.elem bt_two (HS.out.keep (by decide) hb) i 0 hi (by decide) _ rfl, Sl.elem bt_two (HS.out.keep (by decide) hb) i 1 hi (by decide) _ rfl⟩))
      go_enter Try.func11, Try.ntmps11
      go_wp2_with fail
      go_loopw [3] (fun i wr => ∃ k : Nat, k ≤ l.length ∧ i = .int .i64 k ∧ (∀ j, j < k → okAt l j) ∧ Below w.heap.size w wr) (fun i _ => l.length - (intOf i).toNat)
      case atStart => exact ⟨0, by omega, rfl, fun j hj => by omega, Below.refl _ _⟩
      case round =>
        obtain ⟨k, hk, rfl, hall, hwb⟩ := hrel
        have HA := Lib.hid hall
        have HW := Lib.hid hwb
        clear hall hwb
        by_cases hlt : k < l.length
        · obtain ⟨x, hx⟩ : ∃ x, x = l[k] := ⟨_, rfl⟩
          have t2 : (k : Int) < (l.length : Int) := by omega
          have t4 : (0 : Int) ≤ (k : Int) := by omega
          have c0 : ∀ d os, (Go.Sort.grow (redrawn wr d) os).cell? ⟨b, o + k * 2, none⟩ = some (.int .i64 x.seq) := fun d os => by rw [hx]; exact (HE.out _ (chain HW.out (below_regrown wr d os)) k (by omega)).1
          have c1 : ∀ d os, (Go.Sort.grow (redrawn wr d) os).cell? ⟨b, o + k * 2 + 1, none⟩ = some (.int .i64 x.at_) := fun d os => by rw [hx]; exact (HE.out _ (chain HW.out (below_regrown wr d os)) k (by omega)).2
          have HX := Lib.hid hx
          clear hx
          have hno : ∀ hn : ¬ okAt l k, btRight l = false := fun hn => right_bad k hlt hn
          have HN := Lib.hid hno
          clear hno
          cases k with
          | zero =>
            simp only [Nat.zero_mul, Nat.add_zero] at c0 c1
            by_cases hbad : x.seq < 0 ∨ 1073741824 < x.seq ∨ x.at_ < 0 ∨ 1099511627776 < x.at_
            · have HF := Lib.hid (HN.out (by rintro ⟨_, g1, g2, g3, g4, g5⟩; rw [← HX.out] at *; omega))
              rcases (show (x.seq < 0) ∨ (¬ x.seq < 0 ∧ 1073741824 < x.seq) ∨ (¬ x.seq < 0 ∧ ¬ 1073741824 < x.seq ∧ x.at_ < 0) ∨ (¬ x.seq < 0 ∧ ¬ 1073741824 < x.seq ∧ ¬ x.at_ < 0 ∧ 1099511627776 < x.at_) by omega) with e1 | ⟨e1, e2⟩ | ⟨e1, e2, e3⟩ | ⟨e1, e2, e3, e4⟩
              all_goals clear hbad
              all_goals try (first | have d2 := dec_f e1 | have d2 := dec_t e1)
              all_goals try (first | have d3 := dec_f e2 | have d3 := dec_t e2)
              all_goals try (first | have d4 := dec_f e3 | have d4 := dec_t e3)
              all_goals try (first | have d5 := dec_f e4 | have d5 := dec_t e4)
              all_goals
                go_wp2_with fail
                refine wp_region_quiet_below (by kernel_rfl) (by kernel_rfl) ?_
                repeat (first | go_big_quiet_skip | (go_big_quiet_want; go_big_quiet_op; first | go_big_quiet_on | (apply Exists.intro; refine ⟨fun _ => ?_, ?_⟩; (focus ((first | fail))); go_big_quiet_on)))
                refine wpQuiet_nil ?_
                intro _ hw'
                obtain ⟨⟨dq, osq⟩, hw''⟩ := hw'
                subst hw''
                have HB2 := Lib.hid (chain HW.out (below_regrown wr dq osq))
                go_wp2_with fail
                go_ret
                exact ⟨ret_bool HF.out.symm, HB2.out⟩
            · have HT := Lib.hid (show ∀ j, j < 0 + 1 → okAt l j from fun j hj => by
                obtain rfl : j = 0 := by omega
                exact ⟨hlt, by rw [← HX.out]; omega⟩)
              obtain ⟨e1, e2, e3, e4⟩ : ¬ x.seq < 0 ∧ ¬ 1073741824 < x.seq ∧ ¬ x.at_ < 0 ∧ ¬ 1099511627776 < x.at_ := by omega
              clear hbad
              have d2 := dec_f e1
              have d3 := dec_f e2
              have d4 := dec_f e3
              have d5 := dec_f e4
              go_wp2_with fail
              refine wp_region_quiet_below (by kernel_rfl) (by kernel_rfl) ?_
              repeat (first | go_big_quiet_skip | (go_big_quiet_want; go_big_quiet_op; first | go_big_quiet_on | (apply Exists.intro; refine ⟨fun _ => ?_, ?_⟩; (focus ((first | fail))); go_big_quiet_on)))
              refine wpQuiet_nil ?_
              intro _ hw'
              obtain ⟨⟨dq, osq⟩, hw''⟩ := hw'
              subst hw''
              have HB2 := Lib.hid (chain HW.out (below_regrown wr dq osq))
              go_wp2_with fail
              go_roundw
              case rel => exact ⟨1, by omega, by go_num, HT.out, HB2.out⟩
              case measure => simp [intOf]; omega
          | succ m =>
            obtain ⟨y, hy⟩ : ∃ y, y = l[m] := ⟨_, rfl⟩
            have c2 : ∀ d os, (Go.Sort.grow (redrawn wr d) os).cell? ⟨b, o + m * 2, none⟩ = some (.int .i64 y.seq) := fun d os => by rw [hy]; exact (HE.out _ (chain HW.out (below_regrown wr d os)) m (by omega)).1
            have c3 : ∀ d os, (Go.Sort.grow (redrawn wr d) os).cell? ⟨b, o + m * 2 + 1, none⟩ = some (.int .i64 y.at_) := fun d os => by rw [hy]; exact (HE.out _ (chain HW.out (below_regrown wr d os)) m (by omega)).2
            have HY := Lib.hid hy
            clear hy
            have t5 : (m : Int) + 1 < (l.length : Int) := by omega
            have t6 : (m : Int) < (l.length : Int) := by omega
            have t7 : (0 : Int) < (m : Int) + 1 := by omega
            by_cases hbad : x.seq < 0 ∨ 1073741824 < x.seq ∨ x.at_ < 0 ∨ 1099511627776 < x.at_ ∨ x.seq ≤ y.seq ∨ x.at_ < y.at_
            · have HF := Lib.hid (HN.out (by
                rintro ⟨_, g1, g2, g3, g4, g5⟩
                have g6 := g5 (by omega)
                simp only [Nat.add_sub_cancel] at g6
                rw [← HX.out, ← HY.out] at g6
                rw [← HX.out] at g1 g2 g3 g4
                omega))
              rcases (show (x.seq < 0) ∨ (¬ x.seq < 0 ∧ 1073741824 < x.seq) ∨ (¬ x.seq < 0 ∧ ¬ 1073741824 < x.seq ∧ x.at_ < 0) ∨ (¬ x.seq < 0 ∧ ¬ 1073741824 < x.seq ∧ ¬ x.at_ < 0 ∧ 1099511627776 < x.at_) ∨
                (¬ x.seq < 0 ∧ ¬ 1073741824 < x.seq ∧ ¬ x.at_ < 0 ∧ ¬ 1099511627776 < x.at_ ∧ x.seq ≤ y.seq) ∨ (¬ x.seq < 0 ∧ ¬ 1073741824 < x.seq ∧ ¬ x.at_ < 0 ∧ ¬ 1099511627776 < x.at_ ∧ ¬ x.seq ≤ y.seq ∧ x.at_ < y.at_) by omega) with e1 | ⟨e1, e2⟩ | ⟨e1, e2, e3⟩ | ⟨e1, e2, e3, e4⟩ | ⟨e1, e2, e3, e4, e5⟩ | ⟨e1, e2, e3, e4, e5, e6⟩
              all_goals clear hbad
              all_goals try (first | have d2 := dec_f e1 | have d2 := dec_t e1)
              all_goals try (first | have d3 := dec_f e2 | have d3 := dec_t e2)
              all_goals try (first | have d4 := dec_f e3 | have d4 := dec_t e3)
              all_goals try (first | have d5 := dec_f e4 | have d5 := dec_t e4)
              all_goals try (first | have d6 := dec_f e5 | have d6 := dec_t e5)
              all_goals try (first | have d7 := dec_f e6 | have d7 := dec_t e6)
              all_goals
                go_wp2_with fail
                refine wp_region_quiet_below (by kernel_rfl) (by kernel_rfl) ?_
                repeat (first | go_big_quiet_skip | (go_big_quiet_want; go_big_quiet_op; first | go_big_quiet_on | (apply Exists.intro; refine ⟨fun _ => ?_, ?_⟩; (focus ((first | fail))); go_big_quiet_on)))
                refine wpQuiet_nil ?_
                intro _ hw'
                obtain ⟨⟨dq, osq⟩, hw''⟩ := hw'
                subst hw''
                have HB2 := Lib.hid (chain HW.out (below_regrown wr dq osq))
                go_wp2_with fail
                go_ret
                exact ⟨ret_bool HF.out.symm, HB2.out⟩
            · have HT := Lib.hid (show ∀ j, j < m + 1 + 1 → okAt l j from fun j hj => by
                by_cases e : j < m + 1
                · exact HA.out j e
                · obtain rfl : j = m + 1 := by omega
                  exact ⟨hlt, by simp only [Nat.add_sub_cancel]; rw [← HX.out, ← HY.out]; omega⟩)
              obtain ⟨e1, e2, e3, e4, e5, e6⟩ : ¬ x.seq < 0 ∧ ¬ 1073741824 < x.seq ∧ ¬ x.at_ < 0 ∧ ¬ 1099511627776 < x.at_ ∧ ¬ x.seq ≤ y.seq ∧ ¬ x.at_ < y.at_ := by omega
              clear hbad
              have d2 := dec_f e1
              have d3 := dec_f e2
              have d4 := dec_f e3
              have d5 := dec_f e4
              have d6 := dec_f e5
              have d7 := dec_f e6
              go_wp2_with fail
              refine wp_region_quiet_below (by kernel_rfl) (by kernel_rfl) ?_
              repeat (first | go_big_quiet_skip | (go_big_quiet_want; go_big_quiet_op; first | go_big_quiet_on | (apply Exists.intro; refine ⟨fun _ => ?_, ?_⟩; (focus ((first | fail))); go_big_quiet_on)))
              refine wpQuiet_nil ?_
              intro _ hw'
              obtain ⟨⟨dq, osq⟩, hw''⟩ := hw'
              subst hw''
              have HB2 := Lib.hid (chain HW.out (below_regrown wr dq osq))
              go_wp2_with fail
              go_roundw
              case rel => exact ⟨m + 1 + 1, by omega, by go_num, HT.out, HB2.out⟩
              case measure => simp [intOf]; omega
        · have hke : k = l.length := by omega
          subst hke
          have HF := Lib.hid (show btRight l = true from (right_iff2 l).2 ⟨hpos, by omega, HA.out⟩)
          have t1 : decide ((l.length : Int) < (l.length : Int)) = false := by simp
          go_wp2_with fail
          go_ret
          exact ⟨ret_bool HF.out.symm, HW.out⟩
end Go.Proofs.Ytdflajgglgbphaa.K

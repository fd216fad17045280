/-
  CONTRACTS of the functions of package detect.
-/
import Derived.Test.YtdflajgglgbphaaSat
import Derived.Test.YtdflajgglgbphaaSl
import Derived.Test.YtdflajgglgbphaaDetFns
import Derived.Deep.RegionHeld3
import Derived.Deep.RegionWith
set_option linter.unusedVariables false
set_option linter.unusedSimpArgs false
namespace Nj
open Go Go.RowKit
def Bt.cells (b : Bt) : List Value := [.int .i64 b.seq, .int .i64 b.at_]
theorem bt_two (b : Bt) : b.cells.length = 2 := rfl
/-- v is a slice of these heartbeats -/
def Bts (w : World) (v : Value) (l : List Bt) : Prop := Sl 2 w v l.length (flat Bt.cells l)
end Nj
namespace Go.Proofs.Ytdflajgglgbphaa.K
open Go Go.RowKit Nj

theorem may_any (s a : Int) (w : World) :
    Calls Try.prog 19 #[.agg #[.int .i64 s, .int .i64 a]] w fun e w' => e = .returned (.bool (btMay ⟨s, a⟩)) ∧ Below w.heap.size w w' := by
  go_enter Try.func19, Try.ntmps19
  go_wp2
  all_goals go_ret
  all_goals exact ⟨ret_bool (by simp_all [btMay]; try omega), (Below.refl _ _).alloc (Nat.le_refl _) _⟩

theorem behind_any (s a s' a' : Int) (w : World) :
    Calls Try.prog 20 #[.agg #[.int .i64 s, .int .i64 a], .agg #[.int .i64 s', .int .i64 a']] w fun e w' => e = .returned (.bool (btBehind ⟨s, a⟩ ⟨s', a'⟩)) ∧ Below w.heap.size w w' := by
  go_enter Try.func20, Try.ntmps20
  go_wp2_with fail
  refine (may_any _ _ _).mono ?_; rintro e w1 ⟨rfl, hb⟩
  obtain ⟨hq1, hq2, _, hbw⟩ := blocks2 hb
  have HB := Lib.hid hbw
  have hc1 := cell_of_block hq1
  have hc2 := cell_of_block hq2
  clear hb hq1 hq2 hbw
  go_wp2_with fail
  all_goals go_ret
  all_goals exact ⟨ret_bool (by simp_all [btBehind]; try omega), HB.out⟩

theorem right_false_of {l : List Bt} (h : ¬ ∃ h : 0 < l.length, l.length ≤ 8 ∧ btMay l[0] = true ∧ ∀ k (h : k + 1 < l.length), btBehind l[k + 1] l[k] = true) : btRight l = false := by
  cases e : btRight l
  · rfl
  · exact absurd ((btRight_iff l).1 e) h

set_option maxHeartbeats 1000000 in
theorem dright_any (v : Value) (l : List Bt) (w : World) (h : Bts w v l) :
    Calls Try.prog 10 #[v] w fun e w' => e = .returned (.bool (btRight l)) ∧ Below w.heap.size w w' := by
  have HS := Lib.hid h
  obtain ⟨hm, hl, p, cap, rfl, hcap, hc⟩ := h
  clear hc hl
  by_cases h0 : l.length = 0
  · have HF := Lib.hid (right_false_of (l := l) (by rintro ⟨h, _⟩; omega))
    have d0 : ((l.length : Int) == 0) = true := by simp [h0]
    clear h0
    go_enter Try.func10, Try.ntmps10
    go_wp2_with fail
    go_ret
    exact ⟨ret_bool HF.out.symm, Below.refl _ _⟩
  · by_cases h8 : 8 < l.length
    · have HF := Lib.hid (right_false_of (l := l) (by rintro ⟨_, h, _⟩; omega))
      have d0 : ((l.length : Int) == 0) = false := by rw [beq_eq_false_iff_ne]; omega
      have d1 : decide ((8 : Int) < (l.length : Int)) = true := by simp; omega
      clear h0 h8
      go_enter Try.func10, Try.ntmps10
      go_wp2_with fail
      go_ret
      exact ⟨ret_bool HF.out.symm, Below.refl _ _⟩
    · have hpos : 0 < l.length := by omega
      have d0 : ((l.length : Int) == 0) = false := by rw [beq_eq_false_iff_ne]; omega
      have d1 : decide ((8 : Int) < (l.length : Int)) = false := by simp; omega
      have d2 : (0 : Int) < (l.length : Int) := by omega
      obtain ⟨b, o, rfl, _⟩ := HS.out.open hpos
      have HE := Lib.hid (fun (w' : World) (hb : Below w.heap.size w w') i (hi : i < l.length) => (show w'.cell? ⟨b, o + (i * 2 + 0), none⟩ = some (.int .i64 l[i].seq) ∧ w'.cell? ⟨b, o + (i * 2 + 1), none⟩ = some (.int .i64 l[i].at_) from
        ⟨Sl.elem bt_two (HS.out.keep (by decide) hb) i 0 hi (by decide) _ rfl, Sl.elem bt_two (HS.out.keep (by decide) hb) i 1 hi (by decide) _ rfl⟩))
      have e0 := (HE.out w (Below.refl _ _) 0 hpos).1
      have e1 := (HE.out w (Below.refl _ _) 0 hpos).2
      simp only [Nat.zero_mul, Nat.add_zero, Nat.zero_add] at e0 e1
      go_enter Try.func10, Try.ntmps10
      go_wp2_with fail
      refine (may_any _ _ _).mono ?_; rintro e w1 ⟨rfl, hb⟩
      have HB := Lib.hid hb
      clear hb e0 e1
      cases hmay : btMay l[0]
      · have HF := Lib.hid (right_false_of (l := l) (by rintro ⟨_, _, h, _⟩; rw [hmay] at h; cases h))
        go_wp2_with fail
        go_ret
        exact ⟨ret_bool HF.out.symm, HB.out⟩
      · have HM := Lib.hid hmay
        clear hmay
        go_wp2_with fail
        go_loopw [22] (fun i wr => ∃ k : Nat, k + 1 ≤ l.length ∧ i = .int .i64 k ∧ (∀ j (hj : j + 1 < l.length), j < k → btBehind l[j + 1] l[j] = true) ∧ Below w.heap.size w wr) (fun i _ => l.length - (intOf i).toNat)
        case atStart => exact ⟨0, by omega, rfl, fun j _ hj => by omega, HB.out⟩
        case round =>
          obtain ⟨k, hk, rfl, hall, hwb⟩ := hrel
          have HA := Lib.hid hall
          have HW := Lib.hid hwb
          clear hall hwb
          by_cases hlt : k + 1 < l.length
          · have t1 : (k : Int) < (l.length : Int) - 1 := by omega
            have t2 : (k : Int) + 1 < (l.length : Int) := by omega
            have t3 : (k : Int) < (l.length : Int) := by omega
            have t4 : (0 : Int) ≤ (k : Int) := by omega
            obtain ⟨x, hx⟩ : ∃ x, x = l[k + 1] := ⟨_, rfl⟩
            obtain ⟨y, hy⟩ : ∃ y, y = l[k] := ⟨_, rfl⟩
            have c0 : ∀ d os, (Go.Sort.grow (redrawn wr d) os).cell? ⟨b, o + k * 2, none⟩ = some (.int .i64 y.seq) := fun d os => by rw [hy]; exact (HE.out _ (chain HW.out (below_regrown wr d os)) k (by omega)).1
            have c1 : ∀ d os, (Go.Sort.grow (redrawn wr d) os).cell? ⟨b, o + k * 2 + 1, none⟩ = some (.int .i64 y.at_) := fun d os => by rw [hy]; exact (HE.out _ (chain HW.out (below_regrown wr d os)) k (by omega)).2
            have c2 : ∀ d os, (Go.Sort.grow (redrawn wr d) os).cell? ⟨b, o + (k + 1) * 2, none⟩ = some (.int .i64 x.seq) := fun d os => by rw [hx]; exact (HE.out _ (chain HW.out (below_regrown wr d os)) (k + 1) hlt).1
            have c3 : ∀ d os, (Go.Sort.grow (redrawn wr d) os).cell? ⟨b, o + (k + 1) * 2 + 1, none⟩ = some (.int .i64 x.at_) := fun d os => by rw [hx]; exact (HE.out _ (chain HW.out (below_regrown wr d os)) (k + 1) hlt).2
            have HLT := Lib.hid hlt
            have HX := Lib.hid hx
            have HY := Lib.hid hy
            clear hx hy
            cases hbe : btBehind x y
            · have HF := Lib.hid (right_false_of (l := l) (by
                rintro ⟨_, _, _, h⟩
                have := h k hlt
                rw [← HX.out, ← HY.out, hbe] at this
                cases this))
              go_wp2_with fail
              refine wp_region_quiet_below (by kernel_rfl) (by kernel_rfl) ?_
              repeat (first | go_big_quiet_skip | (go_big_quiet_want; go_big_quiet_op; first | go_big_quiet_on | (apply Exists.intro; refine ⟨fun _ => ?_, ?_⟩; (focus ((first | (go_at_call 20; exact Calls.regrown_of (behind_any _ _ _ _ _))))); go_big_quiet_on)))
              refine wpQuiet_nil ?_
              intro _ hw'
              obtain ⟨⟨dq, osq⟩, hw''⟩ := hw'
              subst hw''
              have HB2 := Lib.hid (chain HW.out (below_regrown wr dq osq))
              go_wp2_with fail
              go_ret
              exact ⟨ret_bool HF.out.symm, HB2.out⟩
            · have HT := Lib.hid (show ∀ j (hj : j + 1 < l.length), j < k + 1 → btBehind l[j + 1] l[j] = true by
                intro j hj hjk
                by_cases e : j = k
                · subst e; rw [← HX.out, ← HY.out]; exact hbe
                · exact HA.out j hj (by omega))
              go_wp2_with fail
              refine wp_region_quiet_below (by kernel_rfl) (by kernel_rfl) ?_
              repeat (first | go_big_quiet_skip | (go_big_quiet_want; go_big_quiet_op; first | go_big_quiet_on | (apply Exists.intro; refine ⟨fun _ => ?_, ?_⟩; (focus ((first | (go_at_call 20; exact Calls.regrown_of (behind_any _ _ _ _ _))))); go_big_quiet_on)))
              refine wpQuiet_nil ?_
              intro _ hw'
              obtain ⟨⟨dq, osq⟩, hw''⟩ := hw'
              subst hw''
              have HB2 := Lib.hid (chain HW.out (below_regrown wr dq osq))
              go_wp2_with fail
              go_roundw
              case rel => exact ⟨k + 1, by omega, by go_num, HT.out, HB2.out⟩
              case measure => simp [intOf]; omega
          · have hke : l.length = k + 1 := by omega
            have HF := Lib.hid (show btRight l = true from (btRight_iff l).2 ⟨hpos, by omega, HM.out, fun j hj => HA.out j hj (by omega)⟩)
            have t1 : decide ((k : Int) < (l.length : Int) - 1) = false := by simp; omega
            clear hke hlt
            go_wp2_with fail
            all_goals go_ret
            all_goals exact ⟨ret_bool HF.out.symm, HW.out⟩

/-- a slice of heartbeats of the call's own comes back -/
def RetBts (w : World) (l : List Bt) (e : Ending) (w' : World) : Prop := ∃ v', e = .returned v' ∧ Own 30 2 w.heap.size w' v' l.length (flat Bt.cells l) ∧ Below w.heap.size w w'

theorem cells_one (l : List Bt) : ∀ u ∈ flat Bt.cells l, u.oneCell' = true := by
  intro u hu
  simp only [flat, List.mem_flatMap, Bt.cells, List.mem_cons, List.not_mem_nil, or_false] at hu
  obtain ⟨b, _, rfl | rfl⟩ := hu <;> rfl

theorem bclone_any (v : Value) (l : List Bt) (w : World) (h : Bts w v l) (hle : l.length ≤ 1048576) :
    Calls Try.prog 23 #[v] w (RetBts w l) := by
  have HS := Lib.hid h
  obtain ⟨hm, hl, p, cap, rfl, hcap, hc⟩ := h
  clear hc hl
  have heq := fun w => Lib.run_eql_slice_nil (P := Try.prog) w 22 30 p l.length cap 0 0 Try.underlying22
  cases p with
  | none =>
    have h0 : l = [] := by
      cases l with
      | nil => rfl
      | cons a l => obtain ⟨b, o, h, _⟩ := HS.out.open (by simp); cases h
    subst h0
    simp only [List.length_nil] at heq
    go_enter Try.func23, Try.ntmps23
    go_wp2_with fail
    go_ret
    exact ⟨_, rfl, own_nil _ _ _ _, Below.refl _ _⟩
  | some ad =>
    go_enter Try.func23, Try.ntmps23
    go_wp2_with (at_builtin; refine wpList_append_sl rfl (.tmp 5) (.tmp 6) 22 rfl w.heap.size 30 (.agg #[.int .i64 0, .int .i64 0]) 2 16 Try.underlying22 (by kernel_rfl) rfl (by decide) _ 0 [] rfl (own_empty _ _ _ _ _ rfl (Nat.le_refl _)) ad l.length cap rfl (flat Bt.cells l) (flat_length bt_two l) ?hc (cells_one l) (by omega) (by omega) (by simp) ?_)
    case hc =>
      intro j u hj
      have hlt : j < (flat Bt.cells l).length := by
        by_cases hh : j < (flat Bt.cells l).length
        · exact hh
        · rw [List.getElem?_eq_none (by omega)] at hj; cases hj
      have hlen : 0 < l.length := by have := flat_length bt_two l; omega
      obtain ⟨b, o, e, hd⟩ := HS.out.open hlen
      cases e
      have := hd j hlt
      rw [List.getElem?_eq_getElem hlt] at hj
      simp only [Option.some.injEq] at hj
      subst hj
      rw [← this]
      show (w.alloc _).cell? _ = _
      have ea : (Addr.add ⟨b, o, none⟩ j) = ⟨b, o + j, none⟩ := Addr.add_lit b o j
      rw [ea]
      exact World.cell?_alloc_lt w _ ⟨b, o + j, none⟩ (cell_lt (a := ⟨b, o + j, none⟩) this)
    intro v' w' hown hg
    have HO := Lib.hid hown
    have HG := Lib.hid (((Below.refl w.heap.size w).alloc (Nat.le_refl _) (.cells #[] 30)).grown hg (by simp) (fun k hk => by simp [Value.ownBlock] at hk; omega))
    clear hown hg
    go_wp2_with fail
    go_ret
    exact ⟨_, rfl, by simpa using HO.out, HG.out⟩

theorem bstart_any (now : Int) (w : World) :
    Calls Try.prog 13 #[.int .i64 now] w (RetBts w [⟨0, clamp now⟩]) := by
  go_enter Try.func13, Try.ntmps13
  go_wp2_with (first | (go_at_call 21; refine (clamp_any _ _).mono ?_; rintro e w' ⟨rfl, rfl⟩))
  go_ret
  exact ⟨_, rfl, own_lit _ _ _ _ _ _ _ rfl (Nat.le_refl _) (by decide) rfl _ rfl, (Below.refl _ _).alloc (Nat.le_refl _) _⟩

/-- what Beat hands back -/
def RetBeat (w : World) (l : List Bt) (ok : Bool) (e : Ending) (w' : World) : Prop := ∃ v', e = .returned (.tuple #[v', .bool ok]) ∧ Fresh 2 w.heap.size w' v' l.length (flat Bt.cells l) ∧ Below w.heap.size w w'

theorem flat_drop (k : Nat) (l : List Bt) : flat Bt.cells (l.drop k) = (flat Bt.cells l).drop (k * 2) := by
  induction k generalizing l with
  | zero => simp
  | succ k ih =>
    cases l with
    | nil => simp [flat]
    | cons a l => rw [List.drop_succ_cons, ih l, Nat.succ_mul]; simp [flat, Bt.cells]
theorem beat_fin {w w4 : World} {B : Nat} {l : List Bt} {seq now : Int} {p2 : Option Addr} {cap2 : Nat} (hF : btBeat l seq now = ((l ++ [Bt.mk seq now]).drop (l.length + 1 - 8), true)) (hO : Own 30 2 B w4 (.slice p2 (l.length + 1) cap2) (l.length + 1) (flat Bt.cells l ++ [.int .i64 seq, .int .i64 now])) (hle : w.heap.size ≤ B) (hB : Below w.heap.size w w4) (k : Nat) (hk : k = l.length + 1 - 8) :
    RetBeat w (btBeat l seq now).1 (btBeat l seq now).2 (.returned (.tuple #[.slice (p2.map (·.add (k * 2))) (l.length + 1 - k) (cap2 - k), .bool true])) w4 := by
  refine ⟨_, by rw [hF], ?_, hB⟩
  rw [hF]
  have hc := (hO.cut k (by omega)).mono hle
  have e : flat Bt.cells ((l ++ [Bt.mk seq now]).drop (l.length + 1 - 8)) = (flat Bt.cells l ++ [Value.int .i64 seq, Value.int .i64 now]).drop (k * 2) := by
    rw [flat_drop, flat_append, ← hk]; simp [flat, Bt.cells]
  simp only [e]
  have e2 : ((l ++ [Bt.mk seq now]).drop (l.length + 1 - 8)).length = l.length + 1 - k := by simp [← hk]
  rw [e2]
  exact hc
theorem beat_fin0 {w w4 : World} {B : Nat} {l : List Bt} {seq now : Int} {p2 : Option Addr} {cap2 : Nat} (hF : btBeat l seq now = ((l ++ [Bt.mk seq now]).drop (l.length + 1 - 8), true)) (hO : Own 30 2 B w4 (.slice p2 (l.length + 1) cap2) (l.length + 1) (flat Bt.cells l ++ [.int .i64 seq, .int .i64 now])) (hle : w.heap.size ≤ B) (hB : Below w.heap.size w w4) (hk : l.length + 1 - 8 = 0) :
    RetBeat w (btBeat l seq now).1 (btBeat l seq now).2 (.returned (.tuple #[.slice p2 (l.length + 1) cap2, .bool true])) w4 := by
  refine ⟨_, by rw [hF], ?_, hB⟩
  rw [hF]
  have hc := hO.fresh.mono hle
  rw [hk]
  simpa [flat_append, flat, Bt.cells] using hc

set_option maxHeartbeats 2000000 in
theorem bbeat_any (v : Value) (l : List Bt) (seq now : Int) (w : World) (h : Bts w v l) (hpos : 0 < l.length) (hle : l.length ≤ 1048575) :
    Calls Try.prog 15 #[v, .int .i64 seq, .int .i64 now] w (RetBeat w (btBeat l seq now).1 (btBeat l seq now).2) := by
  have HS := Lib.hid h
  obtain ⟨hm, hl, p, cap, rfl, hcap, hc⟩ := h
  clear hc hl
  obtain ⟨b, o, rfl, _⟩ := HS.out.open hpos
  obtain ⟨y, hy⟩ : ∃ y, y = btLast l := ⟨_, rfl⟩
  have HY := Lib.hid hy
  have hyl : y = l[l.length - 1] := by rw [hy]; exact last_get l hpos
  have HE := Lib.hid (fun (w' : World) (hb : Below w.heap.size w w') => (show w'.cell? ⟨b, o + (l.length - 1) * 2, none⟩ = some (.int .i64 y.seq) ∧ w'.cell? ⟨b, o + (l.length - 1) * 2 + 1, none⟩ = some (.int .i64 y.at_) from by
    rw [hyl]
    exact ⟨Sl.elem bt_two (HS.out.keep (by decide) hb) (l.length - 1) 0 (by omega) (by decide) _ rfl, Sl.elem bt_two (HS.out.keep (by decide) hb) (l.length - 1) 1 (by omega) (by decide) _ rfl⟩))
  clear hy hyl
  have t1 : (1 : Int) ≤ (l.length : Int) := by omega
  go_enter Try.func15, Try.ntmps15
  go_upto_region 2 with fail
  obtain ⟨wa, hwa⟩ : ∃ wa, wa = w.alloc (.cells #[.int .i64 seq, .int .i64 now] 30) := ⟨_, rfl⟩
  rw [← hwa]
  have HQ := Lib.hid (show wa.heap[w.heap.size]? = some (.cells #[.int .i64 seq, .int .i64 now] 30) by rw [hwa]; exact heap_new _ _ _ rfl)
  have HB := Lib.hid (show Below w.heap.size w wa by rw [hwa]; exact (Below.refl _ _).alloc (Nat.le_refl _) _)
  have hsz := Lib.hid (show wa.heap.size = w.heap.size + 1 by rw [hwa]; simp)
  clear hwa
  have c0 := fun d os => cell_of_block (keepb HQ.out (below_regrown wa d os))
  have c1 := fun d os => (HE.out _ (chain HB.out (below_regrown wa d os))).1
  have c2 := fun d os => (HE.out _ (chain HB.out (below_regrown wa d os))).2
  cases hbe : btBehind ⟨seq, now⟩ y
  · have HF := Lib.hid (show btBeat l seq now = (l, false) by unfold btBeat; rw [← HY.out, hbe]; rfl)
    refine wp_region_quiet_below (by kernel_rfl) (by kernel_rfl) ?_
    repeat (first | go_big_quiet_skip | (go_big_quiet_want; go_big_quiet_op; first | go_big_quiet_on | (apply Exists.intro; refine ⟨fun _ => ?_, ?_⟩; (focus ((first | (go_at_call 20; exact Calls.regrown_of (behind_any _ _ _ _ _))))); go_big_quiet_on)))
    refine wpQuiet_nil ?_
    intro _ hw'
    obtain ⟨⟨dq, osq⟩, hw''⟩ := hw'
    subst hw''
    have HB2 := Lib.hid (chain HB.out (below_regrown wa dq osq))
    clear c0 c1 c2
    go_wp2_with fail
    refine (bclone_any _ l _ (by exact HS.out.keep (by decide) HB2.out) (by omega)).mono ?_
    rintro e w3 ⟨v', rfl, hown, hb⟩
    have HO := Lib.hid hown
    have HB3 := Lib.hid (chain HB2.out hb)
    have hle2 := Lib.hid (show w.heap.size ≤ _ from HB2.out.size)
    clear hown hb
    go_wp2_with fail
    go_ret2
    refine ⟨v', by rw [HF.out]; rfl, ?_, HB3.out⟩
    rw [HF.out]
    exact ⟨HO.out.sl, fun b o m c e => ⟨Nat.le_trans hle2.out (HO.out.fresh.2 b o m c e).1, (HO.out.fresh.2 b o m c e).2⟩⟩
  · have t2 := t1
    have HF := Lib.hid (show btBeat l seq now = ((l ++ [Bt.mk seq now]).drop (l.length + 1 - 8), true) by unfold btBeat; rw [← HY.out, hbe]; rfl)
    refine wp_region_quiet_below (by kernel_rfl) (by kernel_rfl) ?_
    repeat (first | go_big_quiet_skip | (go_big_quiet_want; go_big_quiet_op; first | go_big_quiet_on | (apply Exists.intro; refine ⟨fun _ => ?_, ?_⟩; (focus ((first | (go_at_call 20; exact Calls.regrown_of (behind_any _ _ _ _ _))))); go_big_quiet_on)))
    refine wpQuiet_nil ?_
    intro _ hw'
    obtain ⟨⟨dq, osq⟩, hw''⟩ := hw'
    subst hw''
    go_upto_region 4 with fail
    generalize hw2 : Go.Sort.grow (redrawn wa dq) osq = w2
    have HB2 := Lib.hid (show Below w.heap.size w w2 by rw [← hw2]; exact chain HB.out (below_regrown wa dq osq))
    have HQ2 := Lib.hid (show w2.heap[w.heap.size]? = some (.cells #[.int .i64 seq, .int .i64 now] 30) by rw [← hw2]; exact keepb HQ.out (below_regrown wa dq osq))
    clear hw2 c0 c1 c2
    have c0 := cell_of_block HQ2.out
    have hcl := Lib.hid (fun W (hW : Below w.heap.size w W) => bclone_any _ l W (HS.out.keep (by decide) hW) (by omega))
    go_region_held3 (fun w' => w'.cell? ⟨w.heap.size, 0, none⟩ = some (.int .i64 seq) ∧ w'.cell? ⟨w.heap.size, 1, none⟩ = some (.int .i64 now))
      (go_keep)
      ((first
        | (go_at_call 23; refine (hcl.out w2.drew HB2.out.drew).mono ?_; rintro e w3 ⟨v', rfl, hown, hb⟩; have hc3 := cell_of_block (keepb (w := w2.drew) HQ2.out hb))
        | (go_at_call 23; refine (hcl.out (w2.drew.alloc (.cells #[.int .i64 seq, .int .i64 now] 30)) (HB2.out.drew.alloc HB2.out.size _)).mono ?_; rintro e w5 ⟨v', rfl, hown5, hb⟩; have howb : Own 30 2 (w2.heap.size + 1) w5 v' l.length (flat Bt.cells l) := (by simpa using hown5); have hc3 := cell_of_block (keepb (keepa (w := w2.drew) HQ2.out _) hb); have hnb := keepb (heap_new w2.drew (.cells #[.int .i64 seq, .int .i64 now] 30) _ rfl) hb)
        | (refine step_append_sl rfl (.tmp 25) (.tmp 27) 22 rfl w2.heap.size 30 (.agg #[.int .i64 0, .int .i64 0]) 2 16 Try.underlying22 (by kernel_rfl) rfl (by decide) _ l.length (flat Bt.cells l) rfl (hown.alloc _) ⟨w3.heap.size, 0, none⟩ 1 1 rfl [.int .i64 seq, .int .i64 now] rfl (news_new (heap_new _ _ _ rfl)) (by simp [Value.oneCell']) (by omega) (by omega) (by have := hb.size; simp at this ⊢; omega) ?_; intro v2 w4 hown2 hg2; have hc4 := cell_of_block (keepg (keepa (keepb (w := w2.drew) HQ2.out hb) _) hg2 (fun k hk => Nat.lt_of_lt_of_le (block_lt HQ2.out) (hown.block k hk))); have HO := Lib.hid hown2; have HB4 := Lib.hid (show Below w.heap.size w w4 from ((chain HB2.out.drew hb).alloc (Nat.le_trans HB2.out.size hb.size) _).grown hg2 (Nat.le_trans HB2.out.size (Nat.le_trans hb.size (by simp))) (fun k hk => Nat.le_trans HB2.out.size (hown.block k hk))))
        | (refine step_append_sl rfl (.tmp 25) (.tmp 27) 22 rfl (w2.heap.size + 1) 30 (.agg #[.int .i64 0, .int .i64 0]) 2 16 Try.underlying22 (by kernel_rfl) rfl (by decide) _ l.length (flat Bt.cells l) rfl howb ⟨w2.heap.size, 0, none⟩ 1 1 rfl [.int .i64 seq, .int .i64 now] rfl (news_new hnb) (by simp [Value.oneCell']) (by omega) (by omega) (by have := hb.size; simp at this ⊢; omega) ?_; intro v2 w4 howb2 hg2; have hc4 := cell_of_block (keepg (keepb (keepa (w := w2.drew) HQ2.out _) hb) hg2 (fun k hk => by have := howb.block k hk; have := block_lt HQ2.out; omega)); have HO := Lib.hid (howb2.mono (Nat.le_succ _)); have HB4 := Lib.hid (show Below w.heap.size w w4 from (chain (HB2.out.drew.alloc HB2.out.size _) hb).grown hg2 (Nat.le_trans HB2.out.size (Nat.le_trans (by simp) hb.size)) (fun k hk => Nat.le_trans HB2.out.size (Nat.le_of_succ_le (howb.block k hk)))))))
    all_goals obtain ⟨_, _, p2, cap2, rfl, hcap2, _⟩ := HO.out.sl
    all_goals obtain ⟨k, hk, hkn⟩ : ∃ k : Nat, max ((l.length : Int) + 1 - 8) 0 = k ∧ k = l.length + 1 - 8 := ⟨l.length + 1 - 8, by omega, rfl⟩
    all_goals have hk1 : (k : Int) ≤ (l.length : Int) + 1 := by omega
    all_goals go_wp2_with fail
    all_goals go_ret2
    all_goals first
      | exact beat_fin0 HF.out HO.out HB2.out.size HB4.out (by omega)
      | exact beat_fin HF.out HO.out HB2.out.size HB4.out _ (by omega)
end Go.Proofs.Ytdflajgglgbphaa.K

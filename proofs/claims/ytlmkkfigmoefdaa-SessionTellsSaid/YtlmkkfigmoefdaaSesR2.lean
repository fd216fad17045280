/-
  CONTRACTS of nightjarref18: Of, Statuses, many.
-/
import Derived.Test.YtlmkkfigmoefdaaSes6
set_option linter.unusedVariables false
set_option linter.unusedSimpArgs false
namespace Go.Proofs.Ytlmkkfigmoefdaa.K
open Go Go.RowKit Nj

set_option maxRecDepth 100000 in
set_option maxHeartbeats 4000000 in
theorem rof_any (v : Value) (l : List Sv) (u : Int) (w : World) (h : Sess w v l) (hl : l.length ≤ 1000) (ys : List Int) (hys : sesOf (cons l) u = ys) :
    Calls Try.prog 27 #[v, .int .i64 u] w (RetInts w ys) := by
  obtain ⟨p, cap, rfl, hcap⟩ := sess_shape h
  have HS := Lib.hid h.1
  have HY := Lib.hid (show ys = (l.filter (fun x => decide (x.s.user = u))).map (fun x => x.s.id) by
    rw [← hys]; unfold sesOf cons; rw [List.filter_map, List.map_map]; rfl)
  clear h hys
  go_enter Try.func27, Try.ntmps27
  go_wp2_with fail
  go_loopw [5, 6] (fun ov i wr => ∃ (k : Nat) (xs : List Int) (po : Option Addr) (capo : Nat), k ≤ l.length ∧ i = .int .i64 k ∧ xs = ((l.take k).filter (fun x => decide (x.s.user = u))).map (fun x => x.s.id) ∧ ov = .slice po xs.length capo ∧ Own 3 1 w.heap.size wr (.slice po xs.length capo) xs.length (xs.map (Value.int .i64)) ∧ Below w.heap.size w wr) (fun _ i _ => l.length - (intOf i).toNat)
  case atStart => exact ⟨0, [], none, 0, by omega, rfl, by simp, rfl, own_nil _ _ _ _, Below.refl _ _⟩
  case round =>
    obtain ⟨k, xs, po, capo, hk, rfl, hxs, rfl, ho, hb⟩ := hrel
    have HX := Lib.hid hxs
    have HO := Lib.hid ho
    have BA := Lib.hid hb
    have hxl : xs.length ≤ 1000 := by
      rw [hxs, List.length_map]
      exact Nat.le_trans (List.length_filter_le _ _) (by rw [List.length_take]; omega)
    clear hxs ho hb
    by_cases hlt : k < l.length
    · obtain ⟨b, o, rfl, _⟩ := HS.out.open (by omega)
      obtain ⟨x, hx⟩ : ∃ x, x = l[k] := ⟨_, rfl⟩
      have R0 := ses_row (HS.out.keep (by decide) BA.out) k hlt x hx
      have k1 := f_user R0
      have k2 := f_id R0
      have HXx := Lib.hid hx
      have t1 : (k : Int) < (l.length : Int) := by omega
      have t2 : (0 : Int) ≤ (k : Int) := by omega
      clear hx R0
      by_cases hu : x.s.user = u
      · have u1 : (x.s.user == u) = true := by simp [hu]
        have HX2 := Lib.hid (show xs ++ [x.s.id] = ((l.take (k + 1)).filter (fun x => decide (x.s.user = u))).map (fun x => x.s.id) by rw [filter_take_yes hlt (by rw [← HXx.out]; simp [hu]), List.map_append, ← HX.out, ← HXx.out]; rfl)
        clear hu
        go_wp2_with (at_builtin; refine wpList_app rfl (.tmp 20) (.tmp 26) 54 rfl w.heap.size 3 (.int .i64 0) 1 8 Try.underlying54 (by kernel_rfl) rfl (by decide) w.heap.size w (Lib.hid (BA.out.alloc BA.out.size _)) (by omega) (Lib.hid (HO.out.alloc _)) rfl ⟨wr.heap.size, 0, none⟩ 1 1 rfl [.int .i64 x.s.id] rfl (Lib.hid (news_new (heap_new _ _ _ rfl))) (by simp [Value.oneCell']) (by omega) (by omega) (by have := BA.out.size; simp; omega) ?_; intro p2 cap2 w8 hc2 HO8 HB8 HK8)
        go_roundw
        case rel =>
          refine ⟨k + 1, xs ++ [x.s.id], p2, cap2, by omega, by go_num, HX2.out, by simp, ?_, HB8.out⟩
          have := HO8.out
          simpa using this
        case measure => simp [intOf]; omega
      · have u1 : (x.s.user == u) = false := by simp [hu]
        have HX2 := Lib.hid (show xs = ((l.take (k + 1)).filter (fun x => decide (x.s.user = u))).map (fun x => x.s.id) by rw [filter_take_no hlt (by rw [← HXx.out]; simp [hu])]; exact HX.out)
        clear hu
        go_wp2_with fail
        go_roundw
        case rel => exact ⟨k + 1, xs, po, capo, by omega, by go_num, HX2.out, rfl, HO.out, BA.out⟩
        case measure => simp [intOf]; omega
    · have hke : k = l.length := by omega
      subst hke
      have HX2 := Lib.hid (show xs = ys by rw [HY.out]; have := HX.out; rwa [List.take_length] at this)
      have t1 : decide ((l.length : Int) < (l.length : Int)) = false := by simp
      go_wp2_with fail
      go_ret
      rw [← HX2.out]
      exact ⟨po, capo, rfl, HO, BA⟩

set_option maxRecDepth 100000 in
set_option maxHeartbeats 4000000 in
theorem rstatuses_any (v : Value) (l : List Sv) (u : Int) (w : World) (h : Sess w v l) (hl : l.length ≤ 1000) (ys : List Int) (hys : sesStat (cons l) u = ys) :
    Calls Try.prog 29 #[v, .int .i64 u] w (RetInts w ys) := by
  obtain ⟨p, cap, rfl, hcap⟩ := sess_shape h
  have HS := Lib.hid h.1
  have HY := Lib.hid (show ys = (l.filter (fun x => decide (x.s.user = u))).map (fun x => x.s.status) by
    rw [← hys]; unfold sesStat cons; rw [List.filter_map, List.map_map]; rfl)
  clear h hys
  go_enter Try.func29, Try.ntmps29
  go_wp2_with fail
  go_loopw [5, 6] (fun ov i wr => ∃ (k : Nat) (xs : List Int) (po : Option Addr) (capo : Nat), k ≤ l.length ∧ i = .int .i64 k ∧ xs = ((l.take k).filter (fun x => decide (x.s.user = u))).map (fun x => x.s.status) ∧ ov = .slice po xs.length capo ∧ Own 3 1 w.heap.size wr (.slice po xs.length capo) xs.length (xs.map (Value.int .i64)) ∧ Below w.heap.size w wr) (fun _ i _ => l.length - (intOf i).toNat)
  case atStart => exact ⟨0, [], none, 0, by omega, rfl, by simp, rfl, own_nil _ _ _ _, Below.refl _ _⟩
  case round =>
    obtain ⟨k, xs, po, capo, hk, rfl, hxs, rfl, ho, hb⟩ := hrel
    have HX := Lib.hid hxs
    have HO := Lib.hid ho
    have BA := Lib.hid hb
    have hxl : xs.length ≤ 1000 := by
      rw [hxs, List.length_map]
      exact Nat.le_trans (List.length_filter_le _ _) (by rw [List.length_take]; omega)
    clear hxs ho hb
    by_cases hlt : k < l.length
    · obtain ⟨b, o, rfl, _⟩ := HS.out.open (by omega)
      obtain ⟨x, hx⟩ : ∃ x, x = l[k] := ⟨_, rfl⟩
      have R0 := ses_row (HS.out.keep (by decide) BA.out) k hlt x hx
      have k1 := f_user R0
      have k2 := f_status R0
      have HXx := Lib.hid hx
      have t1 : (k : Int) < (l.length : Int) := by omega
      have t2 : (0 : Int) ≤ (k : Int) := by omega
      clear hx R0
      by_cases hu : x.s.user = u
      · have u1 : (x.s.user == u) = true := by simp [hu]
        have HX2 := Lib.hid (show xs ++ [x.s.status] = ((l.take (k + 1)).filter (fun x => decide (x.s.user = u))).map (fun x => x.s.status) by rw [filter_take_yes hlt (by rw [← HXx.out]; simp [hu]), List.map_append, ← HX.out, ← HXx.out]; rfl)
        clear hu
        go_wp2_with (at_builtin; refine wpList_app rfl (.tmp 20) (.tmp 26) 54 rfl w.heap.size 3 (.int .i64 0) 1 8 Try.underlying54 (by kernel_rfl) rfl (by decide) w.heap.size w (Lib.hid (BA.out.alloc BA.out.size _)) (by omega) (Lib.hid (HO.out.alloc _)) rfl ⟨wr.heap.size, 0, none⟩ 1 1 rfl [.int .i64 x.s.status] rfl (Lib.hid (news_new (heap_new _ _ _ rfl))) (by simp [Value.oneCell']) (by omega) (by omega) (by have := BA.out.size; simp; omega) ?_; intro p2 cap2 w8 hc2 HO8 HB8 HK8)
        go_roundw
        case rel =>
          refine ⟨k + 1, xs ++ [x.s.status], p2, cap2, by omega, by go_num, HX2.out, by simp, ?_, HB8.out⟩
          have := HO8.out
          simpa using this
        case measure => simp [intOf]; omega
      · have u1 : (x.s.user == u) = false := by simp [hu]
        have HX2 := Lib.hid (show xs = ((l.take (k + 1)).filter (fun x => decide (x.s.user = u))).map (fun x => x.s.status) by rw [filter_take_no hlt (by rw [← HXx.out]; simp [hu])]; exact HX.out)
        clear hu
        go_wp2_with fail
        go_roundw
        case rel => exact ⟨k + 1, xs, po, capo, by omega, by go_num, HX2.out, rfl, HO.out, BA.out⟩
        case measure => simp [intOf]; omega
    · have hke : k = l.length := by omega
      subst hke
      have HX2 := Lib.hid (show xs = ys by rw [HY.out]; have := HX.out; rwa [List.take_length] at this)
      have t1 : decide ((l.length : Int) < (l.length : Int)) = false := by simp
      go_wp2_with fail
      go_ret
      rw [← HX2.out]
      exact ⟨po, capo, rfl, HO, BA⟩

theorem rmany_any (v : Value) (l : List Sv) (u : Int) (w : World) (h : Sess w v l) (hl : l.length ≤ 1000) (n : Nat) (hn : (sesOf (cons l) u).length = n) :
    Calls Try.prog 33 #[v, .int .i64 u] w fun e w' => e = .returned (.int .i64 n) ∧ Hid (Below w.heap.size w w') := by
  have HC := Lib.hid (rof_any v l u w h hl _ rfl)
  obtain ⟨p, cap, rfl, hcap⟩ := sess_shape h
  subst hn
  go_enter Try.func33, Try.ntmps33
  go_wp2_with fail
  refine HC.out.mono ?_
  rintro e w2 ⟨p2, cap2, rfl, -, B2⟩
  go_wp2_with fail
  go_ret
  exact ⟨rfl, B2⟩
end Go.Proofs.Ytlmkkfigmoefdaa.K

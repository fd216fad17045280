/-
  CONTRACTS of send.Due, slices.Equal, send.Same.
-/
import Derived.Test.YteilgibfmljoeaaSend5
set_option linter.unusedVariables false
set_option linter.unusedSimpArgs false
namespace Nj
open Go
theorem due_yes {s : Sd} {now rto : Int} {k : Nat} (hk : k < s.fl.length) (h : s.fl[k].at_ + rto ≤ now) : ((s.fl.take (k + 1)).filter fun f => decide (f.at_ + rto ≤ now)).map (·.seq) = ((s.fl.take k).filter fun f => decide (f.at_ + rto ≤ now)).map (·.seq) ++ [s.fl[k].seq] := by
  rw [List.take_add_one, List.getElem?_eq_getElem hk, List.filter_append]; simp [h]
theorem due_no {s : Sd} {now rto : Int} {k : Nat} (hk : k < s.fl.length) (h : ¬ s.fl[k].at_ + rto ≤ now) : ((s.fl.take (k + 1)).filter fun f => decide (f.at_ + rto ≤ now)).map (·.seq) = ((s.fl.take k).filter fun f => decide (f.at_ + rto ≤ now)).map (·.seq) := by
  rw [List.take_add_one, List.getElem?_eq_getElem hk, List.filter_append]; simp [h]
end Nj
namespace Go.Proofs.Yteilgibfmljoeaa.K
open Go Go.RowKit Nj
/-- a slice of the call's own of integers is one -/
theorem ints_of_own {E : TypeId} {B : Nat} {w : World} {p : Option Addr} {n cap : Nat} {xs : List Int} (h : Own E 1 B w (.slice p n cap) n (xs.map (Value.int .i64))) : n = xs.length ∧ Ints w (.slice p xs.length cap) xs := by
  have hn : n = xs.length := by have := h.1; simpa using this.symm
  subst hn
  exact ⟨rfl, OwnI.ints (E := E) (B := B) h⟩

set_option maxHeartbeats 2000000 in
theorem sdue_own (n : Int) (v : Value) (c a : Int) (l : List Fl) (now rto : Int) (w : World) (h : Fls w v l) (hl : l.length ≤ 1000) (hf : ∀ f ∈ l, 0 ≤ f.at_ ∧ f.at_ ≤ 1099511627776) (hr : 0 ≤ rto ∧ rto ≤ 1099511627776) :
    Calls Try.prog 28 #[.agg #[.int .i64 n, v, .int .i64 c, .int .i64 a], .int .i64 now, .int .i64 rto] w fun e w' => ∃ p cap, e = .returned (.slice p (sdDue ⟨n, l, c, a⟩ now rto).length cap) ∧ Hid (Own 3 1 w.heap.size w' (.slice p (sdDue ⟨n, l, c, a⟩ now rto).length cap) (sdDue ⟨n, l, c, a⟩ now rto).length ((sdDue ⟨n, l, c, a⟩ now rto).map (Value.int .i64))) ∧ Hid (Below w.heap.size w w') := by
  have HS := Lib.hid h
  have HF := Lib.hid hf
  obtain ⟨r0, r1⟩ := hr
  obtain ⟨p, cap, rfl, hcap⟩ := fls_shape h
  clear h hf
  obtain ⟨D, hD⟩ : ∃ D : Nat → List Int, ∀ k, D k = ((l.take k).filter fun f => decide (f.at_ + rto ≤ now)).map (·.seq) := ⟨_, fun _ => rfl⟩
  have HD := Lib.hid hD
  have HDl := Lib.hid (show ∀ k, (D k).length ≤ k from fun k => by
    rw [hD k, List.length_map]
    exact Nat.le_trans (List.length_filter_le _ _) (List.length_take_le _ _))
  clear hD
  go_enter Try.func28, Try.ntmps28
  go_wp2_with fail
  go_loopw [6, 12] (fun dv i wr => ∃ (k d cap' : Nat) (p' : Option Addr), k ≤ l.length ∧ i = .int .i64 k ∧ dv = .slice p' d cap' ∧ d = (D k).length ∧ Own 3 1 (w.heap.size + 1) wr (.slice p' d cap') d ((D k).map (Value.int .i64)) ∧ Below w.heap.size w wr) (fun _ i _ => l.length - (intOf i).toNat)
  case atStart =>
    refine ⟨0, 0, 0, none, by omega, rfl, rfl, ?_, ?_, (Below.refl _ _).alloc (Nat.le_refl _) _⟩
    · have := HDl.out 0; omega
    · have : D 0 = [] := by rw [HD.out]; rfl
      rw [this]; exact own_nil _ _ _ _
  case round =>
    obtain ⟨k, d, cap', p', hk, rfl, rfl, hd, hown, hwb⟩ := hrel
    have HO := Lib.hid hown
    have HW := Lib.hid hwb
    have HDd := Lib.hid hd
    have hdk : d ≤ 1000 := by have := HDl.out k; omega
    clear hown hwb hd
    by_cases hlt : k < l.length
    · obtain ⟨b, o, rfl, _⟩ := HS.out.open (by omega)
      obtain ⟨f, hf⟩ : ∃ f, f = l[k] := ⟨_, rfl⟩
      obtain ⟨c0, c1, c2, c3, c4, c5, c6⟩ := fls_row HS HW.out k hlt f hf
      have hfb := HF.out f (by rw [hf]; simp)
      obtain ⟨f0, f1⟩ := hfb
      have HX := Lib.hid hf
      have t1 : (k : Int) < (l.length : Int) := by omega
      have t2 : (0 : Int) ≤ (k : Int) := by omega
      clear hf
      by_cases hu : f.at_ + rto ≤ now
      · have HDs := Lib.hid (show D (k + 1) = D k ++ [f.seq] by
          have := due_yes (s := ⟨0, l, 0, 0⟩) (now := now) (rto := rto) hlt (by rw [← HX.out]; exact hu)
          rw [HD.out, HD.out, HX.out]; exact this)
        have hszw : w.heap.size + 1 ≤ wr.heap.size + 1 := by have := HW.out.size; omega
        go_wp2_with (at_builtin; refine wpList_app rfl (.tmp 22) (.tmp 25) 58 rfl (w.heap.size + 1) 3 (.int .i64 0) 1 8 Try.underlying58 (by kernel_rfl) rfl (by decide) w.heap.size w (Lib.hid ((HW.out.alloc HW.out.size _).alloc (Nat.le_trans HW.out.size (by simp)) _)) (by omega) (Lib.hid ((HO.out.alloc _).alloc _)) rfl ⟨wr.heap.size + 1, 0, none⟩ 1 1 rfl [.int .i64 f.seq] rfl (Lib.hid (news_new (heap_new _ _ _ (by simp)))) (by simp [Value.oneCell']) (by omega) (by omega) (by simp; omega) ?_; intro p2 cap2 w5 hc2 HO5 HB5 HK5)
        go_roundw
        case rel =>
          refine ⟨k + 1, d + 1, cap2, p2, by omega, by go_num, rfl, ?_, ?_, HB5.out⟩
          · rw [HDs.out, List.length_append, ← HDd.out]; rfl
          · rw [HDs.out, List.map_append]; exact HO5.out
        case measure => simp [intOf]; omega
      · have HDs := Lib.hid (show D (k + 1) = D k by
          have := due_no (s := ⟨0, l, 0, 0⟩) (now := now) (rto := rto) hlt (by rw [← HX.out]; exact hu)
          rw [HD.out, HD.out]; exact this)
        go_wp2_with fail
        go_roundw
        case rel =>
          refine ⟨k + 1, d, cap', p', by omega, by go_num, rfl, by rw [HDs.out]; exact HDd.out, ?_, HW.out.alloc HW.out.size _⟩
          rw [HDs.out]; exact HO.out.alloc _
        case measure => simp [intOf]; omega
    · have hke : k = l.length := by omega
      subst hke
      have t1 : decide ((l.length : Int) < (l.length : Int)) = false := by simp
      have HE := Lib.hid (show D l.length = sdDue ⟨n, l, c, a⟩ now rto by rw [HD.out, List.take_length]; rfl)
      have hd : d = (sdDue ⟨n, l, c, a⟩ now rto).length := by rw [HDd.out, HE.out]
      subst hd
      have HO2 := Lib.hid (show Own 3 1 (w.heap.size + 1) wr (.slice p' (sdDue ⟨n, l, c, a⟩ now rto).length cap') (sdDue ⟨n, l, c, a⟩ now rto).length ((sdDue ⟨n, l, c, a⟩ now rto).map (Value.int .i64)) by have := HO.out; rw [HE.out] at this; exact this)
      go_wp2_with fail
      go_ret
      exact ⟨p', cap', rfl, Lib.hid (HO2.out.mono (by omega)), HW⟩
theorem sdue_any (n : Int) (v : Value) (c a : Int) (l : List Fl) (now rto : Int) (w : World) (h : Fls w v l) (hl : l.length ≤ 1000) (hf : ∀ f ∈ l, 0 ≤ f.at_ ∧ f.at_ ≤ 1099511627776) (hr : 0 ≤ rto ∧ rto ≤ 1099511627776) :
    Calls Try.prog 28 #[.agg #[.int .i64 n, v, .int .i64 c, .int .i64 a], .int .i64 now, .int .i64 rto] w fun e w' => ∃ p cap, e = .returned (.slice p (sdDue ⟨n, l, c, a⟩ now rto).length cap) ∧ Hid (Ints w' (.slice p (sdDue ⟨n, l, c, a⟩ now rto).length cap) (sdDue ⟨n, l, c, a⟩ now rto)) ∧ Hid (Below w.heap.size w w') :=
  (sdue_own n v c a l now rto w h hl hf hr).mono fun _ _ ⟨p, cap, e, ho, hb⟩ => ⟨p, cap, e, Lib.hid (ints_of_own ho.out).2, hb⟩

theorem neq_fl (x y : Fl) (w : World) :
    (binOp .neq 40 (.agg #[.int .i64 x.seq, .int .i64 x.note.user, .int .i64 x.note.ver, .int .i64 x.note.stat, .int .i64 x.note.cnt, .int .i64 x.at_, .int .i64 x.tries]) (.agg #[.int .i64 y.seq, .int .i64 y.note.user, .int .i64 y.note.ver, .int .i64 y.note.stat, .int .i64 y.note.cnt, .int .i64 y.at_, .int .i64 y.tries])).run Try.prog w = .ok (.bool (!(decide (x = y)))) w := by
  go_simp
  have e : (x = y) ↔ x.seq = y.seq ∧ (x.note.user = y.note.user ∧ x.note.ver = y.note.ver ∧ x.note.stat = y.note.stat ∧ x.note.cnt = y.note.cnt) ∧ x.at_ = y.at_ ∧ x.tries = y.tries := by
    obtain ⟨a, ⟨b, c, d, e⟩, f, g⟩ := x; obtain ⟨a', ⟨b', c', d', e'⟩, f', g'⟩ := y; simp
  simp only [e]
  (repeat' split) <;> simp_all

set_option maxHeartbeats 2000000 in
theorem sequal_any (v v' : Value) (l m : List Fl) (w : World) (h : Fls w v l) (h' : Fls w v' m) :
    Calls Try.prog 58 #[v, v'] w fun e w' => e = .returned (.bool (decide (l = m))) ∧ Hid (Below w.heap.size w w') := by
  have HS := Lib.hid h
  have HS' := Lib.hid h'
  have hm : l.length ≤ 9223372036854775807 := h.1
  have hm' : m.length ≤ 9223372036854775807 := h'.1
  obtain ⟨p, cap, rfl, hcap⟩ := fls_shape h
  obtain ⟨p', cap', rfl, hcap'⟩ := fls_shape h'
  clear h h'
  by_cases hlen : l.length = m.length
  · have HL := Lib.hid hlen
    obtain ⟨n, hn⟩ : ∃ n, n = l.length := ⟨_, rfl⟩
    have hn' : n = m.length := by omega
    rw [← hn] at hm hcap
    rw [← hn'] at hm' hcap'
    have HN := Lib.hid hn
    have HN' := Lib.hid hn'
    rw [← hn, ← hn']
    rw [← hn] at HS
    rw [← hn'] at HS'
    clear hlen hn hn' hm'
    go_enter Try.func58, Try.ntmps58
    go_wp2_with fail
    go_loopw [13] (fun i wr => ∃ k : Nat, k ≤ n ∧ i = .int .i64 k ∧ l.take k = m.take k ∧ Below w.heap.size w wr) (fun i _ => n - (intOf i).toNat)
    case atStart => exact ⟨0, by omega, rfl, by simp, Below.refl _ _⟩
    case round =>
      obtain ⟨k, hk, rfl, hall, hwb⟩ := hrel
      have HA := Lib.hid hall
      have HW := Lib.hid hwb
      clear hall hwb
      by_cases hlt : k < n
      · have hltl : k < l.length := by rw [← HN.out]; exact hlt
        have hltm : k < m.length := by rw [← HN'.out]; exact hlt
        obtain ⟨b, o, rfl, _⟩ := HS.out.open (by omega)
        obtain ⟨b', o', rfl, _⟩ := HS'.out.open (by omega)
        obtain ⟨x, hx⟩ : ∃ x, x = l[k] := ⟨_, rfl⟩
        obtain ⟨y, hy⟩ : ∃ y, y = m[k] := ⟨_, rfl⟩
        obtain ⟨c0, c1, c2, c3, c4, c5, c6⟩ := fls_row HS HW.out k hltl x hx
        obtain ⟨d0, d1, d2, d3, d4, d5, d6⟩ := fls_row HS' HW.out k hltm y hy
        have HX := Lib.hid hx
        have HY := Lib.hid hy
        have t1 : (k : Int) < (n : Int) := by omega
        have t2 : (0 : Int) ≤ (k : Int) := by omega
        clear hx hy
        by_cases hxy : x = y
        · have hne := fun w => neq_fl x y w
          simp only [hxy, decide_true, Bool.not_true] at hne
          have HT := Lib.hid (show l.take (k + 1) = m.take (k + 1) by
            rw [List.take_add_one, List.take_add_one, HA.out, List.getElem?_eq_getElem hltl, List.getElem?_eq_getElem hltm, ← HX.out, ← HY.out, hxy])
          subst hxy
          go_wp2_with fail
          go_quiet (fail)
          go_wp2_with fail
          go_roundw
          case rel => exact ⟨k + 1, by omega, by go_num, HT.out, bel_drewN HW.out _⟩
          case measure => simp [intOf]; omega
        · have hne := fun w => neq_fl x y w
          simp only [hxy, decide_false, Bool.not_false] at hne
          have HF := Lib.hid (show decide (l = m) = false by
            simp only [decide_eq_false_iff_not]
            rintro rfl
            exact hxy (by rw [HX.out, HY.out]))
          clear hxy
          go_wp2_with fail
          go_quiet (fail)
          go_wp2_with fail
          go_ret
          exact ⟨ret_bool HF.out.symm, Lib.hid (bel_drewN HW.out _)⟩
      · have hke : k = n := by omega
        subst hke
        have HF := Lib.hid (show decide (l = m) = true by
          have := HA.out
          rw [List.take_of_length_le (by rw [← HN.out]; exact Nat.le_refl _), List.take_of_length_le (by rw [← HN'.out]; exact Nat.le_refl _)] at this
          simpa using this)
        have t1 : decide ((k : Int) < (k : Int)) = false := by simp
        go_wp2_with fail
        go_ret
        exact ⟨ret_bool HF.out.symm, HW⟩
  · have HF := Lib.hid (show decide (l = m) = false by
      simp only [decide_eq_false_iff_not]
      rintro rfl
      exact hlen rfl)
    have t1 : ((l.length : Int) != (m.length : Int)) = true := by simp; omega
    go_enter Try.func58, Try.ntmps58
    go_wp2_with fail
    go_ret
    exact ⟨ret_bool HF.out.symm, Lib.hid (Below.refl _ _)⟩

set_option maxHeartbeats 2000000 in
theorem ssame_any (n : Int) (v : Value) (c a : Int) (l : List Fl) (n' : Int) (v' : Value) (c' a' : Int) (l' : List Fl) (w : World) (h : Fls w v l) (h' : Fls w v' l') :
    Calls Try.prog 33 #[.agg #[.int .i64 n, v, .int .i64 c, .int .i64 a], .agg #[.int .i64 n', v', .int .i64 c', .int .i64 a']] w fun e w' => e = .returned (.bool (decide (Sd.mk n l c a = Sd.mk n' l' c' a'))) ∧ Hid (Below w.heap.size w w') := by
  have HS := Lib.hid h
  have HS' := Lib.hid h'
  obtain ⟨p, cap, rfl, hcap⟩ := fls_shape h
  obtain ⟨p', cap', rfl, hcap'⟩ := fls_shape h'
  clear h h'
  have BA := Lib.hid (((Below.refl w.heap.size w).alloc (Nat.le_refl _) (.cells #[.int .i64 n, .slice p l.length cap, .int .i64 c, .int .i64 a] 24)).alloc (by simp) (.cells #[.int .i64 n', .slice p' l'.length cap', .int .i64 c', .int .i64 a'] 24))
  by_cases h1 : n = n' ∧ c = c' ∧ a = a'
  · obtain ⟨rfl, rfl, rfl⟩ := h1
    go_enter Try.func33, Try.ntmps33
    go_wp2_with fail
    refine (sequal_any _ _ l l' _ (HS.out.keep (by decide) BA.out) (HS'.out.keep (by decide) BA.out)).mono ?_
    rintro e w1 ⟨rfl, B1⟩
    go_wp2_with fail
    go_ret
    exact ⟨ret_bool (by simp), Lib.hid (chain BA.out B1.out)⟩
  · have HF := Lib.hid (show decide (Sd.mk n l c a = Sd.mk n' l' c' a') = false by
      simp only [decide_eq_false_iff_not, Sd.mk.injEq]
      rintro ⟨e1, _, e2, e3⟩
      exact h1 ⟨e1, e2, e3⟩)
    rcases (show n ≠ n' ∨ (n = n' ∧ c ≠ c') ∨ (n = n' ∧ c = c' ∧ a ≠ a') by omega) with e1 | ⟨rfl, e2⟩ | ⟨rfl, rfl, e3⟩
    · have t1 : (n == n') = false := by simpa using e1
      go_enter Try.func33, Try.ntmps33
      go_wp2_with fail
      go_ret
      exact ⟨ret_bool (by first | rfl | exact HF.out.symm), BA⟩
    · have t1 : (c == c') = false := by simpa using e2
      go_enter Try.func33, Try.ntmps33
      go_wp2_with fail
      go_ret
      exact ⟨ret_bool (by first | rfl | exact HF.out.symm), BA⟩
    · have t1 : (a == a') = false := by simpa using e3
      go_enter Try.func33, Try.ntmps33
      go_wp2_with fail
      go_ret
      exact ⟨ret_bool (by first | rfl | exact HF.out.symm), BA⟩
end Go.Proofs.Yteilgibfmljoeaa.K

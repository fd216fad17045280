/-
  CONTRACT of nightjarref08.Same.
-/
import Derived.Test.YtmhfbngielihcaaSend10
set_option linter.unusedVariables false
set_option linter.unusedSimpArgs false
namespace Go.Proofs.Ytmhfbngielihcaa.K
open Go Go.RowKit Nj

set_option maxHeartbeats 1000000 in
theorem isame_any (v v' : Value) (l m : List Int) (w : World) (h : Ints w v l) (h' : Ints w v' m) :
    Calls Try.prog 25 #[v, v'] w fun e w' => e = .returned (.bool (decide (l = m))) ∧ Hid (Below w.heap.size w w') := by
  have HS := Lib.hid h
  have HS' := Lib.hid h'
  obtain ⟨hm, p, cap, rfl, hcap, _⟩ := h
  obtain ⟨hm', p', cap', rfl, hcap', _⟩ := h'
  by_cases hlen : l.length = m.length
  · obtain ⟨n, hn⟩ : ∃ n, n = l.length := ⟨_, rfl⟩
    have hn' : n = m.length := by omega
    rw [← hn] at hm hcap
    rw [← hn'] at hm' hcap'
    have HN := Lib.hid hn
    have HN' := Lib.hid hn'
    rw [← hn, ← hn']
    rw [← hn] at HS
    rw [← hn'] at HS'
    clear hlen hn hn' hm'
    go_enter Try.func25, Try.ntmps25
    go_wp2_with fail
    go_loopw [5] (fun i wr => ∃ k : Nat, k ≤ n ∧ i = .int .i64 k ∧ l.take k = m.take k ∧ Below w.heap.size w wr) (fun i _ => n - (intOf i).toNat)
    case atStart => exact ⟨0, by omega, rfl, by simp, Below.refl _ _⟩
    case round =>
      obtain ⟨k, hk, rfl, hall, hwb⟩ := hrel
      have HA := Lib.hid hall
      have HW := Lib.hid hwb
      clear hall hwb
      by_cases hlt : k < n
      · have hltl : k < l.length := by rw [← HN.out]; exact hlt
        have hltm : k < m.length := by rw [← HN'.out]; exact hlt
        obtain ⟨b, o, rfl, -⟩ := (HS.out.keep HW.out).atp k hltl
        obtain ⟨b', o', rfl, -⟩ := (HS'.out.keep HW.out).atp k hltm
        obtain ⟨x, hx⟩ : ∃ x, x = l[k] := ⟨_, rfl⟩
        obtain ⟨y, hy⟩ : ∃ y, y = m[k] := ⟨_, rfl⟩
        have c0 : wr.cell? ⟨b, o + k, none⟩ = some (.int .i64 x) := by
          obtain ⟨_, _, e, hd⟩ := (HS.out.keep HW.out).atp k hltl
          cases e; rw [hx]; exact hd
        have c1 : wr.cell? ⟨b', o' + k, none⟩ = some (.int .i64 y) := by
          obtain ⟨_, _, e, hd⟩ := (HS'.out.keep HW.out).atp k hltm
          cases e; rw [hy]; exact hd
        have HX := Lib.hid hx
        have HY := Lib.hid hy
        have t1 : (k : Int) < (n : Int) := by omega
        have t2 : (0 : Int) ≤ (k : Int) := by omega
        clear hx hy
        by_cases hxy : x = y
        · have t3 : (x != y) = false := by simp [hxy]
          have HT := Lib.hid (show l.take (k + 1) = m.take (k + 1) by
            rw [List.take_add_one, List.take_add_one, HA.out, List.getElem?_eq_getElem hltl, List.getElem?_eq_getElem hltm, ← HX.out, ← HY.out, hxy])
          subst hxy
          go_wp2_with fail
          go_quiet (fail)
          go_wp2_with fail
          go_roundw
          case rel => exact ⟨k + 1, by omega, by go_num, HT.out, bel_drewN HW.out _⟩
          case measure => simp [intOf]; omega
        · have t3 : (x != y) = true := by simp [hxy]
          have HF := Lib.hid (show decide (l = m) = false by
            simp only [decide_eq_false_iff_not]
            rintro rfl
            exact hxy (by rw [HX.out, HY.out]))
          clear hxy
          go_wp2_with fail
          go_quiet (fail)
          go_wp2_with fail
          go_ret
          exact ⟨ret_bool HF.out.symm, Lib.hid (bel_drewN HW.out _)⟩
      · have hke : k = n := by omega
        subst hke
        have HF := Lib.hid (show decide (l = m) = true by
          have := HA.out
          rw [List.take_of_length_le (by rw [← HN.out]; exact Nat.le_refl _), List.take_of_length_le (by rw [← HN'.out]; exact Nat.le_refl _)] at this
          simpa using this)
        have t1 : decide ((k : Int) < (k : Int)) = false := by simp
        go_wp2_with fail
        go_ret
        exact ⟨ret_bool HF.out.symm, HW⟩
  · have HF := Lib.hid (show decide (l = m) = false by
      simp only [decide_eq_false_iff_not]
      rintro rfl
      exact hlen rfl)
    have t1 : ((l.length : Int) != (m.length : Int)) = true := by simp; omega
    go_enter Try.func25, Try.ntmps25
    go_wp2_with fail
    go_ret
    exact ⟨ret_bool HF.out.symm, Lib.hid (Below.refl _ _)⟩

end Go.Proofs.Ytmhfbngielihcaa.K

/-
  PLAIN LAWS: what Open, Put, Close give is right; both answers agree. No program, no memory.
-/
import Derived.Test.YtlmkkfigmoefdaaSesPlain
import Derived.Test.YtlmkkfigmoefdaaSesR5
import Derived.Test.YtlmkkfigmoefdaaSesR8
set_option linter.unusedVariables false
set_option linter.unusedSimpArgs false
namespace Go.Proofs.Ytlmkkfigmoefdaa.K
open Go Nj

theorem right_of {t : List Ses} (h1 : t.length ≤ 32) (h2 : ∀ s ∈ t, sesFits s = true) (h3 : t.Pairwise (fun a b => a.id < b.id)) (h4 : ∀ u, cnt t u ≤ 4) : sesRight t = true := by
  unfold sesRight
  simp only [Bool.and_eq_true, decide_eq_true_eq, List.all_eq_true, sesUp_iff]
  exact ⟨h1, h2, fun j hj => List.pairwise_iff_getElem.1 h3 j (j + 1) (by omega) hj (by omega), fun s _ => h4 s.user⟩
theorem cnt_sub {t t' : List Ses} (h : t'.Sublist t) (u : Int) : cnt t' u ≤ cnt t u := by
  unfold cnt sesOf
  rw [List.length_map, List.length_map]
  exact (h.filter _).length_le
theorem right_sub {t t' : List Ses} (h : sesRight t = true) (hs : t'.Sublist t) : sesRight t' = true := by
  obtain ⟨h1, h2, h3, h4⟩ := right_parts h
  exact right_of (Nat.le_trans hs.length_le h1) (fun s hm => h2 s (hs.subset hm)) (h3.sublist hs) (fun u => Nat.le_trans (cnt_sub hs u) (h4 u))
theorem right_close {t : List Ses} (h : sesRight t = true) (i : Int) : sesRight (sesClose t i).1 = true := by
  unfold sesClose
  split
  · exact right_sub h (List.eraseIdx_sublist _ _)
  · exact h
theorem right_open {t : List Ses} (h : sesRight t = true) (s : Ses) : sesRight (sesOpen t s).1 = true := by
  unfold sesOpen
  split
  · exact h
  · rename_i h1
    split
    · exact h
    · rename_i h2
      simp only [Bool.or_eq_true, Bool.not_eq_true', not_or, Bool.not_eq_true, decide_eq_true_eq] at h1 h2
      obtain ⟨p1, p2, p3, p4⟩ := right_parts h
      refine right_of (by simp; omega) (fun x hx => ?_) ?_ (fun u => ?_)
      · rcases List.mem_append.1 hx with hx | hx
        · exact p2 x hx
        · rw [List.mem_singleton] at hx; rw [hx]; simpa using h1.1
      · rw [List.pairwise_append]
        refine ⟨p3, List.pairwise_singleton _ _, fun a ha b hb => ?_⟩
        rw [List.mem_singleton] at hb
        subst hb
        have hl := h1.2
        unfold sesLate at hl
        obtain ⟨j, hj, rfl⟩ := List.getElem_of_mem ha
        rw [List.getLast?_eq_getElem?, List.getElem?_eq_getElem (show t.length - 1 < t.length by omega)] at hl
        simp only [decide_eq_false_iff_not] at hl
        by_cases e : j = t.length - 1
        · subst e; omega
        · have := List.pairwise_iff_getElem.1 p3 j (t.length - 1) hj (by omega) (by omega)
          omega
      · rw [cnt_snoc]
        by_cases e : s.user = u
        · have := h2.2
          rw [if_pos e, ← e]
          unfold cnt; omega
        · rw [if_neg e]; exact p4 u
theorem cnt_users {t t' : List Ses} (h : t.map (·.user) = t'.map (·.user)) (u : Int) : cnt t u = cnt t' u := by
  have e : ∀ l : List Ses, cnt l u = ((l.map (·.user)).filter fun x => decide (x = u)).length := fun l => by
    unfold cnt sesOf
    rw [List.length_map, List.filter_map, List.length_map]; rfl
  rw [e, e, h]
theorem at_some {t : List Ses} {i : Int} {k : Nat} (h : sesAt t i = some k) : ∃ hk : k < t.length, t[k].id = i := by
  unfold sesAt at h
  rw [List.findIdx?_eq_some_iff_getElem] at h
  obtain ⟨hk, he, _⟩ := h
  exact ⟨hk, by simpa using he⟩
theorem right_put {t : List Ses} (h : sesRight t = true) (s : Ses) : sesRight (sesPut t s).1 = true := by
  unfold sesPut
  split
  · rename_i k hk
    split
    · rename_i hh
      obtain ⟨hkl, hid⟩ := at_some hk
      have hg : t.getD k ses0 = t[k] := by rw [List.getD_eq_getElem?_getD, List.getElem?_eq_getElem hkl]; rfl
      rw [hg, Bool.and_eq_true, decide_eq_true_eq] at hh
      obtain ⟨p1, p2, p3, p4⟩ := right_parts h
      refine right_of (by simpa using p1) (fun x hx => ?_) ?_ (fun u => ?_)
      · rcases List.mem_or_eq_of_mem_set hx with hx | rfl
        · exact p2 x hx
        · exact hh.2
      · rw [List.pairwise_iff_getElem]
        intro i j hi hj hij
        rw [List.length_set] at hi hj
        have hb := List.pairwise_iff_getElem.1 p3 i j hi hj hij
        rw [List.getElem_set, List.getElem_set]
        split <;> split
        · omega
        · rename_i e1 _; subst e1; rw [← hid]; exact hb
        · rename_i _ e2; subst e2; rw [← hid]; exact hb
        · exact hb
      · rw [cnt_users (t' := t) ?_ u]
        · exact p4 u
        · refine List.ext_getElem (by simp) fun i h1 h2 => ?_
          simp only [List.getElem_map, List.getElem_set]
          split
          · rename_i e; subst e; exact hh.1.symm
          · rfl
    · exact h
  · exact h
theorem at_none {t : List Ses} {i : Int} (h : sesAt t i = none) : ∀ s ∈ t, s.id ≠ i := by
  unfold sesAt at h
  rw [List.findIdx?_eq_none_iff] at h
  intro s hs
  simpa using h s hs
theorem close_same {t : List Ses} (h : sesRight t = true) (i : Int) : sesCloseR t i = sesClose t i := by
  have hp := (right_parts h).2.2.1
  unfold sesCloseR sesClose
  split
  · rename_i k hk
    obtain ⟨hkl, hid⟩ := at_some hk
    have e : (t.filter fun s => !decide (s.id = i)) = t.eraseIdx k := by
      have ht : t = t.take k ++ t[k] :: t.drop (k + 1) := by rw [List.getElem_cons_drop, List.take_append_drop]
      rw [List.eraseIdx_eq_take_drop_succ]
      conv => lhs; rw [ht]
      rw [List.filter_append, List.filter_cons_of_neg (by simp [hid])]
      congr 1
      · rw [List.filter_eq_self]
        intro a ha
        obtain ⟨j, hj, rfl⟩ := List.getElem_of_mem ha
        rw [List.length_take] at hj
        have := List.pairwise_iff_getElem.1 hp j k (by omega) hkl (by omega)
        rw [List.getElem_take]
        simp; omega
      · rw [List.filter_eq_self]
        intro a ha
        obtain ⟨j, hj, rfl⟩ := List.getElem_of_mem ha
        rw [List.length_drop] at hj
        have := List.pairwise_iff_getElem.1 hp k (k + 1 + j) hkl (by omega) (by omega)
        rw [List.getElem_drop]
        simp; omega
    rw [e, List.length_eraseIdx, if_pos hkl]
    simp; omega
  · rename_i hn
    have e : (t.filter fun s => !decide (s.id = i)) = t := by
      rw [List.filter_eq_self]
      intro s hs
      simpa using at_none hn s hs
    rw [e]; simp
theorem put_same {t : List Ses} (h : sesRight t = true) (s : Ses) : sesPutR t s = sesPut t s := by
  have hp := (right_parts h).2.2.1
  unfold sesPutR sesPut
  cases hk : sesAt t s.id with
  | none =>
    have hn := at_none hk
    have e : t.findIdx? (hitR s) = none := by
      rw [List.findIdx?_eq_none_iff]
      intro x hx
      simp [hitR, hn x hx]
    rw [e]
  | some k =>
    obtain ⟨hkl, hid⟩ := at_some hk
    have hg : t.getD k ses0 = t[k] := by rw [List.getD_eq_getElem?_getD, List.getElem?_eq_getElem hkl]; rfl
    have hne : ∀ j (hj : j < t.length), j ≠ k → t[j].id ≠ s.id := by
      intro j hj hjk
      rcases Nat.lt_or_gt_of_ne hjk with hl | hl
      · have := List.pairwise_iff_getElem.1 hp j k hj hkl hl; omega
      · have := List.pairwise_iff_getElem.1 hp k j hkl hj hl; omega
    simp only [hg]
    by_cases hh : (decide (t[k].user = s.user) && sesFits s) = true
    · have e : t.findIdx? (hitR s) = some k := by
        rw [List.findIdx?_eq_some_iff_getElem]
        refine ⟨hkl, by simp only [hitR, hid, decide_true, Bool.true_and]; exact hh, fun j hj => ?_⟩
        simp [hitR, hne j (by omega) (by omega)]
      rw [e, if_pos hh]
    · have e : t.findIdx? (hitR s) = none := by
        rw [List.findIdx?_eq_none_iff]
        intro x hx
        obtain ⟨j, hj, rfl⟩ := List.getElem_of_mem hx
        by_cases ej : j = k
        · subst ej; simp only [hitR, hid, decide_true, Bool.true_and]; simpa using hh
        · simp [hitR, hne j hj ej]
      rw [e, if_neg hh]
theorem had_at (t : List Ses) (i : Int) : (sesFind t i).2 = (sesAt t i).isSome := by
  cases h : sesAt t i with
  | none =>
    have hn := at_none h
    unfold sesFind
    have e : t.find? (fun s => decide (s.id = i)) = none := by
      rw [List.find?_eq_none]
      intro s hs
      simpa using hn s hs
    rw [e]; rfl
  | some k =>
    obtain ⟨hk, hid⟩ := at_some h
    unfold sesFind
    cases e : t.find? (fun s => decide (s.id = i)) with
    | none =>
      rw [List.find?_eq_none] at e
      exact absurd (by simpa using hid) (e _ (List.getElem_mem hk))
    | some s => rfl
theorem find_of {t : List Ses} (h : sesRight t = true) {s : Ses} (hs : s ∈ t) {i : Int} (hi : s.id = i) : sesFind t i = (s, true) := by
  subst hi; exact find_right h hs
theorem find_none {t : List Ses} {i : Int} (h : ∀ s ∈ t, s.id ≠ i) : sesFind t i = (ses0, false) := by
  unfold sesFind
  have e : t.find? (fun s => decide (s.id = i)) = none := by
    rw [List.find?_eq_none]
    intro s hs
    simpa using h s hs
  rw [e]
end Go.Proofs.Ytlmkkfigmoefdaa.K

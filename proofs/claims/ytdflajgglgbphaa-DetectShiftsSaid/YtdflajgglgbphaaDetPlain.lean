/-
  PLAIN LAWS of heartbeats: no program, no memory. No condition.
-/
import Derived.Test.YtdflajgglgbphaaDetFns
set_option linter.unusedVariables false
set_option linter.unusedSimpArgs false
namespace Nj
theorem beat_yes {l : List Bt} {s n : Int} (h : btBehind ⟨s, n⟩ (btLast l) = true) : btBeat l s n = ((l ++ [Bt.mk s n]).drop (l.length + 1 - 8), true) := by unfold btBeat; rw [if_pos h]
theorem beat_no {l : List Bt} {s n : Int} (h : btBehind ⟨s, n⟩ (btLast l) = false) : btBeat l s n = (l, false) := by unfold btBeat; rw [h]; rfl
theorem beat_snd (l : List Bt) (s n : Int) : (btBeat l s n).2 = btBehind ⟨s, n⟩ (btLast l) := by
  cases h : btBehind ⟨s, n⟩ (btLast l)
  · rw [beat_no h]
  · rw [beat_yes h]
theorem beat_right {l : List Bt} (s n : Int) (h : btRight l = true) : btRight (btBeat l s n).1 = true := by
  cases hb : btBehind ⟨s, n⟩ (btLast l)
  · rw [beat_no hb]; exact h
  · rw [beat_yes hb]
    have hall := right_all h
    obtain ⟨h0, h8, hm, hc⟩ := (btRight_iff l).1 h
    have hlast := last_get l h0
    have hb2 := hb
    unfold btBehind at hb2
    simp only [Bool.and_eq_true] at hb2
    rw [btRight_iff]
    have hlen : ((l ++ [Bt.mk s n]).drop (l.length + 1 - 8)).length = l.length + 1 - (l.length + 1 - 8) := by simp
    refine ⟨by rw [hlen]; omega, by rw [hlen]; omega, ?_, ?_⟩
    · rw [List.getElem_drop]
      by_cases hk : l.length + 1 - 8 + 0 < l.length
      · rw [List.getElem_append_left hk]; exact hall _ hk
      · omega
    · intro k hk
      rw [hlen] at hk
      rw [List.getElem_drop, List.getElem_drop]
      by_cases hk1 : l.length + 1 - 8 + (k + 1) < l.length
      · rw [List.getElem_append_left hk1, List.getElem_append_left (by omega)]
        exact hc (l.length + 1 - 8 + k) (by omega)
      · rw [List.getElem_append_right (by omega), List.getElem_append_left (by omega)]
        have e1 : l.length + 1 - 8 + (k + 1) - l.length = 0 := by omega
        have e2 : l.length + 1 - 8 + k = l.length - 1 := by omega
        simp only [e1, e2, List.getElem_cons_zero]
        rw [← hlast]; exact hb
theorem beat_last {l : List Bt} {s n : Int} (h0 : 0 < l.length) (h8 : l.length ≤ 8) : btLast (btBeat l s n).1 = if (btBeat l s n).2 = true then ⟨s, n⟩ else btLast l := by
  cases hb : btBehind ⟨s, n⟩ (btLast l)
  · rw [beat_no hb]; rfl
  · rw [beat_yes hb]
    simp only [if_true]
    unfold btLast
    rw [List.getLast?_drop, if_neg (by simp; omega)]
    simp
theorem deadline_bd {l : List Bt} (h : btRight l = true) : (btLast l).at_ + 1 ≤ btDeadline l ∨ 1099511627776 ≤ btDeadline l := by
  have := right_last h
  unfold btDeadline add
  rw [clamp_id (n := (btLast l).at_) (by omega) (by omega)]
  have e : clamp 1 = 1 := by decide
  have e2 : clamp 40 = 40 := by decide
  rw [e, e2]; omega
theorem deadline_le {l : List Bt} (h : btRight l = true) : btDeadline l ≤ (btLast l).at_ + 40 ∧ btDeadline l ≤ 1099511627776 ∧ 0 ≤ btDeadline l := by
  have := right_last h
  unfold btDeadline add
  rw [clamp_id (n := (btLast l).at_) (by omega) (by omega)]
  have e : clamp 1 = 1 := by decide
  have e2 : clamp 40 = 40 := by decide
  rw [e, e2]; omega
theorem add_small (a b : Int) (h0 : 0 ≤ a) (h1 : 0 ≤ b) (h2 : a + b ≤ 1099511627776) : add a b = a + b := by
  unfold add; rw [clamp_id h0 (by omega), clamp_id h1 (by omega)]; omega
theorem by_small (m : Int) (h0 : 0 ≤ m) (h1 : m ≤ 1099511627766) : sum [m, 4, 6] = m + 10 := by
  show add (add (add 0 m) 4) 6 = _
  rw [add_small 0 m (by omega) h0 (by omega), Int.zero_add, add_small m 4 h0 (by omega) (by omega), add_small (m + 4) 6 (by omega) (by omega) (by omega)]; omega
/-! ### even beats -/
def evenRow (now : Int) (i : Nat) : List Bt := ((List.range (i + 1)).drop (i + 1 - 8)).map fun q : Nat => ⟨(q : Int), now + 4 * (q : Int)⟩
theorem even_len (now : Int) (i : Nat) : (evenRow now i).length = i + 1 - (i + 1 - 8) := by unfold evenRow; rw [List.length_map, List.length_drop, List.length_range]
theorem even_get (now : Int) (i k : Nat) (h : k < (evenRow now i).length) : (evenRow now i)[k] = ⟨((i + 1 - 8 + k : Nat) : Int), now + 4 * ((i + 1 - 8 + k : Nat) : Int)⟩ := by
  have h' : k < (((List.range (i + 1)).drop (i + 1 - 8)).map fun q : Nat => (⟨(q : Int), now + 4 * (q : Int)⟩ : Bt)).length := h
  have : (((List.range (i + 1)).drop (i + 1 - 8)).map fun q : Nat => (⟨(q : Int), now + 4 * (q : Int)⟩ : Bt))[k]'h' = ⟨((i + 1 - 8 + k : Nat) : Int), now + 4 * ((i + 1 - 8 + k : Nat) : Int)⟩ := by
    rw [List.getElem_map, List.getElem_drop, List.getElem_range]
  exact this
theorem even_last (now : Int) (i : Nat) : btLast (evenRow now i) = ⟨i, now + 4 * i⟩ := by
  have hl := even_len now i
  rw [last_get _ (by omega), even_get]
  have : i + 1 - 8 + ((evenRow now i).length - 1) = i := by omega
  rw [this]
theorem even_beat (now : Int) (i : Nat) (h0 : 0 ≤ now) (h1 : now ≤ 1073741824) (hi : i ≤ 1000) : btBeat (evenRow now i) (i + 1) (now + 4 * (i + 1)) = (evenRow now (i + 1), true) := by
  rw [beat_yes]
  · rw [even_len]
    congr 1
    unfold evenRow
    have e : ((List.range (i + 1)).drop (i + 1 - 8)).map (fun q : Nat => (⟨(q : Int), now + 4 * (q : Int)⟩ : Bt)) ++ [⟨(i : Int) + 1, now + 4 * ((i : Int) + 1)⟩] = ((List.range (i + 2)).drop (i + 1 - 8)).map (fun q : Nat => (⟨(q : Int), now + 4 * (q : Int)⟩ : Bt)) := by
      rw [List.range_succ (n := i + 1), List.drop_append_of_le_length (by rw [List.length_range]; omega), List.map_append]
      simp
    rw [e, ← List.map_drop, List.drop_drop]
    congr 2
    omega
  · rw [even_last, behind_iff]
    simp only
    omega
theorem map_const {α : Type} (f : α → Int) (c : Int) : ∀ l : List α, (∀ x ∈ l, f x = c) → l.map f = List.replicate l.length c
  | [], _ => rfl
  | a :: l, h => by rw [List.map_cons, h a (by simp), map_const f c l (fun x hx => h x (by simp [hx]))]; rfl
theorem sum_like (c : Int) (h0 : 0 ≤ c) : ∀ k : Nat, (k : Int) * c ≤ 1099511627776 → sum (List.replicate k c) = k * c
  | 0, _ => by simp [sum]
  | k + 1, h => by
    have hc : ((k + 1 : Nat) : Int) * c = k * c + c := by rw [Int.natCast_add, Int.add_mul]; simp
    have hk : 0 ≤ (k : Int) * c := Int.mul_nonneg (by omega) h0
    have ih := sum_like c h0 k (by omega)
    rw [List.replicate_succ', sum, List.foldl_append]
    show add (sum (List.replicate k c)) c = _
    rw [ih, hc]
    unfold add
    rw [clamp_id hk (by omega), clamp_id h0 (by omega)]
    omega
theorem even_deadline (now : Int) (i : Nat) (h0 : 0 ≤ now) (h1 : now ≤ 1073741824) (hi : i ≤ 1000) : btDeadline (evenRow now i) = now + 4 * i + 10 := by
  have ha : btAwaited (evenRow now i) = List.replicate (evenRow now i).length (now + 4 * i) := by
    unfold btAwaited
    refine map_const _ _ _ fun b hb => ?_
    obtain ⟨k, hk, rfl⟩ := List.getElem_of_mem hb
    rw [even_get, even_last]
    have hlen := even_len now i
    simp only
    have e : mul 4 ((i : Int) - ((i + 1 - 8 + k : Nat) : Int)) = 4 * ((i : Int) - ((i + 1 - 8 + k : Nat) : Int)) := by
      unfold mul
      rw [clamp_id (n := 4) (by omega) (by omega), clamp_id (by omega) (by omega)]
      omega
    rw [e]
    unfold add
    rw [clamp_id (by omega) (by omega), clamp_id (by omega) (by omega)]
    omega
  have hlen := even_len now i
  generalize hn : (evenRow now i).length = n at *
  have hs : sum (btAwaited (evenRow now i)) = n * (now + 4 * i) := by
    rw [ha]
    refine sum_like _ (by omega) n ?_
    have h8 : (n : Int) * (now + 4 * i) ≤ 8 * (now + 4 * i) := Int.mul_le_mul_of_nonneg_right (by omega) (by omega)
    omega
  have hm : mean (btAwaited (evenRow now i)) = now + 4 * i := by
    have hal : (btAwaited (evenRow now i)).length = n := by rw [ha]; simp
    unfold mean
    rw [hs, hal, show max n 1 = n by omega, Int.mul_ediv_cancel_left _ (by omega)]
  unfold btDeadline
  rw [hm, even_last]
  simp only
  rw [by_small _ (by omega) (by omega), add_small _ 40 (by omega) (by omega) (by omega), add_small _ 1 (by omega) (by omega) (by omega)]
  omega
theorem start_even (now : Int) (h0 : 0 ≤ now) (h1 : now ≤ 1073741824) : [Bt.mk 0 (clamp now)] = evenRow now 0 := by
  rw [clamp_id h0 (by omega)]; simp [evenRow]

theorem even_right (now : Int) (h0 : 0 ≤ now) (h1 : now ≤ 1073741824) : ∀ i : Nat, i ≤ 1000 → btRight (evenRow now i) = true
  | 0, _ => by
    have : evenRow now 0 = [⟨0, now⟩] := by simp [evenRow]
    rw [this]
    simp [btRight, btChain, btMay]
    omega
  | i + 1, hi => by
    have := beat_right ((i : Int) + 1) (now + 4 * ((i : Int) + 1)) (even_right now h0 h1 i (by omega))
    rw [even_beat now i h0 h1 (by omega)] at this
    exact this
/-! ### all moved -/
def btShift (k : Int) (l : List Bt) : List Bt := l.map fun b => ⟨b.seq, b.at_ + k⟩
theorem shift_last (k : Int) {l : List Bt} (h : 0 < l.length) : btLast (btShift k l) = ⟨(btLast l).seq, (btLast l).at_ + k⟩ := by
  rw [last_get l h, last_get _ (by simpa [btShift] using h)]
  simp [btShift]
theorem chain_mono {l : List Bt} (h : btRight l = true) : ∀ j (hj : j < l.length) i (hi : i ≤ j), (l[i]'(by omega)).seq ≤ l[j].seq ∧ (l[i]'(by omega)).at_ ≤ l[j].at_ := by
  obtain ⟨h0, h8, hm, hc⟩ := (btRight_iff l).1 h
  intro j
  induction j with
  | zero => intro hj i hi; obtain rfl : i = 0 := by omega
            exact ⟨Int.le_refl _, Int.le_refl _⟩
  | succ j ih =>
    intro hj i hi
    have h1 := (behind_iff _ _).1 (hc j hj)
    by_cases e : i = j + 1
    · subst e; exact ⟨Int.le_refl _, Int.le_refl _⟩
    · have := ih (by omega) i (by omega)
      omega
theorem shift_right (k : Int) {l : List Bt} (h : btRight l = true) (h0 : 0 ≤ k) (h1 : k ≤ 1073741824) (ha : ∀ b ∈ l, b.at_ ≤ 1073741824) : btRight (btShift k l) = true := by
  obtain ⟨hp, h8, hm, hc⟩ := (btRight_iff l).1 h
  rw [btRight_iff]
  refine ⟨by simpa [btShift] using hp, by simpa [btShift] using h8, ?_, ?_⟩
  · rw [may_iff] at hm ⊢
    have := ha l[0] (by simp)
    simp only [btShift, List.getElem_map]
    omega
  · intro i hi
    simp only [btShift, List.length_map] at hi
    have := (behind_iff _ _).1 (hc i hi)
    have h2 := ha l[i + 1] (by simp)
    rw [behind_iff]
    simp only [btShift, List.getElem_map]
    omega
theorem sum_eq : ∀ (l : List Int) (a : Int), 0 ≤ a → (∀ x ∈ l, 0 ≤ x) → a + l.sum ≤ 1099511627776 → l.foldl add a = a + l.sum
  | [], a, _, _, _ => by simp
  | x :: l, a, h0, hx, hs => by
    rw [List.sum_cons] at hs ⊢
    have h1 : 0 ≤ l.sum := by
      have : ∀ l : List Int, (∀ x ∈ l, 0 ≤ x) → 0 ≤ l.sum := by
        intro l; induction l with
        | nil => simp
        | cons a l ih => intro h; rw [List.sum_cons]; have := h a (by simp); have := ih (fun x hx => h x (by simp [hx])); omega
      exact this l (fun x h => hx x (by simp [h]))
    have hxx := hx x (by simp)
    have e : add a x = a + x := by unfold add; rw [clamp_id h0 (by omega), clamp_id hxx (by omega)]; omega
    rw [List.foldl_cons, e, sum_eq l (a + x) (by omega) (fun y hy => hx y (by simp [hy])) (by omega)]
    omega
theorem sum_add_const (f g : Bt → Int) (k : Int) : ∀ l : List Bt, (∀ b ∈ l, g b = f b + k) → (l.map g).sum = (l.map f).sum + l.length * k
  | [], _ => by simp
  | b :: l, h => by
    rw [List.map_cons, List.map_cons, List.sum_cons, List.sum_cons, sum_add_const f g k l (fun x hx => h x (by simp [hx])), h b (by simp), List.length_cons, Int.natCast_add, Int.add_mul]
    simp; omega
theorem sum_le_len (c : Int) (f : Bt → Int) : ∀ l : List Bt, (∀ b ∈ l, 0 ≤ f b ∧ f b ≤ c) → 0 ≤ (l.map f).sum ∧ (l.map f).sum ≤ l.length * c
  | [], _ => by simp
  | b :: l, h => by
    have h1 := h b (by simp)
    have h2 := sum_le_len c f l (fun x hx => h x (by simp [hx]))
    rw [List.map_cons, List.sum_cons, List.length_cons, Int.natCast_add, Int.add_mul]
    simp; omega
theorem dl_shift (M a k : Int) (m0 : 0 ≤ M) (m1 : M ≤ 1077936128) (a0 : 0 ≤ a) (a1 : a ≤ 1073741824) (h0 : 0 ≤ k) (h1 : k ≤ 1073741824) :
    max (min (sum [M + k, 4, 6]) (add (a + k) 40)) (add (a + k) 1) = max (min (sum [M, 4, 6]) (add a 40)) (add a 1) + k := by
  rw [by_small (M + k) (by omega) (by omega), by_small M (by omega) (by omega), add_small (a + k) 40 (by omega) (by omega) (by omega), add_small (a + k) 1 (by omega) (by omega) (by omega), add_small a 40 (by omega) (by omega) (by omega), add_small a 1 (by omega) (by omega) (by omega)]
  omega
set_option maxHeartbeats 1000000 in
theorem shift_deadline (k : Int) {l : List Bt} (h : btRight l = true) (h0 : 0 ≤ k) (h1 : k ≤ 1073741824) (ha : ∀ b ∈ l, b.at_ ≤ 1073741824) (hd : (btLast l).seq - (l[0]'(right_pos h).1).seq ≤ 1048576) :
    btDeadline (btShift k l) = btDeadline l + k := by
  obtain ⟨hp, h8⟩ := right_pos h
  have hl := last_get l hp
  have hmono := chain_mono h
  have hb : ∀ b ∈ l, 0 ≤ b.at_ ∧ b.at_ ≤ 1073741824 ∧ 0 ≤ (btLast l).seq - b.seq ∧ (btLast l).seq - b.seq ≤ 1048576 := by
    intro b hbm
    have h3 := ha b hbm
    obtain ⟨i, hi, rfl⟩ := List.getElem_of_mem hbm
    have h1 := (may_iff _).1 (right_all h i hi)
    have h2 := hmono (l.length - 1) (by omega) i (by omega)
    have h4 := hmono i hi 0 (by omega)
    rw [← hl] at h2
    omega
  obtain ⟨f, hff⟩ : ∃ f : Bt → Int, ∀ b, f b = b.at_ + 4 * ((btLast l).seq - b.seq) := ⟨_, fun _ => rfl⟩
  obtain ⟨g, hgg⟩ : ∃ g : Bt → Int, ∀ b, g b = b.at_ + 4 * ((btLast l).seq - b.seq) + k := ⟨_, fun _ => rfl⟩
  have e4 : clamp 4 = 4 := by decide
  have hf : btAwaited l = l.map f := by
    unfold btAwaited
    refine List.map_congr_left fun b hbm => ?_
    have := hb b hbm
    rw [hff]
    have em : mul 4 ((btLast l).seq - b.seq) = 4 * ((btLast l).seq - b.seq) := by unfold mul; rw [e4, clamp_id (by omega) (by omega)]; omega
    rw [em]
    unfold add
    rw [clamp_id (by omega) (by omega), clamp_id (by omega) (by omega)]; omega
  have hg : btAwaited (btShift k l) = l.map g := by
    unfold btAwaited
    rw [shift_last k hp]
    unfold btShift
    rw [List.map_map]
    refine List.map_congr_left fun b hbm => ?_
    have := hb b hbm
    show add (b.at_ + k) (mul 4 ((btLast l).seq - b.seq)) = g b
    rw [hgg]
    have em : mul 4 ((btLast l).seq - b.seq) = 4 * ((btLast l).seq - b.seq) := by unfold mul; rw [e4, clamp_id (by omega) (by omega)]; omega
    rw [em]
    unfold add
    rw [clamp_id (by omega) (by omega), clamp_id (by omega) (by omega)]; omega
  have hfb := sum_le_len 1077936128 f l (fun b hbm => by have := hb b hbm; rw [hff]; omega)
  have hgb := sum_le_len 2151677952 g l (fun b hbm => by have := hb b hbm; rw [hgg]; omega)
  have hn : (l.length : Int) ≤ 8 := by omega
  have hsf : sum (l.map f) = (l.map f).sum := by
    unfold sum
    rw [sum_eq _ 0 (by omega) (fun x hx => by obtain ⟨b, hbm, rfl⟩ := List.mem_map.1 hx; have := hb b hbm; rw [hff]; omega) (by omega)]; omega
  have hsg : sum (l.map g) = (l.map g).sum := by
    unfold sum
    rw [sum_eq _ 0 (by omega) (fun x hx => by obtain ⟨b, hbm, rfl⟩ := List.mem_map.1 hx; have := hb b hbm; rw [hgg]; omega) (by omega)]; omega
  have hm : mean (btAwaited (btShift k l)) = mean (btAwaited l) + k := by
    rw [hf, hg]
    unfold mean
    rw [hsf, hsg, sum_add_const f g k l (fun b _ => by rw [hff, hgg]), List.length_map, List.length_map, show max l.length 1 = l.length by omega]
    rw [Int.mul_comm (l.length : Int) k, Int.add_mul_ediv_right _ _ (by omega)]
  have hmb : 0 ≤ mean (btAwaited l) ∧ mean (btAwaited l) ≤ 1077936128 := by
    rw [hf]; unfold mean
    rw [hsf, List.length_map, show max l.length 1 = l.length by omega]
    refine ⟨Int.ediv_nonneg hfb.1 (by omega), ?_⟩
    have := Int.ediv_le_ediv (c := (l.length : Int)) (by omega) hfb.2
    rw [Int.mul_ediv_cancel_left _ (by omega)] at this
    exact this
  have hlb := hb (btLast l) (by rw [hl]; simp)
  unfold btDeadline
  rw [hm, shift_last k hp]
  exact dl_shift _ _ _ (by omega) (by omega) (by omega) (by omega) h0 h1
/-! ### later -/
theorem add_mono2 {a b : Int} (c : Int) (h : a ≤ b) : add c a ≤ add c b := by rw [add_comm' c a, add_comm' c b]; exact add_mono c h
theorem later_ok {l : List Bt} {s n n' : Int} (h : btBehind ⟨s, n⟩ (btLast l) = true) (hn : n ≤ n') (hm : n' ≤ 1099511627776) : btBehind ⟨s, n'⟩ (btLast l) = true := by
  rw [behind_iff] at h ⊢
  simp only at h ⊢
  omega
theorem row_last (l : List Bt) (b : Bt) (h8 : l.length ≤ 8) : btLast ((l ++ [b]).drop (l.length + 1 - 8)) = b := by
  unfold btLast
  rw [List.getLast?_drop, if_neg (by simp; omega)]
  simp
theorem later_deadline {l : List Bt} {s n n' : Int} (h8 : l.length ≤ 8) (hn : n ≤ n') : btDeadline ((l ++ [Bt.mk s n]).drop (l.length + 1 - 8)) ≤ btDeadline ((l ++ [Bt.mk s n']).drop (l.length + 1 - 8)) := by
  obtain ⟨xs, hxs⟩ : ∃ xs, xs = (l.drop (l.length + 1 - 8)).map fun b => add b.at_ (mul 4 (s - b.seq)) := ⟨_, rfl⟩
  have ha : ∀ n, btAwaited ((l ++ [Bt.mk s n]).drop (l.length + 1 - 8)) = xs ++ [add n (mul 4 (s - s))] := by
    intro n
    unfold btAwaited
    rw [row_last l _ h8, List.drop_append_of_le_length (by omega), List.map_append, hxs]
    rfl
  have h1 : ∀ x y : Int, x ≤ y → mean (xs ++ [x]) ≤ mean (xs ++ [y]) := by
    intro x y hxy
    unfold mean
    have e : (xs ++ [x]).length = (xs ++ [y]).length := by simp
    rw [e]
    refine Int.ediv_le_ediv (by omega) ?_
    unfold sum
    rw [List.foldl_append, List.foldl_append]
    exact add_mono2 _ hxy
  have h2 := h1 _ _ (add_mono (mul 4 (s - s)) hn)
  have h3 := add_mono 40 hn
  have h4 := add_mono 1 hn
  have h5 : sum [mean (xs ++ [add n (mul 4 (s - s))]), 4, 6] ≤ sum [mean (xs ++ [add n' (mul 4 (s - s))]), 4, 6] := add_mono 6 (add_mono 4 (add_mono2 0 h2))
  unfold btDeadline
  rw [ha, ha, row_last l _ h8, row_last l _ h8]
  simp only
  omega
/-! ### only the last eight -/
def Tail (n : Nat) (l m : List Bt) : Prop := min n 8 ≤ l.length ∧ min n 8 ≤ m.length ∧ l.length ≤ 8 ∧ m.length ≤ 8 ∧ l.drop (l.length - min n 8) = m.drop (m.length - min n 8)
theorem tail_zero {l m : List Bt} (hl : l.length ≤ 8) (hm : m.length ≤ 8) : Tail 0 l m := by
  refine ⟨by simp, by simp, hl, hm, ?_⟩
  simp
theorem tail_same {n : Nat} {l m : List Bt} (h : Tail n l m) (hn : 8 ≤ n) : l = m := by
  obtain ⟨h1, h2, h3, h4, h5⟩ := h
  rw [show l.length - min n 8 = 0 by omega, show m.length - min n 8 = 0 by omega] at h5
  simpa using h5
theorem tail_one (k : Nat) (l : List Bt) (b : Bt) (h8 : l.length ≤ 8) (hk : min k 8 ≤ l.length) :
    ((l ++ [b]).drop (l.length + 1 - 8)).drop (((l ++ [b]).drop (l.length + 1 - 8)).length - min (k + 1) 8) = ((l.drop (l.length - min k 8)) ++ [b]).drop (min k 8 + 1 - min (k + 1) 8) := by
  rw [List.drop_drop, List.length_drop, List.length_append, List.length_singleton]
  have e : l.drop (l.length - min k 8) ++ [b] = (l ++ [b]).drop (l.length - min k 8) := by rw [List.drop_append_of_le_length (by omega)]
  rw [e, List.drop_drop]
  congr 1
  omega
theorem tail_step {n : Nat} {l m : List Bt} (b : Bt) (h : Tail n l m) : Tail (n + 1) ((l ++ [b]).drop (l.length + 1 - 8)) ((m ++ [b]).drop (m.length + 1 - 8)) := by
  obtain ⟨h1, h2, h3, h4, h5⟩ := h
  refine ⟨?_, ?_, ?_, ?_, ?_⟩
  · simp; omega
  · simp; omega
  · simp; omega
  · simp; omega
  · rw [tail_one n l b h3 h1, tail_one n m b h4 h2, h5]
end Nj

/-
  PLAIN LAWS about what is on its way: what is right stays right, act by act. No program. No condition.
-/
import Derived.Test.YteilgibfmljoeaaSend10
set_option linter.unusedVariables false
set_option linter.unusedSimpArgs false
namespace Nj
theorem chain_lt {n : Int} : ∀ {l : List Fl} {last : Int}, flChain n last l = true → ∀ j (hj : j < l.length), last < l[j].seq ∧ ∀ i (hi : i < j), l[i].seq < l[j].seq
  | [], _, _, j, hj => by simp at hj
  | f :: l, last, h, j, hj => by
    simp only [flChain, Bool.and_eq_true] at h
    have h1 := fits_pos h.1
    cases j with
    | zero => exact ⟨h1, fun i hi => by omega⟩
    | succ j =>
      have ih := chain_lt h.2 j (by simpa using hj)
      simp only [List.getElem_cons_succ]
      refine ⟨by omega, fun i hi => ?_⟩
      cases i with
      | zero => exact ih.1
      | succ i => exact ih.2 i (by omega)
theorem chain_push {n : Int} {x : Fl} (hx : x.seq = n ∧ x.tries = 1 ∧ 0 ≤ x.at_ ∧ x.at_ ≤ 1099511627776) : ∀ {l : List Fl} {last : Int}, flChain n last l = true → last < n → (∀ f ∈ l, n + 1 - f.seq ≤ 8) → flChain (n + 1) last (l ++ [x]) = true
  | [], last, _, hl, _ => by
    simp only [List.nil_append, flChain, flFits, Bool.and_eq_true, decide_eq_true_eq, and_true]
    omega
  | f :: l, last, h, hl, h8 => by
    simp only [flChain, Bool.and_eq_true, flFits, decide_eq_true_eq] at h
    have := h8 f (by simp)
    simp only [List.cons_append, flChain, Bool.and_eq_true]
    refine ⟨?_, chain_push hx h.2 (by omega) fun g hg => h8 g (by simp [hg])⟩
    simp only [flFits, Bool.and_eq_true, decide_eq_true_eq]
    omega
theorem room_facts {s : Sd} (h : 0 < sdRoom s) : (s.fl.length : Int) < s.cwnd ∧ sdSpan s < 8 ∧ s.next < 1073741824 := by
  unfold sdRoom at h; omega
theorem room_bound {s : Sd} (h : RightSd s) : 0 ≤ sdRoom s ∧ sdRoom s ≤ 8 := by
  have := h.c1
  unfold sdRoom; omega
theorem span_all {s : Sd} (h : sdRight s = true) (k : Int) (hs : sdSpan s ≤ k) : ∀ f ∈ s.fl, s.next - f.seq ≤ k := by
  obtain ⟨nx, l, cw, ac⟩ := s
  intro f hf
  dsimp only at *
  have hc : flChain nx 0 l = true := by simp only [sdRight, Bool.and_eq_true] at h; exact h.1
  obtain ⟨j, hj, rfl⟩ := List.getElem_of_mem hf
  have hs0 : sdSpan ⟨nx, l, cw, ac⟩ = nx - (l[0]'(by omega)).seq := by
    unfold sdSpan
    cases l with
    | nil => simp at hj
    | cons g l => rfl
  rw [hs0] at hs
  by_cases h0 : j = 0
  · subst h0; exact hs
  · have := (chain_lt hc j hj).2 0 (by omega)
    omega
theorem right_push {s : Sd} {nt : Nt} {now : Int} (h : sdRight s = true) (hr : 0 < sdRoom s) (h0 : 0 ≤ now) (h1 : now ≤ 1099511627776) : sdRight ⟨s.next + 1, s.fl ++ [⟨s.next, nt, now, 1⟩], s.cwnd, s.acc⟩ = true := by
  have R := rightSd h
  obtain ⟨r1, r2, r3⟩ := room_facts hr
  have hs := span_all h 7 (by omega)
  have hc : flChain s.next 0 s.fl = true := by simp only [sdRight, Bool.and_eq_true] at h; exact h.1
  have := R.n0; have := R.n1; have := R.c0; have := R.c1; have := R.a0; have := R.a1
  simp only [sdRight, sdEnds, Bool.and_eq_true, decide_eq_true_eq, List.length_append, List.length_cons, List.length_nil]
  refine ⟨chain_push (n := s.next) (last := 0) (x := ⟨s.next, nt, now, 1⟩) ⟨rfl, rfl, h0, h1⟩ hc (by omega) (fun f hf => by have := hs f hf; omega), ?_⟩
  refine ⟨by omega, by omega, by omega, by omega, by omega, by omega, by omega⟩
theorem growF_ok : ∀ (k : Nat) (a c : Int), 0 ≤ a → a ≤ k → 1 ≤ c → c ≤ 8 → 0 ≤ (growF k a c).1 ∧ (growF k a c).1 < (growF k a c).2 ∧ c ≤ (growF k a c).2 ∧ (growF k a c).2 ≤ 8
  | 0, a, c, h0, h1, h2, h3 => by simp only [growF]; omega
  | k + 1, a, c, h0, h1, h2, h3 => by
    unfold growF
    split
    · have := growF_ok k (a - c) (min (c + 1) 8) (by omega) (by omega) (by omega) (by omega)
      omega
    · simp only; omega
theorem chain_filter {n : Int} {q : Fl → Bool} : ∀ {l : List Fl} {last last' : Int}, flChain n last l = true → last' ≤ last → flChain n last' (l.filter q) = true
  | [], _, _, _, _ => rfl
  | f :: l, last, last', h, hle => by
    simp only [flChain, Bool.and_eq_true] at h
    have hf := h.1
    simp only [flFits, Bool.and_eq_true, decide_eq_true_eq] at hf
    simp only [List.filter_cons]
    split
    · simp only [flChain, Bool.and_eq_true]
      refine ⟨?_, chain_filter h.2 (Int.le_refl _)⟩
      simp only [flFits, Bool.and_eq_true, decide_eq_true_eq]
      omega
    · exact chain_filter h.2 (by omega)
theorem sample_bound {ack sack now : Int} (hn : now ≤ 1099511627776) : ∀ (l : List Fl) (s : Int), (∀ f ∈ l, 0 ≤ f.at_) → -1 ≤ s → s ≤ 1099511627776 → -1 ≤ l.foldl (sampleOf ack sack now) s ∧ l.foldl (sampleOf ack sack now) s ≤ 1099511627776
  | [], s, _, h0, h1 => ⟨h0, h1⟩
  | f :: l, s, hf, h0, h1 => by
    have := hf f (by simp)
    rw [List.foldl_cons]
    refine sample_bound hn l _ (fun g hg => hf g (by simp [hg])) ?_ ?_ <;> (unfold sampleOf; split <;> omega)
/-- what Acked leaves is right, and what is told of it -/
theorem acked_facts {s : Sd} {ack sack now : Int} (h : sdRight s = true) (hn : now ≤ 1099511627776) {t : Sd} {m : Int} (e : sdAcked s ack sack now = (t, m)) :
    sdRight t = true ∧ t.next = s.next ∧ t.fl.length ≤ s.fl.length ∧ s.cwnd ≤ t.cwnd ∧ -1 ≤ m ∧ m ≤ 1099511627776 := by
  have R := rightSd h
  unfold sdAcked at e
  split at e
  · cases e
    exact ⟨h, rfl, Nat.le_refl _, Int.le_refl _, by omega, by omega⟩
  · simp only [Prod.mk.injEq] at e
    obtain ⟨rfl, rfl⟩ := e
    have hle : (s.fl.filter fun f => !told f.seq ack sack).length ≤ s.fl.length := List.length_filter_le _ _
    have := R.n0; have := R.n1; have := R.c0; have := R.c1; have := R.a0; have := R.a1; have := R.len
    have hg := growF_ok 16 (s.acc + (s.fl.length - (s.fl.filter fun f => !told f.seq ack sack).length)) s.cwnd (by omega) (by omega) (by omega) (by omega)
    have hc : flChain s.next 0 s.fl = true := by simp only [sdRight, Bool.and_eq_true] at h; exact h.1
    have hsm := sample_bound (ack := ack) (sack := sack) hn s.fl (-1) (fun f hf => (R.fl f hf).2.2.2.2.2.1) (by omega) (by omega)
    refine ⟨?_, rfl, hle, hg.2.2.1, hsm.1, hsm.2⟩
    simp only [sdRight, sdEnds, Bool.and_eq_true, decide_eq_true_eq]
    refine ⟨chain_filter hc (Int.le_refl _), ?_⟩
    omega
theorem chain_resend {n seq now : Int} (h0 : 0 ≤ now) (h1 : now ≤ 1099511627776) : ∀ {l : List Fl} {last : Int} {x : List Fl × Fl}, flChain n last l = true → flResend seq now l = some x → flChain n last x.1 = true ∧ x.1.length = l.length
  | [], _, _, _, h => by simp [flResend] at h
  | f :: l, last, x, hc, h => by
    simp only [flChain, Bool.and_eq_true, flFits, decide_eq_true_eq] at hc
    unfold flResend at h
    split at h
    · cases h
      refine ⟨?_, rfl⟩
      show (flFits ⟨f.seq, f.note, now, min (f.tries + 1) 1073741824⟩ last n && flChain n f.seq l) = true
      simp only [Bool.and_eq_true, flFits, decide_eq_true_eq]
      refine ⟨?_, hc.2⟩
      omega
    · rw [Option.map_eq_some_iff] at h
      obtain ⟨y, hy, rfl⟩ := h
      have ih := chain_resend h0 h1 hc.2 hy
      refine ⟨?_, by simp [ih.2]⟩
      simp only [flChain, Bool.and_eq_true, flFits, decide_eq_true_eq]
      exact ⟨hc.1, ih.1⟩
theorem resend_facts {s : Sd} {seq now : Int} (h : sdRight s = true) (h0 : 0 ≤ now) (h1 : now ≤ 1099511627776) {t : Sd} {f : Fl} {ok : Bool} (e : sdResend s seq now = (t, f, ok)) : sdRight t = true ∧ t.next = s.next ∧ t.fl.length = s.fl.length := by
  unfold sdResend at e
  have hh := h
  simp only [sdRight, Bool.and_eq_true] at hh
  cases hx : flResend seq now s.fl with
  | none => rw [hx] at e; cases e; exact ⟨h, rfl, rfl⟩
  | some x =>
    rw [hx] at e; cases e
    have := chain_resend h0 h1 hh.1 hx
    refine ⟨?_, rfl, this.2⟩
    simp only [sdRight, Bool.and_eq_true]
    refine ⟨this.1, ?_⟩
    have h2 := hh.2
    simp only [sdEnds, Bool.and_eq_true, decide_eq_true_eq] at h2 ⊢
    rw [this.2]; exact h2
theorem chain_void {n user : Int} : ∀ {l : List Fl} {last : Int}, flChain n last l = true → flChain n last (l.map (flVoid user)) = true
  | [], _, _ => rfl
  | f :: l, last, h => by
    simp only [flChain, Bool.and_eq_true] at h
    simp only [List.map_cons, flChain, Bool.and_eq_true]
    have e : (flVoid user f).seq = f.seq := by unfold flVoid; split <;> rfl
    rw [e]
    refine ⟨?_, chain_void h.2⟩
    have h1 := h.1
    unfold flVoid
    split <;> exact h1
theorem right_void {s : Sd} {user : Int} (h : sdRight s = true) : sdRight (sdVoid s user) = true := by
  simp only [sdRight, Bool.and_eq_true] at h ⊢
  refine ⟨chain_void h.1, ?_⟩
  have h2 := h.2
  simp only [sdEnds, Bool.and_eq_true, decide_eq_true_eq] at h2 ⊢
  have e : (sdVoid s user).fl.length = s.fl.length := by simp [sdVoid]
  rw [e]
  exact h2
theorem right_lost {s : Sd} (h : sdRight s = true) : sdRight (sdLost s) = true := by
  simp only [sdRight, sdEnds, Bool.and_eq_true, decide_eq_true_eq] at h ⊢
  obtain ⟨h0, h1, h2, h3, h4, h5, h6, h7⟩ := h
  refine ⟨h0, h1, h2, ?_, ?_, ?_, ?_, h7⟩ <;> dsimp only [sdLost] <;> omega
/-- pushes, one by one -/
def fillL (n : Int) (nt : Nt) (now : Int) (l : List Fl) (i : Nat) : List Fl := l ++ (List.range i).map fun j => ⟨n + j, nt, now, 1⟩
theorem fillL_zero (n : Int) (nt : Nt) (now : Int) (l : List Fl) : fillL n nt now l 0 = l := by simp [fillL]
theorem fillL_succ (n : Int) (nt : Nt) (now : Int) (l : List Fl) (i : Nat) : fillL n nt now l (i + 1) = fillL n nt now l i ++ [⟨n + i, nt, now, 1⟩] := by simp [fillL, List.range_succ]
theorem fillL_len (n : Int) (nt : Nt) (now : Int) (l : List Fl) (i : Nat) : (fillL n nt now l i).length = l.length + i := by simp [fillL]
theorem fill_span (n : Int) (nt : Nt) (now : Int) (l : List Fl) (c a : Int) (i : Nat) : sdSpan ⟨n + i, fillL n nt now l i, c, a⟩ = sdSpan ⟨n, l, c, a⟩ + i := by
  cases l with
  | nil =>
    cases i with
    | zero => simp [sdSpan, fillL]
    | succ i => simp [sdSpan, fillL, List.range_succ_eq_map]; omega
  | cons f l => simp [sdSpan, fillL]; omega
theorem fill_room {n : Int} {nt : Nt} {now : Int} {l : List Fl} {c a : Int} {r i : Nat} (hr : sdRoom ⟨n, l, c, a⟩ = r) (hi : i ≤ r) : sdRoom ⟨n + i, fillL n nt now l i, c, a⟩ = r - i := by
  have hs := fill_span n nt now l c a i
  have hl := fillL_len n nt now l i
  unfold sdRoom at hr ⊢
  simp only [hs, hl] at *
  omega
theorem fill_right {n : Int} {nt : Nt} {now : Int} {l : List Fl} {c a : Int} {r : Nat} (hR : sdRight ⟨n, l, c, a⟩ = true) (hr : sdRoom ⟨n, l, c, a⟩ = r) (h0 : 0 ≤ now) (h1 : now ≤ 1099511627776) : ∀ i, i ≤ r → sdRight ⟨n + i, fillL n nt now l i, c, a⟩ = true
  | 0, _ => by simpa [fillL_zero] using hR
  | i + 1, hi => by
    have ih := fill_right (nt := nt) hR hr h0 h1 i (by omega)
    have := right_push (nt := nt) (now := now) ih (by rw [fill_room hr (by omega)]; omega) h0 h1
    rw [fillL_succ]
    simpa [Int.add_assoc] using this
end Nj

/-
  THE PLAIN FUNCTIONS OF PACKAGE rtt, and plain laws about them: no program, no memory. No condition.
-/
set_option linter.unusedVariables false
set_option linter.unusedSimpArgs false
namespace Nj

/-- what is known of round trips -/
structure Rt where
  s : Int
  v : Int
  rto : Int
  fails : Int
  has : Bool
  deriving DecidableEq

def within (n lo hi : Int) : Bool := decide (lo ≤ n) && decide (n ≤ hi)
def rttKnown (e : Rt) : Bool := e.has || (e.s == 0 && e.v == 0)
def rttRight (e : Rt) : Bool := rttKnown e && within e.s 0 32768 && within e.v 0 16384 && within e.rto 2 64 && within e.fails 0 100
def rttStart : Rt := ⟨0, 0, 8, 0, false⟩
def rttNorm (e : Rt) : Rt := if rttRight e = true then e else rttStart
/-- the two estimates -/
def rttS (e : Rt) (n : Int) : Int := if e.has = true then e.s + (n - e.s / 8) else 8 * n
def rttV (e : Rt) (n : Int) : Int := if e.has = true then e.v + (max (n - e.s / 8) (-(n - e.s / 8)) - e.v / 4) else 2 * n
def rttOut (s v : Int) : Rt := ⟨s, v, min (max (s / 8 + max v 1) 2) 64, 0, true⟩
def rttCut (r : Int) : Int := min (max r 0) 4096
def rttSample (e : Rt) (r : Int) : Rt := rttOut (rttS (rttNorm e) (rttCut r)) (rttV (rttNorm e) (rttCut r))
def rttFail (e : Rt) : Rt := ⟨e.s, e.v, min (e.rto * 2) 64, min (e.fails + 1) 100, e.has⟩
def rttBackoff (e : Rt) : Rt := rttFail (rttNorm e)

/-- 'right', in words -/
structure RtOk (e : Rt) : Prop where
  s0 : 0 ≤ e.s
  s1 : e.s ≤ 32768
  v0 : 0 ≤ e.v
  v1 : e.v ≤ 16384
  r0 : 2 ≤ e.rto
  r1 : e.rto ≤ 64
  f0 : 0 ≤ e.fails
  f1 : e.fails ≤ 100
  known : e.has = true ∨ (e.s = 0 ∧ e.v = 0)
theorem right_iff (e : Rt) : rttRight e = true ↔ RtOk e := by
  simp only [rttRight, rttKnown, within, Bool.and_eq_true, Bool.or_eq_true, decide_eq_true_eq, beq_iff_eq]
  constructor
  · rintro ⟨⟨⟨⟨h, a⟩, b⟩, c⟩, d⟩
    exact ⟨a.1, a.2, b.1, b.2, c.1, c.2, d.1, d.2, h⟩
  · intro h
    exact ⟨⟨⟨⟨h.known, h.s0, h.s1⟩, h.v0, h.v1⟩, h.r0, h.r1⟩, h.f0, h.f1⟩
theorem start_ok : RtOk rttStart := ⟨by decide, by decide, by decide, by decide, by decide, by decide, by decide, by decide, by decide⟩
theorem norm_ok (e : Rt) : RtOk (rttNorm e) := by
  unfold rttNorm
  split
  · rename_i h; exact (right_iff e).1 h
  · exact start_ok
theorem norm_right (e : Rt) : rttRight (rttNorm e) = true := (right_iff _).2 (norm_ok e)
theorem norm_of_right {e : Rt} (h : rttRight e = true) : rttNorm e = e := by unfold rttNorm; rw [if_pos h]
theorem norm_norm (e : Rt) : rttNorm (rttNorm e) = rttNorm e := norm_of_right (norm_right e)
theorem cut_bd (r : Int) : 0 ≤ rttCut r ∧ rttCut r ≤ 4096 := by unfold rttCut; omega
theorem cut_id {r : Int} (h0 : 0 ≤ r) (h1 : r ≤ 4096) : rttCut r = r := by unfold rttCut; omega

/-- the estimates stay in their ranges -/
theorem s_bd {e : Rt} (h : RtOk e) {n : Int} (h0 : 0 ≤ n) (h1 : n ≤ 4096) : 0 ≤ rttS e n ∧ rttS e n ≤ 32768 := by
  have := h.s0; have := h.s1
  unfold rttS
  split <;> omega
theorem v_bd {e : Rt} (h : RtOk e) {n : Int} (h0 : 0 ≤ n) (h1 : n ≤ 4096) : 0 ≤ rttV e n ∧ rttV e n ≤ 16384 := by
  have := h.s0; have := h.s1; have := h.v0; have := h.v1
  unfold rttV
  split <;> omega
theorem sample_ok (e : Rt) (r : Int) : RtOk (rttSample e r) := by
  have hs := s_bd (norm_ok e) (cut_bd r).1 (cut_bd r).2
  have hv := v_bd (norm_ok e) (cut_bd r).1 (cut_bd r).2
  unfold rttSample rttOut
  generalize rttS (rttNorm e) (rttCut r) = s at *
  generalize rttV (rttNorm e) (rttCut r) = v at *
  exact ⟨hs.1, hs.2, hv.1, hv.2, by simp only; omega, by simp only; omega, by simp only; omega, by simp only; omega, .inl rfl⟩
theorem fail_ok {e : Rt} (h : RtOk e) : RtOk (rttFail e) := by
  obtain ⟨a, b, c, d, r0, r1, f0, f1, k⟩ := h
  exact ⟨a, b, c, d, by simp only [rttFail]; omega, by simp only [rttFail]; omega, by simp only [rttFail]; omega, by simp only [rttFail]; omega, k⟩
theorem backoff_ok (e : Rt) : RtOk (rttBackoff e) := fail_ok (norm_ok e)
theorem sample_right (e : Rt) (r : Int) : rttRight (rttSample e r) = true := (right_iff _).2 (sample_ok e r)
theorem backoff_right (e : Rt) : rttRight (rttBackoff e) = true := (right_iff _).2 (backoff_ok e)
theorem cut_cut (r : Int) : rttCut (rttCut r) = rttCut r := by unfold rttCut; omega
theorem sample_norm (e : Rt) (r : Int) : rttSample (rttNorm e) (rttCut r) = rttSample e r := by unfold rttSample; rw [norm_norm, cut_cut]
theorem backoff_norm (e : Rt) : rttBackoff (rttNorm e) = rttBackoff e := by unfold rttBackoff; rw [norm_norm]
theorem norm_of_wrong {e : Rt} (h : rttRight e = false) : rttNorm e = rttStart := by unfold rttNorm; rw [if_neg (by simp [h])]
/-- what RttNear says -/
theorem near {s v r : Int} (s0 : 0 ≤ s) (s1 : s ≤ 32768) (v0 : 0 ≤ v) (v1 : v ≤ 16384) (r0 : 0 ≤ r) (r1 : r ≤ 4096) :
    min (s / 8) r ≤ (s + (r - s / 8)) / 8 ∧ (s + (r - s / 8)) / 8 ≤ max (s / 8) r ∧ (s / 8 = r → s + (r - s / 8) = s) ∧
    v + (max (r - s / 8) (-(r - s / 8)) - v / 4) ≤ max v (4 * max (r - s / 8) (s / 8 - r) + 3) := by
  refine ⟨by omega, by omega, by omega, by omega⟩
/-- what holds behind k failures -/
def Waited (e : Rt) (k : Nat) : Prop := k = 0 ∨ (RtOk e ∧ min ((2 ^ (k + 1) : Nat) : Int) 64 ≤ e.rto ∧ min (k : Int) 100 ≤ e.fails)
theorem waited_step {e : Rt} {k : Nat} (h : Waited e k) : Waited (rttBackoff e) (k + 1) := by
  refine .inr ⟨backoff_ok e, ?_, ?_⟩
  · rcases h with rfl | ⟨hok, h1, h2⟩
    · have := (norm_ok e).r0
      simp only [rttBackoff, rttFail]
      have e1 : ((2 ^ (0 + 1 + 1) : Nat) : Int) = 4 := by decide
      omega
    · have hn := norm_of_right ((right_iff e).2 hok)
      simp only [rttBackoff, rttFail, hn]
      rw [Nat.pow_succ 2 (k + 1)]
      generalize 2 ^ (k + 1) = p at *
      omega
  · rcases h with rfl | ⟨hok, h1, h2⟩
    · have := (norm_ok e).f0
      simp only [rttBackoff, rttFail]
      omega
    · have hn := norm_of_right ((right_iff e).2 hok)
      simp only [rttBackoff, rttFail, hn]
      omega
theorem waited_end {e : Rt} (h : Waited e 6) : RtOk e ∧ e.rto = 64 ∧ 6 ≤ e.fails := by
  rcases h with h | ⟨hok, h1, h2⟩
  · cases h
  · have := hok.r1
    have e1 : ((2 ^ (6 + 1) : Nat) : Int) = 128 := by decide
    exact ⟨hok, by omega, by omega⟩
theorem sample_fresh {e : Rt} (hok : RtOk e) (hh : e.has = false) {r : Int} (r0 : 0 ≤ r) (r1 : r ≤ 10) : (rttSample e r).rto = max 2 (r + max 1 (2 * r)) := by
  have hn := norm_of_right ((right_iff e).2 hok)
  have hc := cut_id r0 (show r ≤ 4096 by omega)
  unfold rttSample
  rw [hn, hc]
  simp only [rttOut, rttS, rttV, hh]
  simp
  omega
/-- what holds behind k round trips of r -/
def LikeAt (e : Rt) (r : Int) (k : Nat) : Prop := (k = 0 ∧ e = rttStart) ∨ (0 < k ∧ RtOk e ∧ e.has = true ∧ e.s = 8 * r)
theorem like_step {e : Rt} {r : Int} {k : Nat} (h : LikeAt e r k) (r0 : 0 ≤ r) (r1 : r ≤ 4096) : LikeAt (rttSample e r) r (k + 1) ∧ (rttSample e r).s = 8 * r ∧ (0 < k → (rttSample e r).v ≤ e.v) := by
  have hc := cut_id r0 r1
  rcases h with ⟨rfl, rfl⟩ | ⟨hk, hok, hh, hs⟩
  · have e1 : (rttSample rttStart r).s = 8 * r := by
      unfold rttSample; rw [hc, norm_of_right ((right_iff _).2 start_ok)]; rfl
    exact ⟨.inr ⟨by omega, sample_ok _ _, rfl, e1⟩, e1, by omega⟩
  · have hn := norm_of_right ((right_iff e).2 hok)
    have e1 : (rttSample e r).s = 8 * r := by
      unfold rttSample; rw [hc, hn]; simp only [rttOut, rttS, hh]; simp; omega
    refine ⟨.inr ⟨by omega, sample_ok _ _, rfl, e1⟩, e1, fun _ => ?_⟩
    have := hok.v0
    unfold rttSample; rw [hc, hn]; simp only [rttOut, rttV, hh]; simp; omega
end Nj

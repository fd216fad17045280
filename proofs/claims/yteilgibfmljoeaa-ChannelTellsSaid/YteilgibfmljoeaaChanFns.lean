/-
  THE PLAIN FUNCTIONS OF PACKAGE channel: no program, no memory. No condition.
-/
import Derived.Test.YteilgibfmljoeaaSendPlain
import Derived.Test.YteilgibfmljoeaaRttFns
set_option linter.unusedVariables false
set_option linter.unusedSimpArgs false
namespace Nj
structure Ch where
  send : Sd
  rtt : Rt
  deriving DecidableEq
def chStart : Ch := ⟨sdStart, rttStart⟩
def chRight (c : Ch) : Bool := sdRight c.send && rttRight c.rtt
def chPush (c : Ch) (n : Nt) (now : Int) : Ch × Fl × Bool := (⟨(sdPush c.send n now).1, c.rtt⟩, (sdPush c.send n now).2)
def chAck (c : Ch) (ack sack now : Int) : Ch :=
  ⟨(sdAcked c.send ack sack now).1, if 0 ≤ (sdAcked c.send ack sack now).2 then rttSample c.rtt (sdAcked c.send ack sack now).2 else c.rtt⟩
/-- those of a row of numbers, sent again one by one -/
def tickL (now : Int) : Sd → List Int → Sd × List Fl
  | s, [] => (s, [])
  | s, q :: l => ((tickL now (sdResend s q now).1 l).1, (sdResend s q now).2.1 :: (tickL now (sdResend s q now).1 l).2)
def chTick (c : Ch) (now most : Int) : Ch × List Fl :=
  let due := sdDue c.send now c.rtt.rto
  if due = [] ∨ most < 1 then (c, []) else (⟨(tickL now (sdLost c.send) (due.take most.toNat)).1, rttBackoff c.rtt⟩, (tickL now (sdLost c.send) (due.take most.toNat)).2)
def chVoid (c : Ch) (user : Int) : Ch := ⟨sdVoid c.send user, c.rtt⟩
theorem tickL_append (now : Int) : ∀ (l m : List Int) (s : Sd), tickL now s (l ++ m) = ((tickL now (tickL now s l).1 m).1, (tickL now s l).2 ++ (tickL now (tickL now s l).1 m).2)
  | [], m, s => by simp [tickL]
  | q :: l, m, s => by simp [tickL, tickL_append now l m]
theorem tickL_len (now : Int) : ∀ (l : List Int) (s : Sd), (tickL now s l).2.length = l.length
  | [], s => rfl
  | q :: l, s => by simp [tickL, tickL_len now l]
theorem tickL_snoc {now : Int} {s : Sd} {l : List Int} {q : Int} {t : Sd} {o : List Fl} (h : tickL now s l = (t, o)) {t' : Sd} {f : Fl} {ok : Bool} (hr : sdResend t q now = (t', f, ok)) : tickL now s (l ++ [q]) = (t', o ++ [f]) := by
  rw [tickL_append, h]; simp [tickL, hr]
theorem tickL_right {now : Int} (h0 : 0 ≤ now) (h1 : now ≤ 1099511627776) : ∀ (l : List Int) (s : Sd), sdRight s = true → sdRight (tickL now s l).1 = true ∧ (tickL now s l).1.next = s.next ∧ (tickL now s l).1.fl.length = s.fl.length ∧ (tickL now s l).1.cwnd = s.cwnd ∧ (tickL now s l).1.acc = s.acc
  | [], s, h => ⟨h, rfl, rfl, rfl, rfl⟩
  | q :: l, s, h => by
    obtain ⟨t, f, ok, e⟩ : ∃ t f ok, sdResend s q now = (t, f, ok) := ⟨_, _, _, rfl⟩
    have hf := resend_facts h h0 h1 e
    have he : t.cwnd = s.cwnd ∧ t.acc = s.acc := by
      unfold sdResend at e
      split at e <;> cases e <;> exact ⟨rfl, rfl⟩
    have ih := tickL_right h0 h1 l t hf.1
    simp only [tickL, e]
    exact ⟨ih.1, ih.2.1.trans hf.2.1, ih.2.2.1.trans hf.2.2, ih.2.2.2.1.trans he.1, ih.2.2.2.2.trans he.2⟩
theorem acked_all {s : Sd} {now : Int} (h : sdRight s = true) : ∃ g m, sdAcked s (s.next - 1) 0 now = (⟨s.next, [], g, m⟩, (sdAcked s (s.next - 1) 0 now).2) := by
  have R := rightSd h
  have h1 : ¬ (s.next - 1 < 0 ∨ s.next ≤ s.next - 1) := by have := R.n0; omega
  have h2 : s.fl.filter (fun f => !told f.seq (s.next - 1) 0) = [] := by
    rw [List.filter_eq_nil_iff]
    intro f hf
    have := R.fl f hf
    have e : told f.seq (s.next - 1) 0 = true := by unfold told; simp; omega
    simp [e]
  unfold sdAcked
  rw [if_neg h1]
  simp only [h2]
  exact ⟨_, _, rfl⟩
end Nj

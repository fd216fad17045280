/-
  THE PLAIN FUNCTIONS OF PACKAGE send, and plain laws about them: no program, no memory. No condition.
-/
import Derived.Test.YtlmkkfigmoefdaaFns
set_option linter.unusedVariables false
set_option linter.unusedSimpArgs false
namespace Nj
/-- a note -/
structure Nt where
  user : Int
  ver : Int
  stat : Int
  cnt : Int
  deriving DecidableEq
/-- a flight -/
structure Fl where
  seq : Int
  note : Nt
  at_ : Int
  tries : Int
  deriving DecidableEq
/-- what is on its way -/
structure Sd where
  next : Int
  fl : List Fl
  cwnd : Int
  acc : Int
  deriving DecidableEq
def nt0 : Nt := ⟨0, 0, 0, 0⟩
def fl0 : Fl := ⟨0, nt0, 0, 0⟩
def sdStart : Sd := ⟨1, [], 1, 0⟩
def flFits (f : Fl) (last next : Int) : Bool :=
  decide (last < f.seq) && (decide (f.seq < next) && (decide (next - f.seq ≤ 8) && (decide (1 ≤ f.tries) && (decide (f.tries ≤ 1073741824) && (decide (0 ≤ f.at_) && decide (f.at_ ≤ 1099511627776))))))
def flChain (next : Int) : Int → List Fl → Bool
  | _, [] => true
  | last, f :: l => flFits f last next && flChain next f.seq l
def sdEnds (s : Sd) : Bool :=
  decide (1 ≤ s.next) && (decide (s.next ≤ 1073741824) && (decide (1 ≤ s.cwnd) && (decide (s.cwnd ≤ 8) && (decide (0 ≤ s.acc) && (decide (s.acc < 8) && decide (s.fl.length ≤ 8))))))
def sdRight (s : Sd) : Bool := flChain s.next 0 s.fl && sdEnds s
def sdSpan (s : Sd) : Int := match s.fl with | [] => 0 | f :: _ => s.next - f.seq
def sdRoom (s : Sd) : Int := max (min (min (s.cwnd - s.fl.length) (8 - sdSpan s)) (1073741824 - s.next)) 0
def sdPush (s : Sd) (n : Nt) (now : Int) : Sd × Fl × Bool :=
  if sdRoom s = 0 then (s, fl0, false) else (⟨s.next + 1, s.fl ++ [⟨s.next, n, now, 1⟩], s.cwnd, s.acc⟩, ⟨s.next, n, now, 1⟩, true)
/-- bit k of a number -/
def bitAt (n : Int) (k : Nat) : Bool := decide (n / 2 ^ k % 2 = 1)
def told (seq ack sack : Int) : Bool := decide (seq ≤ ack) || (decide (0 ≤ seq - ack - 2) && (decide (seq - ack - 2 < 7) && bitAt sack (seq - ack - 2).toNat))
def growF : Nat → Int → Int → Int × Int
  | 0, a, c => (a, c)
  | n + 1, a, c => if c ≤ a then growF n (a - c) (min (c + 1) 8) else (a, c)
def sampleOf (ack sack now : Int) (s : Int) (f : Fl) : Int := if told f.seq ack sack && decide (f.tries = 1) then max (max s (now - f.at_)) 0 else s
def sdAcked (s : Sd) (ack sack now : Int) : Sd × Int :=
  if ack < 0 ∨ s.next ≤ ack then (s, -1) else
    let fl' := s.fl.filter fun f => !told f.seq ack sack
    let g := growF 16 (s.acc + (s.fl.length - fl'.length)) s.cwnd
    (⟨s.next, fl', g.2, g.1⟩, s.fl.foldl (sampleOf ack sack now) (-1))
def sdDue (s : Sd) (now rto : Int) : List Int := (s.fl.filter fun f => decide (f.at_ + rto ≤ now)).map (·.seq)
def flAgain (now : Int) (f : Fl) : Fl := ⟨f.seq, f.note, now, min (f.tries + 1) 1073741824⟩
/-- the first of that number, sent again -/
def flResend (seq now : Int) : List Fl → Option (List Fl × Fl)
  | [] => none
  | f :: l => if f.seq = seq then some (flAgain now f :: l, flAgain now f) else (flResend seq now l).map fun x => (f :: x.1, x.2)
def sdResend (s : Sd) (seq now : Int) : Sd × Fl × Bool :=
  match flResend seq now s.fl with
  | none => (s, fl0, false)
  | some x => (⟨s.next, x.1, s.cwnd, s.acc⟩, x.2, true)
def sdLost (s : Sd) : Sd := ⟨s.next, s.fl, max (s.cwnd / 2) 1, 0⟩
def flVoid (user : Int) (f : Fl) : Fl := if f.note.user = user then ⟨f.seq, nt0, f.at_, f.tries⟩ else f
def sdVoid (s : Sd) (user : Int) : Sd := ⟨s.next, s.fl.map (flVoid user), s.cwnd, s.acc⟩
end Nj

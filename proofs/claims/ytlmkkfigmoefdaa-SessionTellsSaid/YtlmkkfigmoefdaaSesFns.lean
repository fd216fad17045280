/-
  THE PLAIN FUNCTIONS OF PACKAGE session: no program, no memory. No condition.
-/
import Derived.Test.YtlmkkfigmoefdaaSendFns
import Derived.Test.YtlmkkfigmoefdaaRttFns
import Derived.Test.YtlmkkfigmoefdaaDetFns
set_option linter.unusedVariables false
set_option linter.unusedSimpArgs false
namespace Nj
structure Ch where
  send : Sd
  rtt : Rt
  deriving DecidableEq

def chStart : Ch := ⟨sdStart, rttStart⟩

def chRight (c : Ch) : Bool := sdRight c.send && rttRight c.rtt


/-- a key of sixteen bytes -/
structure K16 where
  k0 : Int
  k1 : Int
  k2 : Int
  k3 : Int
  k4 : Int
  k5 : Int
  k6 : Int
  k7 : Int
  k8 : Int
  k9 : Int
  k10 : Int
  k11 : Int
  k12 : Int
  k13 : Int
  k14 : Int
  k15 : Int
  deriving DecidableEq
/-- a session -/
structure Ses where
  id : Int
  user : Int
  addr : Int
  nonce : Int
  key : K16
  status : Int
  opSeq : Int
  opCode : Int
  beats : List Bt
  hst : Int
  hsi : Int
  ch : Ch
  deriving DecidableEq
/-- one's own test, without what is in memory -/
def sesWho (s : Ses) : Bool := decide (1 ≤ s.id ∧ s.id ≤ 1073741824 ∧ 1 ≤ s.user ∧ s.user ≤ 16 ∧ 0 ≤ s.addr ∧ s.addr ≤ 65535 ∧ 0 ≤ s.nonce ∧ s.nonce ≤ 1073741824)
def sesSaid (s : Ses) : Bool := decide (1 ≤ s.status ∧ s.status ≤ 3 ∧ 0 ≤ s.opSeq ∧ s.opSeq ≤ 1073741824 ∧ 0 ≤ s.opCode ∧ s.opCode ≤ 15)
def sesHow (s : Ses) : Bool := decide (1 ≤ s.hst ∧ s.hst ≤ 2 ∧ 0 ≤ s.hsi ∧ s.hsi ≤ 1099511627776)
def sesFits (s : Ses) : Bool := sesWho s && (sesSaid s && (sesHow s && (btRight s.beats && chRight s.ch)))
def sesOf (t : List Ses) (u : Int) : List Int := (t.filter fun s => decide (s.user = u)).map (·.id)
def sesStat (t : List Ses) (u : Int) : List Int := (t.filter fun s => decide (s.user = u)).map (·.status)
/-- each one is greater than the one ahead of it -/
def sesUp : List Ses → Bool
  | [] => true
  | [_] => true
  | a :: b :: l => decide (a.id < b.id) && sesUp (b :: l)
def sesRight (t : List Ses) : Bool := decide (t.length ≤ 32) && (t.all sesFits && (sesUp t && t.all fun s => decide ((sesOf t s.user).length ≤ 4)))
end Nj

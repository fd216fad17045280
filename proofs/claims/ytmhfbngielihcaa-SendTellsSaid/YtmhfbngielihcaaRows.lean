/-
  No cell of these rows narrows 'for every input' (looked for: loops, veiled, ifaces, maps, wideKeys, modest, calm, conditions, laid).
  DERIVED. THE GIVEN ROWS OF THIS SEAT. 8 by the template 'for every input the law returns true; each argument reads behind the call as it read before'; 0 by the template 'total and deterministic' (their statements: YtmhfbngielihcaaTotals.lean).
  GIVEN WITH THE SEED: the statements are not yours to turn. If you find one false, say at which input.
  Laid BY PROGRAM, IN A SANDBOX (cutbox-rows.mjs): the forced cells as the released guide's own fill.sh prints them over the translation 221de515e6cfd9f0… (all of the seat's roots in one cut). By AI agents, Wed Nov 11 2026. No macro, syntax, notation, axiom, sorry.
-/
import Derived.Test.YtmhfbngielihcaaChecked
import GoSem.Claim
import GoSem.ClaimJoined
import GoSem.ClaimMapViews
import Derived.JoinedTies
import Derived.KernelRfl
namespace Go.Proofs.Ytmhfbngielihcaa
/- THE CELL 'sum', in the pinned program and in every row, IS THE sha256 OF THE DUMP (.gsa) THAT YtmhfbngielihcaaProg.lean LOADS. Nothing in Lean hashes anything: it is a label: what it is worth is what the hold of that sum in a sandbox is worth. -/
noncomputable def Try.pinned : Pinned := { name := "ytmhfbngielihcaa", sum := "221de515e6cfd9f05e4bef0ba144e300b5aaa575f96d182a3eabd0facd877c4b", checked := Try.checked }
namespace Rows
def none {H : Type} : Left H := { results := [], args := [] }

/-- 'nightjarlaw11.SendRight': WHATEVER THE INPUT: true; the input reads as it did. -/
def sendRightSpec : ChangeSpec := { name := "sendRight", fn := fun _ => fun
  | [d1, d2] => { results := [.lit (.bool true)], args := [d1, d2] }
  | _ => none }
def sendRightRow : OpenClaim := { program := "ytmhfbngielihcaa", sum := "221de515e6cfd9f05e4bef0ba144e300b5aaa575f96d182a3eabd0facd877c4b", func := "nightjar/nightjarlaw11.SendRight", spec := "sendRight", unfollowed := true, recurses := true, apart := false }
def SendRightSaid : Prop := sendRightRow.holds Try.pinned (OpenSpec.ofChange sendRightSpec)

/-- ITS FALSE NEIGHBOUR: 'it returns false'. Refute it at one input. -/
def sendRightWrong : ChangeSpec := { name := "sendRight", fn := fun _ => fun
  | [d1, d2] => { results := [.lit (.bool false)], args := [d1, d2] }
  | _ => none }
def SendRightWrongFalsely : Prop := sendRightRow.holds Try.pinned (OpenSpec.ofChange sendRightWrong)

/-- 'nightjarlaw11.SendAcks': WHATEVER THE INPUT: true; the input reads as it did. -/
def sendAcksSpec : ChangeSpec := { name := "sendAcks", fn := fun _ => fun
  | [d1, d2, d3, d4] => { results := [.lit (.bool true)], args := [d1, d2, d3, d4] }
  | _ => none }
def sendAcksRow : OpenClaim := { program := "ytmhfbngielihcaa", sum := "221de515e6cfd9f05e4bef0ba144e300b5aaa575f96d182a3eabd0facd877c4b", func := "nightjar/nightjarlaw11.SendAcks", spec := "sendAcks", unfollowed := true, recurses := true, apart := false }
def SendAcksSaid : Prop := sendAcksRow.holds Try.pinned (OpenSpec.ofChange sendAcksSpec)

/-- ITS FALSE NEIGHBOUR: 'it returns false'. Refute it at one input. -/
def sendAcksWrong : ChangeSpec := { name := "sendAcks", fn := fun _ => fun
  | [d1, d2, d3, d4] => { results := [.lit (.bool false)], args := [d1, d2, d3, d4] }
  | _ => none }
def SendAcksWrongFalsely : Prop := sendAcksRow.holds Try.pinned (OpenSpec.ofChange sendAcksWrong)

/-- 'nightjarlaw11.SendResends': WHATEVER THE INPUT: true; the input reads as it did. -/
def sendResendsSpec : ChangeSpec := { name := "sendResends", fn := fun _ => fun
  | [d1, d2, d3] => { results := [.lit (.bool true)], args := [d1, d2, d3] }
  | _ => none }
def sendResendsRow : OpenClaim := { program := "ytmhfbngielihcaa", sum := "221de515e6cfd9f05e4bef0ba144e300b5aaa575f96d182a3eabd0facd877c4b", func := "nightjar/nightjarlaw11.SendResends", spec := "sendResends", unfollowed := true, recurses := true, apart := false }
def SendResendsSaid : Prop := sendResendsRow.holds Try.pinned (OpenSpec.ofChange sendResendsSpec)

/-- ITS FALSE NEIGHBOUR: 'it returns false'. Refute it at one input. -/
def sendResendsWrong : ChangeSpec := { name := "sendResends", fn := fun _ => fun
  | [d1, d2, d3] => { results := [.lit (.bool false)], args := [d1, d2, d3] }
  | _ => none }
def SendResendsWrongFalsely : Prop := sendResendsRow.holds Try.pinned (OpenSpec.ofChange sendResendsWrong)

/-- 'nightjarlaw11.SendDues': WHATEVER THE INPUT: true; the input reads as it did. -/
def sendDuesSpec : ChangeSpec := { name := "sendDues", fn := fun _ => fun
  | [d1, d2, d3, d4, d5] => { results := [.lit (.bool true)], args := [d1, d2, d3, d4, d5] }
  | _ => none }
def sendDuesRow : OpenClaim := { program := "ytmhfbngielihcaa", sum := "221de515e6cfd9f05e4bef0ba144e300b5aaa575f96d182a3eabd0facd877c4b", func := "nightjar/nightjarlaw11.SendDues", spec := "sendDues", unfollowed := true, recurses := true, apart := false }
def SendDuesSaid : Prop := sendDuesRow.holds Try.pinned (OpenSpec.ofChange sendDuesSpec)

/-- ITS FALSE NEIGHBOUR: 'it returns false'. Refute it at one input. -/
def sendDuesWrong : ChangeSpec := { name := "sendDues", fn := fun _ => fun
  | [d1, d2, d3, d4, d5] => { results := [.lit (.bool false)], args := [d1, d2, d3, d4, d5] }
  | _ => none }
def SendDuesWrongFalsely : Prop := sendDuesRow.holds Try.pinned (OpenSpec.ofChange sendDuesWrong)

/-- 'nightjarlaw11.SendFills': WHATEVER THE INPUT: true; the input reads as it did. -/
def sendFillsSpec : ChangeSpec := { name := "sendFills", fn := fun _ => fun
  | [d1, d2, d3] => { results := [.lit (.bool true)], args := [d1, d2, d3] }
  | _ => none }
def sendFillsRow : OpenClaim := { program := "ytmhfbngielihcaa", sum := "221de515e6cfd9f05e4bef0ba144e300b5aaa575f96d182a3eabd0facd877c4b", func := "nightjar/nightjarlaw11.SendFills", spec := "sendFills", unfollowed := true, recurses := true, apart := false }
def SendFillsSaid : Prop := sendFillsRow.holds Try.pinned (OpenSpec.ofChange sendFillsSpec)

/-- ITS FALSE NEIGHBOUR: 'it returns false'. Refute it at one input. -/
def sendFillsWrong : ChangeSpec := { name := "sendFills", fn := fun _ => fun
  | [d1, d2, d3] => { results := [.lit (.bool false)], args := [d1, d2, d3] }
  | _ => none }
def SendFillsWrongFalsely : Prop := sendFillsRow.holds Try.pinned (OpenSpec.ofChange sendFillsWrong)

/-- 'nightjarlaw11.SendTells': WHATEVER THE INPUT: true; the input reads as it did. -/
def sendTellsSpec : ChangeSpec := { name := "sendTells", fn := fun _ => fun
  | [d1, d2, d3, d4] => { results := [.lit (.bool true)], args := [d1, d2, d3, d4] }
  | _ => none }
def sendTellsRow : OpenClaim := { program := "ytmhfbngielihcaa", sum := "221de515e6cfd9f05e4bef0ba144e300b5aaa575f96d182a3eabd0facd877c4b", func := "nightjar/nightjarlaw11.SendTells", spec := "sendTells", unfollowed := true, recurses := true, apart := false }
def SendTellsSaid : Prop := sendTellsRow.holds Try.pinned (OpenSpec.ofChange sendTellsSpec)

/-- ITS FALSE NEIGHBOUR: 'it returns false'. Refute it at one input. -/
def sendTellsWrong : ChangeSpec := { name := "sendTells", fn := fun _ => fun
  | [d1, d2, d3, d4] => { results := [.lit (.bool false)], args := [d1, d2, d3, d4] }
  | _ => none }
def SendTellsWrongFalsely : Prop := sendTellsRow.holds Try.pinned (OpenSpec.ofChange sendTellsWrong)

/-- 'nightjarlaw11.SendVoids': WHATEVER THE INPUT: true; the input reads as it did. -/
def sendVoidsSpec : ChangeSpec := { name := "sendVoids", fn := fun _ => fun
  | [d1, d2] => { results := [.lit (.bool true)], args := [d1, d2] }
  | _ => none }
def sendVoidsRow : OpenClaim := { program := "ytmhfbngielihcaa", sum := "221de515e6cfd9f05e4bef0ba144e300b5aaa575f96d182a3eabd0facd877c4b", func := "nightjar/nightjarlaw11.SendVoids", spec := "sendVoids", unfollowed := true, recurses := true, apart := false }
def SendVoidsSaid : Prop := sendVoidsRow.holds Try.pinned (OpenSpec.ofChange sendVoidsSpec)

/-- ITS FALSE NEIGHBOUR: 'it returns false'. Refute it at one input. -/
def sendVoidsWrong : ChangeSpec := { name := "sendVoids", fn := fun _ => fun
  | [d1, d2] => { results := [.lit (.bool false)], args := [d1, d2] }
  | _ => none }
def SendVoidsWrongFalsely : Prop := sendVoidsRow.holds Try.pinned (OpenSpec.ofChange sendVoidsWrong)

/-- 'nightjarlaw11.SendLosts': WHATEVER THE INPUT: true; the input reads as it did. -/
def sendLostsSpec : ChangeSpec := { name := "sendLosts", fn := fun _ => fun
  | [d] => { results := [.lit (.bool true)], args := [d] }
  | _ => none }
def sendLostsRow : OpenClaim := { program := "ytmhfbngielihcaa", sum := "221de515e6cfd9f05e4bef0ba144e300b5aaa575f96d182a3eabd0facd877c4b", func := "nightjar/nightjarlaw11.SendLosts", spec := "sendLosts", unfollowed := true, recurses := true, apart := false }
def SendLostsSaid : Prop := sendLostsRow.holds Try.pinned (OpenSpec.ofChange sendLostsSpec)

/-- ITS FALSE NEIGHBOUR: 'it returns false'. Refute it at one input. -/
def sendLostsWrong : ChangeSpec := { name := "sendLosts", fn := fun _ => fun
  | [d] => { results := [.lit (.bool false)], args := [d] }
  | _ => none }
def SendLostsWrongFalsely : Prop := sendLostsRow.holds Try.pinned (OpenSpec.ofChange sendLostsWrong)

/- THE SECOND FORM. 'bulk': how many values and letters a reading holds, each counted each time it is reached (what is shared counts as often as it is met; a slice's spare places count too). A statement '..UptoSaid' is the law's where the arguments, and the package variables that the reading takes, are together of bulk at most 1048576: NARROWER than '..Said'. Prove '..Said' where nothing that the law and all that it calls make is longer than what came in: it says more and counts as full. Else prove '..UptoSaid'. A law counts once. -/
mutual
def uptoBulk {H : Type} : DataW H → Nat
  | .lit (.string bytes) => bytes.length + 1
  | .lit _ => 1
  | .nil => 1
  | .ptr d => uptoBulk d + 1
  | .slice elems spare => uptoBulkAll elems + uptoBulkAll spare + 1
  | .agg parts => uptoBulkAll parts + 1
  | .iface _ d => uptoBulk d + 1
  | .map entries => uptoBulkEntries entries + 1
  | .held _ => 1
def uptoBulkAll {H : Type} : List (DataW H) → Nat
  | [] => 0
  | d :: r => uptoBulk d + uptoBulkAll r
def uptoBulkEntries {H : Type} : List (Lit × DataW H) → Nat
  | [] => 0
  | x :: r => uptoBulkEntry x + uptoBulkEntries r
def uptoBulkEntry {H : Type} : Lit × DataW H → Nat
  | (.string bytes, d) => bytes.length + uptoBulk d + 1
  | (_, d) => uptoBulk d + 1
 end
def uptoSmall : (H : Type) → List (DataW H) → Bool := fun _ ds => decide (uptoBulkAll ds ≤ 1048576)
def OpenSpec.upto (s : _root_.Go.ChangeSpec) : _root_.Go.OpenSpec := { _root_.Go.OpenSpec.ofChange s with cond := some uptoSmall }

/-- 'nightjarlaw11.SendRight', WHERE WHAT IT READS IS OF BULK AT MOST 1048576: true; the input reads as it did. -/
def sendRightUptoRow : OpenClaim := { program := "ytmhfbngielihcaa", sum := "221de515e6cfd9f05e4bef0ba144e300b5aaa575f96d182a3eabd0facd877c4b", func := "nightjar/nightjarlaw11.SendRight", spec := "sendRight", unfollowed := true, recurses := true, apart := false, narrowed := true }
def SendRightUptoSaid : Prop := sendRightUptoRow.holds Try.pinned (OpenSpec.upto sendRightSpec)

/-- 'nightjarlaw11.SendAcks', WHERE WHAT IT READS IS OF BULK AT MOST 1048576: true; the input reads as it did. -/
def sendAcksUptoRow : OpenClaim := { program := "ytmhfbngielihcaa", sum := "221de515e6cfd9f05e4bef0ba144e300b5aaa575f96d182a3eabd0facd877c4b", func := "nightjar/nightjarlaw11.SendAcks", spec := "sendAcks", unfollowed := true, recurses := true, apart := false, narrowed := true }
def SendAcksUptoSaid : Prop := sendAcksUptoRow.holds Try.pinned (OpenSpec.upto sendAcksSpec)

/-- 'nightjarlaw11.SendResends', WHERE WHAT IT READS IS OF BULK AT MOST 1048576: true; the input reads as it did. -/
def sendResendsUptoRow : OpenClaim := { program := "ytmhfbngielihcaa", sum := "221de515e6cfd9f05e4bef0ba144e300b5aaa575f96d182a3eabd0facd877c4b", func := "nightjar/nightjarlaw11.SendResends", spec := "sendResends", unfollowed := true, recurses := true, apart := false, narrowed := true }
def SendResendsUptoSaid : Prop := sendResendsUptoRow.holds Try.pinned (OpenSpec.upto sendResendsSpec)

/-- 'nightjarlaw11.SendDues', WHERE WHAT IT READS IS OF BULK AT MOST 1048576: true; the input reads as it did. -/
def sendDuesUptoRow : OpenClaim := { program := "ytmhfbngielihcaa", sum := "221de515e6cfd9f05e4bef0ba144e300b5aaa575f96d182a3eabd0facd877c4b", func := "nightjar/nightjarlaw11.SendDues", spec := "sendDues", unfollowed := true, recurses := true, apart := false, narrowed := true }
def SendDuesUptoSaid : Prop := sendDuesUptoRow.holds Try.pinned (OpenSpec.upto sendDuesSpec)

/-- 'nightjarlaw11.SendFills', WHERE WHAT IT READS IS OF BULK AT MOST 1048576: true; the input reads as it did. -/
def sendFillsUptoRow : OpenClaim := { program := "ytmhfbngielihcaa", sum := "221de515e6cfd9f05e4bef0ba144e300b5aaa575f96d182a3eabd0facd877c4b", func := "nightjar/nightjarlaw11.SendFills", spec := "sendFills", unfollowed := true, recurses := true, apart := false, narrowed := true }
def SendFillsUptoSaid : Prop := sendFillsUptoRow.holds Try.pinned (OpenSpec.upto sendFillsSpec)

/-- 'nightjarlaw11.SendTells', WHERE WHAT IT READS IS OF BULK AT MOST 1048576: true; the input reads as it did. -/
def sendTellsUptoRow : OpenClaim := { program := "ytmhfbngielihcaa", sum := "221de515e6cfd9f05e4bef0ba144e300b5aaa575f96d182a3eabd0facd877c4b", func := "nightjar/nightjarlaw11.SendTells", spec := "sendTells", unfollowed := true, recurses := true, apart := false, narrowed := true }
def SendTellsUptoSaid : Prop := sendTellsUptoRow.holds Try.pinned (OpenSpec.upto sendTellsSpec)

/-- 'nightjarlaw11.SendVoids', WHERE WHAT IT READS IS OF BULK AT MOST 1048576: true; the input reads as it did. -/
def sendVoidsUptoRow : OpenClaim := { program := "ytmhfbngielihcaa", sum := "221de515e6cfd9f05e4bef0ba144e300b5aaa575f96d182a3eabd0facd877c4b", func := "nightjar/nightjarlaw11.SendVoids", spec := "sendVoids", unfollowed := true, recurses := true, apart := false, narrowed := true }
def SendVoidsUptoSaid : Prop := sendVoidsUptoRow.holds Try.pinned (OpenSpec.upto sendVoidsSpec)

/-- 'nightjarlaw11.SendLosts', WHERE WHAT IT READS IS OF BULK AT MOST 1048576: true; the input reads as it did. -/
def sendLostsUptoRow : OpenClaim := { program := "ytmhfbngielihcaa", sum := "221de515e6cfd9f05e4bef0ba144e300b5aaa575f96d182a3eabd0facd877c4b", func := "nightjar/nightjarlaw11.SendLosts", spec := "sendLosts", unfollowed := true, recurses := true, apart := false, narrowed := true }
def SendLostsUptoSaid : Prop := sendLostsUptoRow.holds Try.pinned (OpenSpec.upto sendLostsSpec)

end Rows
end Go.Proofs.Ytmhfbngielihcaa

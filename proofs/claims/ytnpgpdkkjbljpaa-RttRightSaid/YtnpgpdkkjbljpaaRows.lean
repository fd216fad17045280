/-
  No cell of these rows narrows 'for every input' (looked for: loops, veiled, ifaces, maps, wideKeys, modest, calm, conditions, laid).
  DERIVED. THE GIVEN ROWS OF THIS SEAT. 7 by the template 'for every input the law returns true; each argument reads behind the call as it read before'; 0 by the template 'total and deterministic' (their statements: YtnpgpdkkjbljpaaTotals.lean).
  GIVEN WITH THE SEED: the statements are not yours to turn. If you find one false, say at which input.
  Laid BY PROGRAM, IN A SANDBOX (cutbox-rows.mjs): the forced cells as the released guide's own fill.sh prints them over the translation 8fe210afeaadaa26… (all of the seat's roots in one cut). By AI agents, Wed Nov 11 2026. No macro, syntax, notation, axiom, sorry.
-/
import Derived.Test.YtnpgpdkkjbljpaaChecked
import GoSem.Claim
import GoSem.ClaimJoined
import GoSem.ClaimMapViews
import Derived.JoinedTies
import Derived.KernelRfl
namespace Go.Proofs.Ytnpgpdkkjbljpaa
/- THE CELL 'sum', in the pinned program and in every row, IS THE sha256 OF THE DUMP (.gsa) THAT YtnpgpdkkjbljpaaProg.lean LOADS. Nothing in Lean hashes anything: it is a label: what it is worth is what the hold of that sum in a sandbox is worth. -/
noncomputable def Try.pinned : Pinned := { name := "ytnpgpdkkjbljpaa", sum := "8fe210afeaadaa2664f817b4c80dc2c471644d2c3a004a664631864a36e44142", checked := Try.checked }
namespace Rows
def none {H : Type} : Left H := { results := [], args := [] }

/-- 'nightjarlaw09.RttTells': WHATEVER THE INPUT: true; the input reads as it did. -/
def rttTellsSpec : ChangeSpec := { name := "rttTells", fn := fun _ => fun
  | [d1, d2] => { results := [.lit (.bool true)], args := [d1, d2] }
  | _ => none }
def rttTellsRow : OpenClaim := { program := "ytnpgpdkkjbljpaa", sum := "8fe210afeaadaa2664f817b4c80dc2c471644d2c3a004a664631864a36e44142", func := "nightjar/nightjarlaw09.RttTells", spec := "rttTells", apart := false }
def RttTellsSaid : Prop := rttTellsRow.holds Try.pinned (OpenSpec.ofChange rttTellsSpec)

/-- ITS FALSE NEIGHBOUR: 'it returns false'. Refute it at one input. -/
def rttTellsWrong : ChangeSpec := { name := "rttTells", fn := fun _ => fun
  | [d1, d2] => { results := [.lit (.bool false)], args := [d1, d2] }
  | _ => none }
def RttTellsWrongFalsely : Prop := rttTellsRow.holds Try.pinned (OpenSpec.ofChange rttTellsWrong)

/-- 'nightjarlaw09.RttRight': WHATEVER THE INPUT: true; the input reads as it did. -/
def rttRightSpec : ChangeSpec := { name := "rttRight", fn := fun _ => fun
  | [d1, d2] => { results := [.lit (.bool true)], args := [d1, d2] }
  | _ => none }
def rttRightRow : OpenClaim := { program := "ytnpgpdkkjbljpaa", sum := "8fe210afeaadaa2664f817b4c80dc2c471644d2c3a004a664631864a36e44142", func := "nightjar/nightjarlaw09.RttRight", spec := "rttRight", apart := false }
def RttRightSaid : Prop := rttRightRow.holds Try.pinned (OpenSpec.ofChange rttRightSpec)

/-- ITS FALSE NEIGHBOUR: 'it returns false'. Refute it at one input. -/
def rttRightWrong : ChangeSpec := { name := "rttRight", fn := fun _ => fun
  | [d1, d2] => { results := [.lit (.bool false)], args := [d1, d2] }
  | _ => none }
def RttRightWrongFalsely : Prop := rttRightRow.holds Try.pinned (OpenSpec.ofChange rttRightWrong)

/-- 'nightjarlaw09.RttLike': WHATEVER THE INPUT: true; the input reads as it did. -/
def rttLikeSpec : ChangeSpec := { name := "rttLike", fn := fun _ => fun
  | [d1, d2] => { results := [.lit (.bool true)], args := [d1, d2] }
  | _ => none }
def rttLikeRow : OpenClaim := { program := "ytnpgpdkkjbljpaa", sum := "8fe210afeaadaa2664f817b4c80dc2c471644d2c3a004a664631864a36e44142", func := "nightjar/nightjarlaw09.RttLike", spec := "rttLike", apart := false }
def RttLikeSaid : Prop := rttLikeRow.holds Try.pinned (OpenSpec.ofChange rttLikeSpec)

/-- ITS FALSE NEIGHBOUR: 'it returns false'. Refute it at one input. -/
def rttLikeWrong : ChangeSpec := { name := "rttLike", fn := fun _ => fun
  | [d1, d2] => { results := [.lit (.bool false)], args := [d1, d2] }
  | _ => none }
def RttLikeWrongFalsely : Prop := rttLikeRow.holds Try.pinned (OpenSpec.ofChange rttLikeWrong)

/-- 'nightjarlaw09.RttWaits': WHATEVER THE INPUT: true; the input reads as it did. -/
def rttWaitsSpec : ChangeSpec := { name := "rttWaits", fn := fun _ => fun
  | [d1, d2] => { results := [.lit (.bool true)], args := [d1, d2] }
  | _ => none }
def rttWaitsRow : OpenClaim := { program := "ytnpgpdkkjbljpaa", sum := "8fe210afeaadaa2664f817b4c80dc2c471644d2c3a004a664631864a36e44142", func := "nightjar/nightjarlaw09.RttWaits", spec := "rttWaits", apart := false }
def RttWaitsSaid : Prop := rttWaitsRow.holds Try.pinned (OpenSpec.ofChange rttWaitsSpec)

/-- ITS FALSE NEIGHBOUR: 'it returns false'. Refute it at one input. -/
def rttWaitsWrong : ChangeSpec := { name := "rttWaits", fn := fun _ => fun
  | [d1, d2] => { results := [.lit (.bool false)], args := [d1, d2] }
  | _ => none }
def RttWaitsWrongFalsely : Prop := rttWaitsRow.holds Try.pinned (OpenSpec.ofChange rttWaitsWrong)

/-- 'nightjarlaw09.RttNear': WHATEVER THE INPUT: true; the input reads as it did. -/
def rttNearSpec : ChangeSpec := { name := "rttNear", fn := fun _ => fun
  | [d1, d2] => { results := [.lit (.bool true)], args := [d1, d2] }
  | _ => none }
def rttNearRow : OpenClaim := { program := "ytnpgpdkkjbljpaa", sum := "8fe210afeaadaa2664f817b4c80dc2c471644d2c3a004a664631864a36e44142", func := "nightjar/nightjarlaw09.RttNear", spec := "rttNear", apart := false }
def RttNearSaid : Prop := rttNearRow.holds Try.pinned (OpenSpec.ofChange rttNearSpec)

/-- ITS FALSE NEIGHBOUR: 'it returns false'. Refute it at one input. -/
def rttNearWrong : ChangeSpec := { name := "rttNear", fn := fun _ => fun
  | [d1, d2] => { results := [.lit (.bool false)], args := [d1, d2] }
  | _ => none }
def RttNearWrongFalsely : Prop := rttNearRow.holds Try.pinned (OpenSpec.ofChange rttNearWrong)

/-- 'nightjarlaw09.RttBad': WHATEVER THE INPUT: true; the input reads as it did. -/
def rttBadSpec : ChangeSpec := { name := "rttBad", fn := fun _ => fun
  | [d1, d2] => { results := [.lit (.bool true)], args := [d1, d2] }
  | _ => none }
def rttBadRow : OpenClaim := { program := "ytnpgpdkkjbljpaa", sum := "8fe210afeaadaa2664f817b4c80dc2c471644d2c3a004a664631864a36e44142", func := "nightjar/nightjarlaw09.RttBad", spec := "rttBad", apart := false }
def RttBadSaid : Prop := rttBadRow.holds Try.pinned (OpenSpec.ofChange rttBadSpec)

/-- ITS FALSE NEIGHBOUR: 'it returns false'. Refute it at one input. -/
def rttBadWrong : ChangeSpec := { name := "rttBad", fn := fun _ => fun
  | [d1, d2] => { results := [.lit (.bool false)], args := [d1, d2] }
  | _ => none }
def RttBadWrongFalsely : Prop := rttBadRow.holds Try.pinned (OpenSpec.ofChange rttBadWrong)

/-- 'nightjarlaw09.RttBackoffs': WHATEVER THE INPUT: true; the input reads as it did. -/
def rttBackoffsSpec : ChangeSpec := { name := "rttBackoffs", fn := fun _ => fun
  | [d1, d2] => { results := [.lit (.bool true)], args := [d1, d2] }
  | _ => none }
def rttBackoffsRow : OpenClaim := { program := "ytnpgpdkkjbljpaa", sum := "8fe210afeaadaa2664f817b4c80dc2c471644d2c3a004a664631864a36e44142", func := "nightjar/nightjarlaw09.RttBackoffs", spec := "rttBackoffs", apart := false }
def RttBackoffsSaid : Prop := rttBackoffsRow.holds Try.pinned (OpenSpec.ofChange rttBackoffsSpec)

/-- ITS FALSE NEIGHBOUR: 'it returns false'. Refute it at one input. -/
def rttBackoffsWrong : ChangeSpec := { name := "rttBackoffs", fn := fun _ => fun
  | [d1, d2] => { results := [.lit (.bool false)], args := [d1, d2] }
  | _ => none }
def RttBackoffsWrongFalsely : Prop := rttBackoffsRow.holds Try.pinned (OpenSpec.ofChange rttBackoffsWrong)

/- THE SECOND FORM. 'bulk': how many values and letters a reading holds, each counted each time it is reached (what is shared counts as often as it is met; a slice's spare places count too). A statement '..UptoSaid' is the law's where the arguments, and the package variables that the reading takes, are together of bulk at most 1048576: NARROWER than '..Said'. Prove '..Said' where nothing that the law and all that it calls make is longer than what came in: it says more and counts as full. Else prove '..UptoSaid'. A law counts once. -/
mutual
def uptoBulk {H : Type} : DataW H → Nat
  | .lit (.string bytes) => bytes.length + 1
  | .lit _ => 1
  | .nil => 1
  | .ptr d => uptoBulk d + 1
  | .slice elems spare => uptoBulkAll elems + uptoBulkAll spare + 1
  | .agg parts => uptoBulkAll parts + 1
  | .iface _ d => uptoBulk d + 1
  | .map entries => uptoBulkEntries entries + 1
  | .held _ => 1
def uptoBulkAll {H : Type} : List (DataW H) → Nat
  | [] => 0
  | d :: r => uptoBulk d + uptoBulkAll r
def uptoBulkEntries {H : Type} : List (Lit × DataW H) → Nat
  | [] => 0
  | x :: r => uptoBulkEntry x + uptoBulkEntries r
def uptoBulkEntry {H : Type} : Lit × DataW H → Nat
  | (.string bytes, d) => bytes.length + uptoBulk d + 1
  | (_, d) => uptoBulk d + 1
 end
def uptoSmall : (H : Type) → List (DataW H) → Bool := fun _ ds => decide (uptoBulkAll ds ≤ 1048576)
def OpenSpec.upto (s : _root_.Go.ChangeSpec) : _root_.Go.OpenSpec := { _root_.Go.OpenSpec.ofChange s with cond := some uptoSmall }

/-- 'nightjarlaw09.RttTells', WHERE WHAT IT READS IS OF BULK AT MOST 1048576: true; the input reads as it did. -/
def rttTellsUptoRow : OpenClaim := { program := "ytnpgpdkkjbljpaa", sum := "8fe210afeaadaa2664f817b4c80dc2c471644d2c3a004a664631864a36e44142", func := "nightjar/nightjarlaw09.RttTells", spec := "rttTells", apart := false, narrowed := true }
def RttTellsUptoSaid : Prop := rttTellsUptoRow.holds Try.pinned (OpenSpec.upto rttTellsSpec)

/-- 'nightjarlaw09.RttRight', WHERE WHAT IT READS IS OF BULK AT MOST 1048576: true; the input reads as it did. -/
def rttRightUptoRow : OpenClaim := { program := "ytnpgpdkkjbljpaa", sum := "8fe210afeaadaa2664f817b4c80dc2c471644d2c3a004a664631864a36e44142", func := "nightjar/nightjarlaw09.RttRight", spec := "rttRight", apart := false, narrowed := true }
def RttRightUptoSaid : Prop := rttRightUptoRow.holds Try.pinned (OpenSpec.upto rttRightSpec)

/-- 'nightjarlaw09.RttLike', WHERE WHAT IT READS IS OF BULK AT MOST 1048576: true; the input reads as it did. -/
def rttLikeUptoRow : OpenClaim := { program := "ytnpgpdkkjbljpaa", sum := "8fe210afeaadaa2664f817b4c80dc2c471644d2c3a004a664631864a36e44142", func := "nightjar/nightjarlaw09.RttLike", spec := "rttLike", apart := false, narrowed := true }
def RttLikeUptoSaid : Prop := rttLikeUptoRow.holds Try.pinned (OpenSpec.upto rttLikeSpec)

/-- 'nightjarlaw09.RttWaits', WHERE WHAT IT READS IS OF BULK AT MOST 1048576: true; the input reads as it did. -/
def rttWaitsUptoRow : OpenClaim := { program := "ytnpgpdkkjbljpaa", sum := "8fe210afeaadaa2664f817b4c80dc2c471644d2c3a004a664631864a36e44142", func := "nightjar/nightjarlaw09.RttWaits", spec := "rttWaits", apart := false, narrowed := true }
def RttWaitsUptoSaid : Prop := rttWaitsUptoRow.holds Try.pinned (OpenSpec.upto rttWaitsSpec)

/-- 'nightjarlaw09.RttNear', WHERE WHAT IT READS IS OF BULK AT MOST 1048576: true; the input reads as it did. -/
def rttNearUptoRow : OpenClaim := { program := "ytnpgpdkkjbljpaa", sum := "8fe210afeaadaa2664f817b4c80dc2c471644d2c3a004a664631864a36e44142", func := "nightjar/nightjarlaw09.RttNear", spec := "rttNear", apart := false, narrowed := true }
def RttNearUptoSaid : Prop := rttNearUptoRow.holds Try.pinned (OpenSpec.upto rttNearSpec)

/-- 'nightjarlaw09.RttBad', WHERE WHAT IT READS IS OF BULK AT MOST 1048576: true; the input reads as it did. -/
def rttBadUptoRow : OpenClaim := { program := "ytnpgpdkkjbljpaa", sum := "8fe210afeaadaa2664f817b4c80dc2c471644d2c3a004a664631864a36e44142", func := "nightjar/nightjarlaw09.RttBad", spec := "rttBad", apart := false, narrowed := true }
def RttBadUptoSaid : Prop := rttBadUptoRow.holds Try.pinned (OpenSpec.upto rttBadSpec)

/-- 'nightjarlaw09.RttBackoffs', WHERE WHAT IT READS IS OF BULK AT MOST 1048576: true; the input reads as it did. -/
def rttBackoffsUptoRow : OpenClaim := { program := "ytnpgpdkkjbljpaa", sum := "8fe210afeaadaa2664f817b4c80dc2c471644d2c3a004a664631864a36e44142", func := "nightjar/nightjarlaw09.RttBackoffs", spec := "rttBackoffs", apart := false, narrowed := true }
def RttBackoffsUptoSaid : Prop := rttBackoffsUptoRow.holds Try.pinned (OpenSpec.upto rttBackoffsSpec)

end Rows
end Go.Proofs.Ytnpgpdkkjbljpaa

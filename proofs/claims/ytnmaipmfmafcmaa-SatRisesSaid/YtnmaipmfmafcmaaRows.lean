/-
  No cell of these rows narrows 'for every input' (looked for: loops, veiled, ifaces, maps, wideKeys, modest, calm, conditions, laid).
  DERIVED. THE GIVEN ROWS OF THIS SEAT. 8 by the template 'for every input the law returns true; each argument reads behind the call as it read before'; 0 by the template 'total and deterministic' (their statements: YtnmaipmfmafcmaaTotals.lean).
  GIVEN WITH THE SEED: the statements are not yours to turn. If you find one false, say at which input.
  Laid BY PROGRAM, IN A SANDBOX (cutbox-rows.mjs): the forced cells as the released guide's own fill.sh prints them over the translation d0b423a7520c00f9… (all of the seat's roots in one cut). By AI agents, Wed Nov 11 2026. No macro, syntax, notation, axiom, sorry.
-/
import Derived.Test.YtnmaipmfmafcmaaChecked
import GoSem.Claim
import GoSem.ClaimJoined
import GoSem.ClaimMapViews
import Derived.JoinedTies
import Derived.KernelRfl
namespace Go.Proofs.Ytnmaipmfmafcmaa
/- THE CELL 'sum', in the pinned program and in every row, IS THE sha256 OF THE DUMP (.gsa) THAT YtnmaipmfmafcmaaProg.lean LOADS. Nothing in Lean hashes anything: it is a label: what it is worth is what the hold of that sum in a sandbox is worth. -/
noncomputable def Try.pinned : Pinned := { name := "ytnmaipmfmafcmaa", sum := "d0b423a7520c00f9315d6968d3ec6f780e232044299b19feffc76a6abf715902", checked := Try.checked }
namespace Rows
def none {H : Type} : Left H := { results := [], args := [] }

/-- 'nightjarlaw01.SatTells': WHATEVER THE INPUT: true; the input reads as it did. -/
def satTellsSpec : ChangeSpec := { name := "satTells", fn := fun _ => fun
  | [d1, d2, d3] => { results := [.lit (.bool true)], args := [d1, d2, d3] }
  | _ => none }
def satTellsRow : OpenClaim := { program := "ytnmaipmfmafcmaa", sum := "d0b423a7520c00f9315d6968d3ec6f780e232044299b19feffc76a6abf715902", func := "nightjar/nightjarlaw01.SatTells", spec := "satTells", apart := false }
def SatTellsSaid : Prop := satTellsRow.holds Try.pinned (OpenSpec.ofChange satTellsSpec)

/-- ITS FALSE NEIGHBOUR: 'it returns false'. Refute it at one input. -/
def satTellsWrong : ChangeSpec := { name := "satTells", fn := fun _ => fun
  | [d1, d2, d3] => { results := [.lit (.bool false)], args := [d1, d2, d3] }
  | _ => none }
def SatTellsWrongFalsely : Prop := satTellsRow.holds Try.pinned (OpenSpec.ofChange satTellsWrong)

/-- 'nightjarlaw01.SatRange': WHATEVER THE INPUT: true; the input reads as it did. -/
def satRangeSpec : ChangeSpec := { name := "satRange", fn := fun _ => fun
  | [d1, d2, d3] => { results := [.lit (.bool true)], args := [d1, d2, d3] }
  | _ => none }
def satRangeRow : OpenClaim := { program := "ytnmaipmfmafcmaa", sum := "d0b423a7520c00f9315d6968d3ec6f780e232044299b19feffc76a6abf715902", func := "nightjar/nightjarlaw01.SatRange", spec := "satRange", apart := false }
def SatRangeSaid : Prop := satRangeRow.holds Try.pinned (OpenSpec.ofChange satRangeSpec)

/-- ITS FALSE NEIGHBOUR: 'it returns false'. Refute it at one input. -/
def satRangeWrong : ChangeSpec := { name := "satRange", fn := fun _ => fun
  | [d1, d2, d3] => { results := [.lit (.bool false)], args := [d1, d2, d3] }
  | _ => none }
def SatRangeWrongFalsely : Prop := satRangeRow.holds Try.pinned (OpenSpec.ofChange satRangeWrong)

/-- 'nightjarlaw01.SatOrder': WHATEVER THE INPUT: true; the input reads as it did. -/
def satOrderSpec : ChangeSpec := { name := "satOrder", fn := fun _ => fun
  | [d1, d2, d3, d4] => { results := [.lit (.bool true)], args := [d1, d2, d3, d4] }
  | _ => none }
def satOrderRow : OpenClaim := { program := "ytnmaipmfmafcmaa", sum := "d0b423a7520c00f9315d6968d3ec6f780e232044299b19feffc76a6abf715902", func := "nightjar/nightjarlaw01.SatOrder", spec := "satOrder", apart := false }
def SatOrderSaid : Prop := satOrderRow.holds Try.pinned (OpenSpec.ofChange satOrderSpec)

/-- ITS FALSE NEIGHBOUR: 'it returns false'. Refute it at one input. -/
def satOrderWrong : ChangeSpec := { name := "satOrder", fn := fun _ => fun
  | [d1, d2, d3, d4] => { results := [.lit (.bool false)], args := [d1, d2, d3, d4] }
  | _ => none }
def SatOrderWrongFalsely : Prop := satOrderRow.holds Try.pinned (OpenSpec.ofChange satOrderWrong)

/-- 'nightjarlaw01.SatMean': WHATEVER THE INPUT: true; the input reads as it did. -/
def satMeanSpec : ChangeSpec := { name := "satMean", fn := fun _ => fun
  | [d1, d2, d3] => { results := [.lit (.bool true)], args := [d1, d2, d3] }
  | _ => none }
def satMeanRow : OpenClaim := { program := "ytnmaipmfmafcmaa", sum := "d0b423a7520c00f9315d6968d3ec6f780e232044299b19feffc76a6abf715902", func := "nightjar/nightjarlaw01.SatMean", spec := "satMean", apart := false }
def SatMeanSaid : Prop := satMeanRow.holds Try.pinned (OpenSpec.ofChange satMeanSpec)

/-- ITS FALSE NEIGHBOUR: 'it returns false'. Refute it at one input. -/
def satMeanWrong : ChangeSpec := { name := "satMean", fn := fun _ => fun
  | [d1, d2, d3] => { results := [.lit (.bool false)], args := [d1, d2, d3] }
  | _ => none }
def SatMeanWrongFalsely : Prop := satMeanRow.holds Try.pinned (OpenSpec.ofChange satMeanWrong)

/-- 'nightjarlaw01.SatSub': WHATEVER THE INPUT: true; the input reads as it did. -/
def satSubSpec : ChangeSpec := { name := "satSub", fn := fun _ => fun
  | [d1, d2] => { results := [.lit (.bool true)], args := [d1, d2] }
  | _ => none }
def satSubRow : OpenClaim := { program := "ytnmaipmfmafcmaa", sum := "d0b423a7520c00f9315d6968d3ec6f780e232044299b19feffc76a6abf715902", func := "nightjar/nightjarlaw01.SatSub", spec := "satSub", apart := false }
def SatSubSaid : Prop := satSubRow.holds Try.pinned (OpenSpec.ofChange satSubSpec)

/-- ITS FALSE NEIGHBOUR: 'it returns false'. Refute it at one input. -/
def satSubWrong : ChangeSpec := { name := "satSub", fn := fun _ => fun
  | [d1, d2] => { results := [.lit (.bool false)], args := [d1, d2] }
  | _ => none }
def SatSubWrongFalsely : Prop := satSubRow.holds Try.pinned (OpenSpec.ofChange satSubWrong)

/-- 'nightjarlaw01.SatSpreads': WHATEVER THE INPUT: true; the input reads as it did. -/
def satSpreadsSpec : ChangeSpec := { name := "satSpreads", fn := fun _ => fun
  | [d1, d2, d3] => { results := [.lit (.bool true)], args := [d1, d2, d3] }
  | _ => none }
def satSpreadsRow : OpenClaim := { program := "ytnmaipmfmafcmaa", sum := "d0b423a7520c00f9315d6968d3ec6f780e232044299b19feffc76a6abf715902", func := "nightjar/nightjarlaw01.SatSpreads", spec := "satSpreads", apart := false }
def SatSpreadsSaid : Prop := satSpreadsRow.holds Try.pinned (OpenSpec.ofChange satSpreadsSpec)

/-- ITS FALSE NEIGHBOUR: 'it returns false'. Refute it at one input. -/
def satSpreadsWrong : ChangeSpec := { name := "satSpreads", fn := fun _ => fun
  | [d1, d2, d3] => { results := [.lit (.bool false)], args := [d1, d2, d3] }
  | _ => none }
def SatSpreadsWrongFalsely : Prop := satSpreadsRow.holds Try.pinned (OpenSpec.ofChange satSpreadsWrong)

/-- 'nightjarlaw01.SatSums': WHATEVER THE INPUT: true; the input reads as it did. -/
def satSumsSpec : ChangeSpec := { name := "satSums", fn := fun _ => fun
  | [d1, d2] => { results := [.lit (.bool true)], args := [d1, d2] }
  | _ => none }
def satSumsRow : OpenClaim := { program := "ytnmaipmfmafcmaa", sum := "d0b423a7520c00f9315d6968d3ec6f780e232044299b19feffc76a6abf715902", func := "nightjar/nightjarlaw01.SatSums", spec := "satSums", apart := false }
def SatSumsSaid : Prop := satSumsRow.holds Try.pinned (OpenSpec.ofChange satSumsSpec)

/-- ITS FALSE NEIGHBOUR: 'it returns false'. Refute it at one input. -/
def satSumsWrong : ChangeSpec := { name := "satSums", fn := fun _ => fun
  | [d1, d2] => { results := [.lit (.bool false)], args := [d1, d2] }
  | _ => none }
def SatSumsWrongFalsely : Prop := satSumsRow.holds Try.pinned (OpenSpec.ofChange satSumsWrong)

/-- 'nightjarlaw01.SatRises': WHATEVER THE INPUT: true; the input reads as it did. -/
def satRisesSpec : ChangeSpec := { name := "satRises", fn := fun _ => fun
  | [d1, d2, d3] => { results := [.lit (.bool true)], args := [d1, d2, d3] }
  | _ => none }
def satRisesRow : OpenClaim := { program := "ytnmaipmfmafcmaa", sum := "d0b423a7520c00f9315d6968d3ec6f780e232044299b19feffc76a6abf715902", func := "nightjar/nightjarlaw01.SatRises", spec := "satRises", apart := false }
def SatRisesSaid : Prop := satRisesRow.holds Try.pinned (OpenSpec.ofChange satRisesSpec)

/-- ITS FALSE NEIGHBOUR: 'it returns false'. Refute it at one input. -/
def satRisesWrong : ChangeSpec := { name := "satRises", fn := fun _ => fun
  | [d1, d2, d3] => { results := [.lit (.bool false)], args := [d1, d2, d3] }
  | _ => none }
def SatRisesWrongFalsely : Prop := satRisesRow.holds Try.pinned (OpenSpec.ofChange satRisesWrong)

/- THE SECOND FORM. 'bulk': how many values and letters a reading holds, each counted each time it is reached (what is shared counts as often as it is met; a slice's spare places count too). A statement '..UptoSaid' is the law's where the arguments, and the package variables that the reading takes, are together of bulk at most 1048576: NARROWER than '..Said'. Prove '..Said' where nothing that the law and all that it calls make is longer than what came in: it says more and counts as full. Else prove '..UptoSaid'. A law counts once. -/
mutual
def uptoBulk {H : Type} : DataW H → Nat
  | .lit (.string bytes) => bytes.length + 1
  | .lit _ => 1
  | .nil => 1
  | .ptr d => uptoBulk d + 1
  | .slice elems spare => uptoBulkAll elems + uptoBulkAll spare + 1
  | .agg parts => uptoBulkAll parts + 1
  | .iface _ d => uptoBulk d + 1
  | .map entries => uptoBulkEntries entries + 1
  | .held _ => 1
def uptoBulkAll {H : Type} : List (DataW H) → Nat
  | [] => 0
  | d :: r => uptoBulk d + uptoBulkAll r
def uptoBulkEntries {H : Type} : List (Lit × DataW H) → Nat
  | [] => 0
  | x :: r => uptoBulkEntry x + uptoBulkEntries r
def uptoBulkEntry {H : Type} : Lit × DataW H → Nat
  | (.string bytes, d) => bytes.length + uptoBulk d + 1
  | (_, d) => uptoBulk d + 1
 end
def uptoSmall : (H : Type) → List (DataW H) → Bool := fun _ ds => decide (uptoBulkAll ds ≤ 1048576)
def OpenSpec.upto (s : _root_.Go.ChangeSpec) : _root_.Go.OpenSpec := { _root_.Go.OpenSpec.ofChange s with cond := some uptoSmall }

/-- 'nightjarlaw01.SatTells', WHERE WHAT IT READS IS OF BULK AT MOST 1048576: true; the input reads as it did. -/
def satTellsUptoRow : OpenClaim := { program := "ytnmaipmfmafcmaa", sum := "d0b423a7520c00f9315d6968d3ec6f780e232044299b19feffc76a6abf715902", func := "nightjar/nightjarlaw01.SatTells", spec := "satTells", apart := false, narrowed := true }
def SatTellsUptoSaid : Prop := satTellsUptoRow.holds Try.pinned (OpenSpec.upto satTellsSpec)

/-- 'nightjarlaw01.SatRange', WHERE WHAT IT READS IS OF BULK AT MOST 1048576: true; the input reads as it did. -/
def satRangeUptoRow : OpenClaim := { program := "ytnmaipmfmafcmaa", sum := "d0b423a7520c00f9315d6968d3ec6f780e232044299b19feffc76a6abf715902", func := "nightjar/nightjarlaw01.SatRange", spec := "satRange", apart := false, narrowed := true }
def SatRangeUptoSaid : Prop := satRangeUptoRow.holds Try.pinned (OpenSpec.upto satRangeSpec)

/-- 'nightjarlaw01.SatOrder', WHERE WHAT IT READS IS OF BULK AT MOST 1048576: true; the input reads as it did. -/
def satOrderUptoRow : OpenClaim := { program := "ytnmaipmfmafcmaa", sum := "d0b423a7520c00f9315d6968d3ec6f780e232044299b19feffc76a6abf715902", func := "nightjar/nightjarlaw01.SatOrder", spec := "satOrder", apart := false, narrowed := true }
def SatOrderUptoSaid : Prop := satOrderUptoRow.holds Try.pinned (OpenSpec.upto satOrderSpec)

/-- 'nightjarlaw01.SatMean', WHERE WHAT IT READS IS OF BULK AT MOST 1048576: true; the input reads as it did. -/
def satMeanUptoRow : OpenClaim := { program := "ytnmaipmfmafcmaa", sum := "d0b423a7520c00f9315d6968d3ec6f780e232044299b19feffc76a6abf715902", func := "nightjar/nightjarlaw01.SatMean", spec := "satMean", apart := false, narrowed := true }
def SatMeanUptoSaid : Prop := satMeanUptoRow.holds Try.pinned (OpenSpec.upto satMeanSpec)

/-- 'nightjarlaw01.SatSub', WHERE WHAT IT READS IS OF BULK AT MOST 1048576: true; the input reads as it did. -/
def satSubUptoRow : OpenClaim := { program := "ytnmaipmfmafcmaa", sum := "d0b423a7520c00f9315d6968d3ec6f780e232044299b19feffc76a6abf715902", func := "nightjar/nightjarlaw01.SatSub", spec := "satSub", apart := false, narrowed := true }
def SatSubUptoSaid : Prop := satSubUptoRow.holds Try.pinned (OpenSpec.upto satSubSpec)

/-- 'nightjarlaw01.SatSpreads', WHERE WHAT IT READS IS OF BULK AT MOST 1048576: true; the input reads as it did. -/
def satSpreadsUptoRow : OpenClaim := { program := "ytnmaipmfmafcmaa", sum := "d0b423a7520c00f9315d6968d3ec6f780e232044299b19feffc76a6abf715902", func := "nightjar/nightjarlaw01.SatSpreads", spec := "satSpreads", apart := false, narrowed := true }
def SatSpreadsUptoSaid : Prop := satSpreadsUptoRow.holds Try.pinned (OpenSpec.upto satSpreadsSpec)

/-- 'nightjarlaw01.SatSums', WHERE WHAT IT READS IS OF BULK AT MOST 1048576: true; the input reads as it did. -/
def satSumsUptoRow : OpenClaim := { program := "ytnmaipmfmafcmaa", sum := "d0b423a7520c00f9315d6968d3ec6f780e232044299b19feffc76a6abf715902", func := "nightjar/nightjarlaw01.SatSums", spec := "satSums", apart := false, narrowed := true }
def SatSumsUptoSaid : Prop := satSumsUptoRow.holds Try.pinned (OpenSpec.upto satSumsSpec)

/-- 'nightjarlaw01.SatRises', WHERE WHAT IT READS IS OF BULK AT MOST 1048576: true; the input reads as it did. -/
def satRisesUptoRow : OpenClaim := { program := "ytnmaipmfmafcmaa", sum := "d0b423a7520c00f9315d6968d3ec6f780e232044299b19feffc76a6abf715902", func := "nightjar/nightjarlaw01.SatRises", spec := "satRises", apart := false, narrowed := true }
def SatRisesUptoSaid : Prop := satRisesUptoRow.holds Try.pinned (OpenSpec.upto satRisesSpec)

end Rows
end Go.Proofs.Ytnmaipmfmafcmaa

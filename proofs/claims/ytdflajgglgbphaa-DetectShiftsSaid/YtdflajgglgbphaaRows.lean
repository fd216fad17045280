/-
  No cell of these rows narrows 'for every input' (looked for: loops, veiled, ifaces, maps, wideKeys, modest, calm, conditions, laid).
  DERIVED. THE GIVEN ROWS OF THIS SEAT. 6 by the template 'for every input the law returns true; each argument reads behind the call as it read before'; 0 by the template 'total and deterministic' (their statements: YtdflajgglgbphaaTotals.lean).
  GIVEN WITH THE SEED: the statements are not yours to turn. If you find one false, say at which input.
  Laid BY PROGRAM, IN A SANDBOX (cutbox-rows.mjs): the forced cells as the released guide's own fill.sh prints them over the translation e4fb2989c4204c3a… (all of the seat's roots in one cut). By AI agents, Wed Nov 11 2026. No macro, syntax, notation, axiom, sorry.
-/
import Derived.Test.YtdflajgglgbphaaChecked
import GoSem.Claim
import GoSem.ClaimJoined
import GoSem.ClaimMapViews
import Derived.JoinedTies
import Derived.KernelRfl
namespace Go.Proofs.Ytdflajgglgbphaa
/- THE CELL 'sum', in the pinned program and in every row, IS THE sha256 OF THE DUMP (.gsa) THAT YtdflajgglgbphaaProg.lean LOADS. Nothing in Lean hashes anything: it is a label: what it is worth is what the hold of that sum in a sandbox is worth. -/
noncomputable def Try.pinned : Pinned := { name := "ytdflajgglgbphaa", sum := "e4fb2989c4204c3a9e84e28f5823e6d3d2db21d1c9655b3e3fbadd5399287926", checked := Try.checked }
namespace Rows
def none {H : Type} : Left H := { results := [], args := [] }

/-- 'nightjarlaw14.DetectTells': WHATEVER THE INPUT: true; the input reads as it did. -/
def detectTellsSpec : ChangeSpec := { name := "detectTells", fn := fun _ => fun
  | [d1, d2, d3] => { results := [.lit (.bool true)], args := [d1, d2, d3] }
  | _ => none }
def detectTellsRow : OpenClaim := { program := "ytdflajgglgbphaa", sum := "e4fb2989c4204c3a9e84e28f5823e6d3d2db21d1c9655b3e3fbadd5399287926", func := "nightjar/nightjarlaw14.DetectTells", spec := "detectTells", apart := false }
def DetectTellsSaid : Prop := detectTellsRow.holds Try.pinned (OpenSpec.ofChange detectTellsSpec)

/-- ITS FALSE NEIGHBOUR: 'it returns false'. Refute it at one input. -/
def detectTellsWrong : ChangeSpec := { name := "detectTells", fn := fun _ => fun
  | [d1, d2, d3] => { results := [.lit (.bool false)], args := [d1, d2, d3] }
  | _ => none }
def DetectTellsWrongFalsely : Prop := detectTellsRow.holds Try.pinned (OpenSpec.ofChange detectTellsWrong)

/-- 'nightjarlaw14.DetectBounds': WHATEVER THE INPUT: true; the input reads as it did. -/
def detectBoundsSpec : ChangeSpec := { name := "detectBounds", fn := fun _ => fun
  | [d1, d2] => { results := [.lit (.bool true)], args := [d1, d2] }
  | _ => none }
def detectBoundsRow : OpenClaim := { program := "ytdflajgglgbphaa", sum := "e4fb2989c4204c3a9e84e28f5823e6d3d2db21d1c9655b3e3fbadd5399287926", func := "nightjar/nightjarlaw14.DetectBounds", spec := "detectBounds", apart := false }
def DetectBoundsSaid : Prop := detectBoundsRow.holds Try.pinned (OpenSpec.ofChange detectBoundsSpec)

/-- ITS FALSE NEIGHBOUR: 'it returns false'. Refute it at one input. -/
def detectBoundsWrong : ChangeSpec := { name := "detectBounds", fn := fun _ => fun
  | [d1, d2] => { results := [.lit (.bool false)], args := [d1, d2] }
  | _ => none }
def DetectBoundsWrongFalsely : Prop := detectBoundsRow.holds Try.pinned (OpenSpec.ofChange detectBoundsWrong)

/-- 'nightjarlaw14.DetectEven': WHATEVER THE INPUT: true; the input reads as it did. -/
def detectEvenSpec : ChangeSpec := { name := "detectEven", fn := fun _ => fun
  | [d1, d2] => { results := [.lit (.bool true)], args := [d1, d2] }
  | _ => none }
def detectEvenRow : OpenClaim := { program := "ytdflajgglgbphaa", sum := "e4fb2989c4204c3a9e84e28f5823e6d3d2db21d1c9655b3e3fbadd5399287926", func := "nightjar/nightjarlaw14.DetectEven", spec := "detectEven", apart := false }
def DetectEvenSaid : Prop := detectEvenRow.holds Try.pinned (OpenSpec.ofChange detectEvenSpec)

/-- ITS FALSE NEIGHBOUR: 'it returns false'. Refute it at one input. -/
def detectEvenWrong : ChangeSpec := { name := "detectEven", fn := fun _ => fun
  | [d1, d2] => { results := [.lit (.bool false)], args := [d1, d2] }
  | _ => none }
def DetectEvenWrongFalsely : Prop := detectEvenRow.holds Try.pinned (OpenSpec.ofChange detectEvenWrong)

/-- 'nightjarlaw14.DetectShifts': WHATEVER THE INPUT: true; the input reads as it did. -/
def detectShiftsSpec : ChangeSpec := { name := "detectShifts", fn := fun _ => fun
  | [d1, d2] => { results := [.lit (.bool true)], args := [d1, d2] }
  | _ => none }
def detectShiftsRow : OpenClaim := { program := "ytdflajgglgbphaa", sum := "e4fb2989c4204c3a9e84e28f5823e6d3d2db21d1c9655b3e3fbadd5399287926", func := "nightjar/nightjarlaw14.DetectShifts", spec := "detectShifts", apart := false }
def DetectShiftsSaid : Prop := detectShiftsRow.holds Try.pinned (OpenSpec.ofChange detectShiftsSpec)

/-- ITS FALSE NEIGHBOUR: 'it returns false'. Refute it at one input. -/
def detectShiftsWrong : ChangeSpec := { name := "detectShifts", fn := fun _ => fun
  | [d1, d2] => { results := [.lit (.bool false)], args := [d1, d2] }
  | _ => none }
def DetectShiftsWrongFalsely : Prop := detectShiftsRow.holds Try.pinned (OpenSpec.ofChange detectShiftsWrong)

/-- 'nightjarlaw14.DetectLater': WHATEVER THE INPUT: true; the input reads as it did. -/
def detectLaterSpec : ChangeSpec := { name := "detectLater", fn := fun _ => fun
  | [d1, d2, d3, d4] => { results := [.lit (.bool true)], args := [d1, d2, d3, d4] }
  | _ => none }
def detectLaterRow : OpenClaim := { program := "ytdflajgglgbphaa", sum := "e4fb2989c4204c3a9e84e28f5823e6d3d2db21d1c9655b3e3fbadd5399287926", func := "nightjar/nightjarlaw14.DetectLater", spec := "detectLater", apart := false }
def DetectLaterSaid : Prop := detectLaterRow.holds Try.pinned (OpenSpec.ofChange detectLaterSpec)

/-- ITS FALSE NEIGHBOUR: 'it returns false'. Refute it at one input. -/
def detectLaterWrong : ChangeSpec := { name := "detectLater", fn := fun _ => fun
  | [d1, d2, d3, d4] => { results := [.lit (.bool false)], args := [d1, d2, d3, d4] }
  | _ => none }
def DetectLaterWrongFalsely : Prop := detectLaterRow.holds Try.pinned (OpenSpec.ofChange detectLaterWrong)

/-- 'nightjarlaw14.DetectForgets': WHATEVER THE INPUT: true; the input reads as it did. -/
def detectForgetsSpec : ChangeSpec := { name := "detectForgets", fn := fun _ => fun
  | [d1, d2, d3] => { results := [.lit (.bool true)], args := [d1, d2, d3] }
  | _ => none }
def detectForgetsRow : OpenClaim := { program := "ytdflajgglgbphaa", sum := "e4fb2989c4204c3a9e84e28f5823e6d3d2db21d1c9655b3e3fbadd5399287926", func := "nightjar/nightjarlaw14.DetectForgets", spec := "detectForgets", apart := false }
def DetectForgetsSaid : Prop := detectForgetsRow.holds Try.pinned (OpenSpec.ofChange detectForgetsSpec)

/-- ITS FALSE NEIGHBOUR: 'it returns false'. Refute it at one input. -/
def detectForgetsWrong : ChangeSpec := { name := "detectForgets", fn := fun _ => fun
  | [d1, d2, d3] => { results := [.lit (.bool false)], args := [d1, d2, d3] }
  | _ => none }
def DetectForgetsWrongFalsely : Prop := detectForgetsRow.holds Try.pinned (OpenSpec.ofChange detectForgetsWrong)

/- THE SECOND FORM. 'bulk': how many values and letters a reading holds, each counted each time it is reached (what is shared counts as often as it is met; a slice's spare places count too). A statement '..UptoSaid' is the law's where the arguments, and the package variables that the reading takes, are together of bulk at most 1048576: NARROWER than '..Said'. Prove '..Said' where nothing that the law and all that it calls make is longer than what came in: it says more and counts as full. Else prove '..UptoSaid'. A law counts once. -/
mutual
def uptoBulk {H : Type} : DataW H → Nat
  | .lit (.string bytes) => bytes.length + 1
  | .lit _ => 1
  | .nil => 1
  | .ptr d => uptoBulk d + 1
  | .slice elems spare => uptoBulkAll elems + uptoBulkAll spare + 1
  | .agg parts => uptoBulkAll parts + 1
  | .iface _ d => uptoBulk d + 1
  | .map entries => uptoBulkEntries entries + 1
  | .held _ => 1
def uptoBulkAll {H : Type} : List (DataW H) → Nat
  | [] => 0
  | d :: r => uptoBulk d + uptoBulkAll r
def uptoBulkEntries {H : Type} : List (Lit × DataW H) → Nat
  | [] => 0
  | x :: r => uptoBulkEntry x + uptoBulkEntries r
def uptoBulkEntry {H : Type} : Lit × DataW H → Nat
  | (.string bytes, d) => bytes.length + uptoBulk d + 1
  | (_, d) => uptoBulk d + 1
 end
def uptoSmall : (H : Type) → List (DataW H) → Bool := fun _ ds => decide (uptoBulkAll ds ≤ 1048576)
def OpenSpec.upto (s : _root_.Go.ChangeSpec) : _root_.Go.OpenSpec := { _root_.Go.OpenSpec.ofChange s with cond := some uptoSmall }

/-- 'nightjarlaw14.DetectTells', WHERE WHAT IT READS IS OF BULK AT MOST 1048576: true; the input reads as it did. -/
def detectTellsUptoRow : OpenClaim := { program := "ytdflajgglgbphaa", sum := "e4fb2989c4204c3a9e84e28f5823e6d3d2db21d1c9655b3e3fbadd5399287926", func := "nightjar/nightjarlaw14.DetectTells", spec := "detectTells", apart := false, narrowed := true }
def DetectTellsUptoSaid : Prop := detectTellsUptoRow.holds Try.pinned (OpenSpec.upto detectTellsSpec)

/-- 'nightjarlaw14.DetectBounds', WHERE WHAT IT READS IS OF BULK AT MOST 1048576: true; the input reads as it did. -/
def detectBoundsUptoRow : OpenClaim := { program := "ytdflajgglgbphaa", sum := "e4fb2989c4204c3a9e84e28f5823e6d3d2db21d1c9655b3e3fbadd5399287926", func := "nightjar/nightjarlaw14.DetectBounds", spec := "detectBounds", apart := false, narrowed := true }
def DetectBoundsUptoSaid : Prop := detectBoundsUptoRow.holds Try.pinned (OpenSpec.upto detectBoundsSpec)

/-- 'nightjarlaw14.DetectEven', WHERE WHAT IT READS IS OF BULK AT MOST 1048576: true; the input reads as it did. -/
def detectEvenUptoRow : OpenClaim := { program := "ytdflajgglgbphaa", sum := "e4fb2989c4204c3a9e84e28f5823e6d3d2db21d1c9655b3e3fbadd5399287926", func := "nightjar/nightjarlaw14.DetectEven", spec := "detectEven", apart := false, narrowed := true }
def DetectEvenUptoSaid : Prop := detectEvenUptoRow.holds Try.pinned (OpenSpec.upto detectEvenSpec)

/-- 'nightjarlaw14.DetectShifts', WHERE WHAT IT READS IS OF BULK AT MOST 1048576: true; the input reads as it did. -/
def detectShiftsUptoRow : OpenClaim := { program := "ytdflajgglgbphaa", sum := "e4fb2989c4204c3a9e84e28f5823e6d3d2db21d1c9655b3e3fbadd5399287926", func := "nightjar/nightjarlaw14.DetectShifts", spec := "detectShifts", apart := false, narrowed := true }
def DetectShiftsUptoSaid : Prop := detectShiftsUptoRow.holds Try.pinned (OpenSpec.upto detectShiftsSpec)

/-- 'nightjarlaw14.DetectLater', WHERE WHAT IT READS IS OF BULK AT MOST 1048576: true; the input reads as it did. -/
def detectLaterUptoRow : OpenClaim := { program := "ytdflajgglgbphaa", sum := "e4fb2989c4204c3a9e84e28f5823e6d3d2db21d1c9655b3e3fbadd5399287926", func := "nightjar/nightjarlaw14.DetectLater", spec := "detectLater", apart := false, narrowed := true }
def DetectLaterUptoSaid : Prop := detectLaterUptoRow.holds Try.pinned (OpenSpec.upto detectLaterSpec)

/-- 'nightjarlaw14.DetectForgets', WHERE WHAT IT READS IS OF BULK AT MOST 1048576: true; the input reads as it did. -/
def detectForgetsUptoRow : OpenClaim := { program := "ytdflajgglgbphaa", sum := "e4fb2989c4204c3a9e84e28f5823e6d3d2db21d1c9655b3e3fbadd5399287926", func := "nightjar/nightjarlaw14.DetectForgets", spec := "detectForgets", apart := false, narrowed := true }
def DetectForgetsUptoSaid : Prop := detectForgetsUptoRow.holds Try.pinned (OpenSpec.upto detectForgetsSpec)

end Rows
end Go.Proofs.Ytdflajgglgbphaa

/-
  No cell of these rows narrows 'for every input' (looked for: loops, veiled, ifaces, maps, wideKeys, modest, calm, conditions, laid).
  DERIVED. THE GIVEN ROWS OF THIS SEAT. 6 by the template 'for every input the law returns true; each argument reads behind the call as it read before'; 0 by the template 'total and deterministic' (their statements: YteilgibfmljoeaaTotals.lean).
  GIVEN WITH THE SEED: the statements are not yours to turn. If you find one false, say at which input.
  Laid BY PROGRAM, IN A SANDBOX (cutbox-rows.mjs): the forced cells as the released guide's own fill.sh prints them over the translation 9eb05c7225988b80… (all of the seat's roots in one cut). By AI agents, Wed Nov 11 2026. No macro, syntax, notation, axiom, sorry.
-/
import Derived.Test.YteilgibfmljoeaaChecked
import GoSem.Claim
import GoSem.ClaimJoined
import GoSem.ClaimMapViews
import Derived.JoinedTies
import Derived.KernelRfl
namespace Go.Proofs.Yteilgibfmljoeaa
/- THE CELL 'sum', in the pinned program and in every row, IS THE sha256 OF THE DUMP (.gsa) THAT YteilgibfmljoeaaProg.lean LOADS. Nothing in Lean hashes anything: it is a label: what it is worth is what the hold of that sum in a sandbox is worth. -/
noncomputable def Try.pinned : Pinned := { name := "yteilgibfmljoeaa", sum := "9eb05c7225988b80528eab9f65df488621ae187eed98aecaa83c2de96cc986b4", checked := Try.checked }
namespace Rows
def none {H : Type} : Left H := { results := [], args := [] }

/-- 'nightjarlaw12.ChannelEnds': WHATEVER THE INPUT: true; the input reads as it did. -/
def channelEndsSpec : ChangeSpec := { name := "channelEnds", fn := fun _ => fun
  | [d1, d2, d3] => { results := [.lit (.bool true)], args := [d1, d2, d3] }
  | _ => none }
def channelEndsRow : OpenClaim := { program := "yteilgibfmljoeaa", sum := "9eb05c7225988b80528eab9f65df488621ae187eed98aecaa83c2de96cc986b4", func := "nightjar/nightjarlaw12.ChannelEnds", spec := "channelEnds", unfollowed := true, recurses := true, apart := false }
def ChannelEndsSaid : Prop := channelEndsRow.holds Try.pinned (OpenSpec.ofChange channelEndsSpec)

/-- ITS FALSE NEIGHBOUR: 'it returns false'. Refute it at one input. -/
def channelEndsWrong : ChangeSpec := { name := "channelEnds", fn := fun _ => fun
  | [d1, d2, d3] => { results := [.lit (.bool false)], args := [d1, d2, d3] }
  | _ => none }
def ChannelEndsWrongFalsely : Prop := channelEndsRow.holds Try.pinned (OpenSpec.ofChange channelEndsWrong)

/-- 'nightjarlaw12.ChannelWaits': WHATEVER THE INPUT: true; the input reads as it did. -/
def channelWaitsSpec : ChangeSpec := { name := "channelWaits", fn := fun _ => fun
  | [d1, d2, d3] => { results := [.lit (.bool true)], args := [d1, d2, d3] }
  | _ => none }
def channelWaitsRow : OpenClaim := { program := "yteilgibfmljoeaa", sum := "9eb05c7225988b80528eab9f65df488621ae187eed98aecaa83c2de96cc986b4", func := "nightjar/nightjarlaw12.ChannelWaits", spec := "channelWaits", unfollowed := true, recurses := true, apart := false }
def ChannelWaitsSaid : Prop := channelWaitsRow.holds Try.pinned (OpenSpec.ofChange channelWaitsSpec)

/-- ITS FALSE NEIGHBOUR: 'it returns false'. Refute it at one input. -/
def channelWaitsWrong : ChangeSpec := { name := "channelWaits", fn := fun _ => fun
  | [d1, d2, d3] => { results := [.lit (.bool false)], args := [d1, d2, d3] }
  | _ => none }
def ChannelWaitsWrongFalsely : Prop := channelWaitsRow.holds Try.pinned (OpenSpec.ofChange channelWaitsWrong)

/-- 'nightjarlaw12.ChannelGrows': WHATEVER THE INPUT: true; the input reads as it did. -/
def channelGrowsSpec : ChangeSpec := { name := "channelGrows", fn := fun _ => fun
  | [d1, d2, d3] => { results := [.lit (.bool true)], args := [d1, d2, d3] }
  | _ => none }
def channelGrowsRow : OpenClaim := { program := "yteilgibfmljoeaa", sum := "9eb05c7225988b80528eab9f65df488621ae187eed98aecaa83c2de96cc986b4", func := "nightjar/nightjarlaw12.ChannelGrows", spec := "channelGrows", unfollowed := true, recurses := true, apart := false }
def ChannelGrowsSaid : Prop := channelGrowsRow.holds Try.pinned (OpenSpec.ofChange channelGrowsSpec)

/-- ITS FALSE NEIGHBOUR: 'it returns false'. Refute it at one input. -/
def channelGrowsWrong : ChangeSpec := { name := "channelGrows", fn := fun _ => fun
  | [d1, d2, d3] => { results := [.lit (.bool false)], args := [d1, d2, d3] }
  | _ => none }
def ChannelGrowsWrongFalsely : Prop := channelGrowsRow.holds Try.pinned (OpenSpec.ofChange channelGrowsWrong)

/-- 'nightjarlaw12.ChannelTells': WHATEVER THE INPUT: true; the input reads as it did. -/
def channelTellsSpec : ChangeSpec := { name := "channelTells", fn := fun _ => fun
  | [d1, d2, d3] => { results := [.lit (.bool true)], args := [d1, d2, d3] }
  | _ => none }
def channelTellsRow : OpenClaim := { program := "yteilgibfmljoeaa", sum := "9eb05c7225988b80528eab9f65df488621ae187eed98aecaa83c2de96cc986b4", func := "nightjar/nightjarlaw12.ChannelTells", spec := "channelTells", unfollowed := true, recurses := true, apart := false }
def ChannelTellsSaid : Prop := channelTellsRow.holds Try.pinned (OpenSpec.ofChange channelTellsSpec)

/-- ITS FALSE NEIGHBOUR: 'it returns false'. Refute it at one input. -/
def channelTellsWrong : ChangeSpec := { name := "channelTells", fn := fun _ => fun
  | [d1, d2, d3] => { results := [.lit (.bool false)], args := [d1, d2, d3] }
  | _ => none }
def ChannelTellsWrongFalsely : Prop := channelTellsRow.holds Try.pinned (OpenSpec.ofChange channelTellsWrong)

/-- 'nightjarlaw12.ChannelSends': WHATEVER THE INPUT: true; the input reads as it did. -/
def channelSendsSpec : ChangeSpec := { name := "channelSends", fn := fun _ => fun
  | [d1, d2] => { results := [.lit (.bool true)], args := [d1, d2] }
  | _ => none }
def channelSendsRow : OpenClaim := { program := "yteilgibfmljoeaa", sum := "9eb05c7225988b80528eab9f65df488621ae187eed98aecaa83c2de96cc986b4", func := "nightjar/nightjarlaw12.ChannelSends", spec := "channelSends", unfollowed := true, recurses := true, apart := false }
def ChannelSendsSaid : Prop := channelSendsRow.holds Try.pinned (OpenSpec.ofChange channelSendsSpec)

/-- ITS FALSE NEIGHBOUR: 'it returns false'. Refute it at one input. -/
def channelSendsWrong : ChangeSpec := { name := "channelSends", fn := fun _ => fun
  | [d1, d2] => { results := [.lit (.bool false)], args := [d1, d2] }
  | _ => none }
def ChannelSendsWrongFalsely : Prop := channelSendsRow.holds Try.pinned (OpenSpec.ofChange channelSendsWrong)

/-- 'nightjarlaw12.ChannelVoids': WHATEVER THE INPUT: true; the input reads as it did. -/
def channelVoidsSpec : ChangeSpec := { name := "channelVoids", fn := fun _ => fun
  | [d1, d2, d3] => { results := [.lit (.bool true)], args := [d1, d2, d3] }
  | _ => none }
def channelVoidsRow : OpenClaim := { program := "yteilgibfmljoeaa", sum := "9eb05c7225988b80528eab9f65df488621ae187eed98aecaa83c2de96cc986b4", func := "nightjar/nightjarlaw12.ChannelVoids", spec := "channelVoids", unfollowed := true, recurses := true, apart := false }
def ChannelVoidsSaid : Prop := channelVoidsRow.holds Try.pinned (OpenSpec.ofChange channelVoidsSpec)

/-- ITS FALSE NEIGHBOUR: 'it returns false'. Refute it at one input. -/
def channelVoidsWrong : ChangeSpec := { name := "channelVoids", fn := fun _ => fun
  | [d1, d2, d3] => { results := [.lit (.bool false)], args := [d1, d2, d3] }
  | _ => none }
def ChannelVoidsWrongFalsely : Prop := channelVoidsRow.holds Try.pinned (OpenSpec.ofChange channelVoidsWrong)

/- THE SECOND FORM. 'bulk': how many values and letters a reading holds, each counted each time it is reached (what is shared counts as often as it is met; a slice's spare places count too). A statement '..UptoSaid' is the law's where the arguments, and the package variables that the reading takes, are together of bulk at most 1048576: NARROWER than '..Said'. Prove '..Said' where nothing that the law and all that it calls make is longer than what came in: it says more and counts as full. Else prove '..UptoSaid'. A law counts once. -/
mutual
def uptoBulk {H : Type} : DataW H → Nat
  | .lit (.string bytes) => bytes.length + 1
  | .lit _ => 1
  | .nil => 1
  | .ptr d => uptoBulk d + 1
  | .slice elems spare => uptoBulkAll elems + uptoBulkAll spare + 1
  | .agg parts => uptoBulkAll parts + 1
  | .iface _ d => uptoBulk d + 1
  | .map entries => uptoBulkEntries entries + 1
  | .held _ => 1
def uptoBulkAll {H : Type} : List (DataW H) → Nat
  | [] => 0
  | d :: r => uptoBulk d + uptoBulkAll r
def uptoBulkEntries {H : Type} : List (Lit × DataW H) → Nat
  | [] => 0
  | x :: r => uptoBulkEntry x + uptoBulkEntries r
def uptoBulkEntry {H : Type} : Lit × DataW H → Nat
  | (.string bytes, d) => bytes.length + uptoBulk d + 1
  | (_, d) => uptoBulk d + 1
 end
def uptoSmall : (H : Type) → List (DataW H) → Bool := fun _ ds => decide (uptoBulkAll ds ≤ 1048576)
def OpenSpec.upto (s : _root_.Go.ChangeSpec) : _root_.Go.OpenSpec := { _root_.Go.OpenSpec.ofChange s with cond := some uptoSmall }

/-- 'nightjarlaw12.ChannelEnds', WHERE WHAT IT READS IS OF BULK AT MOST 1048576: true; the input reads as it did. -/
def channelEndsUptoRow : OpenClaim := { program := "yteilgibfmljoeaa", sum := "9eb05c7225988b80528eab9f65df488621ae187eed98aecaa83c2de96cc986b4", func := "nightjar/nightjarlaw12.ChannelEnds", spec := "channelEnds", unfollowed := true, recurses := true, apart := false, narrowed := true }
def ChannelEndsUptoSaid : Prop := channelEndsUptoRow.holds Try.pinned (OpenSpec.upto channelEndsSpec)

/-- 'nightjarlaw12.ChannelWaits', WHERE WHAT IT READS IS OF BULK AT MOST 1048576: true; the input reads as it did. -/
def channelWaitsUptoRow : OpenClaim := { program := "yteilgibfmljoeaa", sum := "9eb05c7225988b80528eab9f65df488621ae187eed98aecaa83c2de96cc986b4", func := "nightjar/nightjarlaw12.ChannelWaits", spec := "channelWaits", unfollowed := true, recurses := true, apart := false, narrowed := true }
def ChannelWaitsUptoSaid : Prop := channelWaitsUptoRow.holds Try.pinned (OpenSpec.upto channelWaitsSpec)

/-- 'nightjarlaw12.ChannelGrows', WHERE WHAT IT READS IS OF BULK AT MOST 1048576: true; the input reads as it did. -/
def channelGrowsUptoRow : OpenClaim := { program := "yteilgibfmljoeaa", sum := "9eb05c7225988b80528eab9f65df488621ae187eed98aecaa83c2de96cc986b4", func := "nightjar/nightjarlaw12.ChannelGrows", spec := "channelGrows", unfollowed := true, recurses := true, apart := false, narrowed := true }
def ChannelGrowsUptoSaid : Prop := channelGrowsUptoRow.holds Try.pinned (OpenSpec.upto channelGrowsSpec)

/-- 'nightjarlaw12.ChannelTells', WHERE WHAT IT READS IS OF BULK AT MOST 1048576: true; the input reads as it did. -/
def channelTellsUptoRow : OpenClaim := { program := "yteilgibfmljoeaa", sum := "9eb05c7225988b80528eab9f65df488621ae187eed98aecaa83c2de96cc986b4", func := "nightjar/nightjarlaw12.ChannelTells", spec := "channelTells", unfollowed := true, recurses := true, apart := false, narrowed := true }
def ChannelTellsUptoSaid : Prop := channelTellsUptoRow.holds Try.pinned (OpenSpec.upto channelTellsSpec)

/-- 'nightjarlaw12.ChannelSends', WHERE WHAT IT READS IS OF BULK AT MOST 1048576: true; the input reads as it did. -/
def channelSendsUptoRow : OpenClaim := { program := "yteilgibfmljoeaa", sum := "9eb05c7225988b80528eab9f65df488621ae187eed98aecaa83c2de96cc986b4", func := "nightjar/nightjarlaw12.ChannelSends", spec := "channelSends", unfollowed := true, recurses := true, apart := false, narrowed := true }
def ChannelSendsUptoSaid : Prop := channelSendsUptoRow.holds Try.pinned (OpenSpec.upto channelSendsSpec)

/-- 'nightjarlaw12.ChannelVoids', WHERE WHAT IT READS IS OF BULK AT MOST 1048576: true; the input reads as it did. -/
def channelVoidsUptoRow : OpenClaim := { program := "yteilgibfmljoeaa", sum := "9eb05c7225988b80528eab9f65df488621ae187eed98aecaa83c2de96cc986b4", func := "nightjar/nightjarlaw12.ChannelVoids", spec := "channelVoids", unfollowed := true, recurses := true, apart := false, narrowed := true }
def ChannelVoidsUptoSaid : Prop := channelVoidsUptoRow.holds Try.pinned (OpenSpec.upto channelVoidsSpec)

end Rows
end Go.Proofs.Yteilgibfmljoeaa

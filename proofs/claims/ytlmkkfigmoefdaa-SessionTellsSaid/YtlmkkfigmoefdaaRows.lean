/-
  No cell of these rows narrows 'for every input' (looked for: loops, veiled, ifaces, maps, wideKeys, modest, calm, conditions, laid).
  DERIVED. THE GIVEN ROWS OF THIS SEAT. 5 by the template 'for every input the law returns true; each argument reads behind the call as it read before'; 0 by the template 'total and deterministic' (their statements: YtlmkkfigmoefdaaTotals.lean).
  GIVEN WITH THE SEED: the statements are not yours to turn. If you find one false, say at which input.
  Laid BY PROGRAM, IN A SANDBOX (cutbox-rows.mjs): the forced cells as the released guide's own fill.sh prints them over the translation ed801c2096d89e11… (all of the seat's roots in one cut). By AI agents, Wed Nov 11 2026. No macro, syntax, notation, axiom, sorry.
-/
import Derived.Test.YtlmkkfigmoefdaaChecked
import GoSem.Claim
import GoSem.ClaimJoined
import GoSem.ClaimMapViews
import Derived.JoinedTies
import Derived.KernelRfl
namespace Go.Proofs.Ytlmkkfigmoefdaa
/- THE CELL 'sum', in the pinned program and in every row, IS THE sha256 OF THE DUMP (.gsa) THAT YtlmkkfigmoefdaaProg.lean LOADS. Nothing in Lean hashes anything: it is a label: what it is worth is what the hold of that sum in a sandbox is worth. -/
noncomputable def Try.pinned : Pinned := { name := "ytlmkkfigmoefdaa", sum := "ed801c2096d89e115baf4fc14029308334312dbfaeb9324bc76ec8979f686af4", checked := Try.checked }
namespace Rows
def none {H : Type} : Left H := { results := [], args := [] }

/-- 'nightjarlaw18.SessionTells': WHATEVER THE INPUT: true; the input reads as it did. -/
def sessionTellsSpec : ChangeSpec := { name := "sessionTells", fn := fun _ => fun
  | [d1, d2, d3] => { results := [.lit (.bool true)], args := [d1, d2, d3] }
  | _ => none }
def sessionTellsRow : OpenClaim := { program := "ytlmkkfigmoefdaa", sum := "ed801c2096d89e115baf4fc14029308334312dbfaeb9324bc76ec8979f686af4", func := "nightjar/nightjarlaw18.SessionTells", spec := "sessionTells", unfollowed := true, recurses := true, apart := false }
def SessionTellsSaid : Prop := sessionTellsRow.holds Try.pinned (OpenSpec.ofChange sessionTellsSpec)

/-- ITS FALSE NEIGHBOUR: 'it returns false'. Refute it at one input. -/
def sessionTellsWrong : ChangeSpec := { name := "sessionTells", fn := fun _ => fun
  | [d1, d2, d3] => { results := [.lit (.bool false)], args := [d1, d2, d3] }
  | _ => none }
def SessionTellsWrongFalsely : Prop := sessionTellsRow.holds Try.pinned (OpenSpec.ofChange sessionTellsWrong)

/-- 'nightjarlaw18.SessionRight': WHATEVER THE INPUT: true; the input reads as it did. -/
def sessionRightSpec : ChangeSpec := { name := "sessionRight", fn := fun _ => fun
  | [d1, d2] => { results := [.lit (.bool true)], args := [d1, d2] }
  | _ => none }
def sessionRightRow : OpenClaim := { program := "ytlmkkfigmoefdaa", sum := "ed801c2096d89e115baf4fc14029308334312dbfaeb9324bc76ec8979f686af4", func := "nightjar/nightjarlaw18.SessionRight", spec := "sessionRight", unfollowed := true, recurses := true, apart := false }
def SessionRightSaid : Prop := sessionRightRow.holds Try.pinned (OpenSpec.ofChange sessionRightSpec)

/-- ITS FALSE NEIGHBOUR: 'it returns false'. Refute it at one input. -/
def sessionRightWrong : ChangeSpec := { name := "sessionRight", fn := fun _ => fun
  | [d1, d2] => { results := [.lit (.bool false)], args := [d1, d2] }
  | _ => none }
def SessionRightWrongFalsely : Prop := sessionRightRow.holds Try.pinned (OpenSpec.ofChange sessionRightWrong)

/-- 'nightjarlaw18.SessionUsers': WHATEVER THE INPUT: true; the input reads as it did. -/
def sessionUsersSpec : ChangeSpec := { name := "sessionUsers", fn := fun _ => fun
  | [d] => { results := [.lit (.bool true)], args := [d] }
  | _ => none }
def sessionUsersRow : OpenClaim := { program := "ytlmkkfigmoefdaa", sum := "ed801c2096d89e115baf4fc14029308334312dbfaeb9324bc76ec8979f686af4", func := "nightjar/nightjarlaw18.SessionUsers", spec := "sessionUsers", unfollowed := true, recurses := true, apart := false }
def SessionUsersSaid : Prop := sessionUsersRow.holds Try.pinned (OpenSpec.ofChange sessionUsersSpec)

/-- ITS FALSE NEIGHBOUR: 'it returns false'. Refute it at one input. -/
def sessionUsersWrong : ChangeSpec := { name := "sessionUsers", fn := fun _ => fun
  | [d] => { results := [.lit (.bool false)], args := [d] }
  | _ => none }
def SessionUsersWrongFalsely : Prop := sessionUsersRow.holds Try.pinned (OpenSpec.ofChange sessionUsersWrong)

/-- 'nightjarlaw18.SessionOpens': WHATEVER THE INPUT: true; the input reads as it did. -/
def sessionOpensSpec : ChangeSpec := { name := "sessionOpens", fn := fun _ => fun
  | [d1, d2] => { results := [.lit (.bool true)], args := [d1, d2] }
  | _ => none }
def sessionOpensRow : OpenClaim := { program := "ytlmkkfigmoefdaa", sum := "ed801c2096d89e115baf4fc14029308334312dbfaeb9324bc76ec8979f686af4", func := "nightjar/nightjarlaw18.SessionOpens", spec := "sessionOpens", unfollowed := true, recurses := true, apart := false }
def SessionOpensSaid : Prop := sessionOpensRow.holds Try.pinned (OpenSpec.ofChange sessionOpensSpec)

/-- ITS FALSE NEIGHBOUR: 'it returns false'. Refute it at one input. -/
def sessionOpensWrong : ChangeSpec := { name := "sessionOpens", fn := fun _ => fun
  | [d1, d2] => { results := [.lit (.bool false)], args := [d1, d2] }
  | _ => none }
def SessionOpensWrongFalsely : Prop := sessionOpensRow.holds Try.pinned (OpenSpec.ofChange sessionOpensWrong)

/-- 'nightjarlaw18.SessionPuts': WHATEVER THE INPUT: true; the input reads as it did. -/
def sessionPutsSpec : ChangeSpec := { name := "sessionPuts", fn := fun _ => fun
  | [d1, d2] => { results := [.lit (.bool true)], args := [d1, d2] }
  | _ => none }
def sessionPutsRow : OpenClaim := { program := "ytlmkkfigmoefdaa", sum := "ed801c2096d89e115baf4fc14029308334312dbfaeb9324bc76ec8979f686af4", func := "nightjar/nightjarlaw18.SessionPuts", spec := "sessionPuts", unfollowed := true, recurses := true, apart := false }
def SessionPutsSaid : Prop := sessionPutsRow.holds Try.pinned (OpenSpec.ofChange sessionPutsSpec)

/-- ITS FALSE NEIGHBOUR: 'it returns false'. Refute it at one input. -/
def sessionPutsWrong : ChangeSpec := { name := "sessionPuts", fn := fun _ => fun
  | [d1, d2] => { results := [.lit (.bool false)], args := [d1, d2] }
  | _ => none }
def SessionPutsWrongFalsely : Prop := sessionPutsRow.holds Try.pinned (OpenSpec.ofChange sessionPutsWrong)

/- THE SECOND FORM. 'bulk': how many values and letters a reading holds, each counted each time it is reached (what is shared counts as often as it is met; a slice's spare places count too). A statement '..UptoSaid' is the law's where the arguments, and the package variables that the reading takes, are together of bulk at most 1048576: NARROWER than '..Said'. Prove '..Said' where nothing that the law and all that it calls make is longer than what came in: it says more and counts as full. Else prove '..UptoSaid'. A law counts once. -/
mutual
def uptoBulk {H : Type} : DataW H → Nat
  | .lit (.string bytes) => bytes.length + 1
  | .lit _ => 1
  | .nil => 1
  | .ptr d => uptoBulk d + 1
  | .slice elems spare => uptoBulkAll elems + uptoBulkAll spare + 1
  | .agg parts => uptoBulkAll parts + 1
  | .iface _ d => uptoBulk d + 1
  | .map entries => uptoBulkEntries entries + 1
  | .held _ => 1
def uptoBulkAll {H : Type} : List (DataW H) → Nat
  | [] => 0
  | d :: r => uptoBulk d + uptoBulkAll r
def uptoBulkEntries {H : Type} : List (Lit × DataW H) → Nat
  | [] => 0
  | x :: r => uptoBulkEntry x + uptoBulkEntries r
def uptoBulkEntry {H : Type} : Lit × DataW H → Nat
  | (.string bytes, d) => bytes.length + uptoBulk d + 1
  | (_, d) => uptoBulk d + 1
 end
def uptoSmall : (H : Type) → List (DataW H) → Bool := fun _ ds => decide (uptoBulkAll ds ≤ 1048576)
def OpenSpec.upto (s : _root_.Go.ChangeSpec) : _root_.Go.OpenSpec := { _root_.Go.OpenSpec.ofChange s with cond := some uptoSmall }

/-- 'nightjarlaw18.SessionTells', WHERE WHAT IT READS IS OF BULK AT MOST 1048576: true; the input reads as it did. -/
def sessionTellsUptoRow : OpenClaim := { program := "ytlmkkfigmoefdaa", sum := "ed801c2096d89e115baf4fc14029308334312dbfaeb9324bc76ec8979f686af4", func := "nightjar/nightjarlaw18.SessionTells", spec := "sessionTells", unfollowed := true, recurses := true, apart := false, narrowed := true }
def SessionTellsUptoSaid : Prop := sessionTellsUptoRow.holds Try.pinned (OpenSpec.upto sessionTellsSpec)

/-- 'nightjarlaw18.SessionRight', WHERE WHAT IT READS IS OF BULK AT MOST 1048576: true; the input reads as it did. -/
def sessionRightUptoRow : OpenClaim := { program := "ytlmkkfigmoefdaa", sum := "ed801c2096d89e115baf4fc14029308334312dbfaeb9324bc76ec8979f686af4", func := "nightjar/nightjarlaw18.SessionRight", spec := "sessionRight", unfollowed := true, recurses := true, apart := false, narrowed := true }
def SessionRightUptoSaid : Prop := sessionRightUptoRow.holds Try.pinned (OpenSpec.upto sessionRightSpec)

/-- 'nightjarlaw18.SessionUsers', WHERE WHAT IT READS IS OF BULK AT MOST 1048576: true; the input reads as it did. -/
def sessionUsersUptoRow : OpenClaim := { program := "ytlmkkfigmoefdaa", sum := "ed801c2096d89e115baf4fc14029308334312dbfaeb9324bc76ec8979f686af4", func := "nightjar/nightjarlaw18.SessionUsers", spec := "sessionUsers", unfollowed := true, recurses := true, apart := false, narrowed := true }
def SessionUsersUptoSaid : Prop := sessionUsersUptoRow.holds Try.pinned (OpenSpec.upto sessionUsersSpec)

/-- 'nightjarlaw18.SessionOpens', WHERE WHAT IT READS IS OF BULK AT MOST 1048576: true; the input reads as it did. -/
def sessionOpensUptoRow : OpenClaim := { program := "ytlmkkfigmoefdaa", sum := "ed801c2096d89e115baf4fc14029308334312dbfaeb9324bc76ec8979f686af4", func := "nightjar/nightjarlaw18.SessionOpens", spec := "sessionOpens", unfollowed := true, recurses := true, apart := false, narrowed := true }
def SessionOpensUptoSaid : Prop := sessionOpensUptoRow.holds Try.pinned (OpenSpec.upto sessionOpensSpec)

/-- 'nightjarlaw18.SessionPuts', WHERE WHAT IT READS IS OF BULK AT MOST 1048576: true; the input reads as it did. -/
def sessionPutsUptoRow : OpenClaim := { program := "ytlmkkfigmoefdaa", sum := "ed801c2096d89e115baf4fc14029308334312dbfaeb9324bc76ec8979f686af4", func := "nightjar/nightjarlaw18.SessionPuts", spec := "sessionPuts", unfollowed := true, recurses := true, apart := false, narrowed := true }
def SessionPutsUptoSaid : Prop := sessionPutsUptoRow.holds Try.pinned (OpenSpec.upto sessionPutsSpec)

end Rows
end Go.Proofs.Ytlmkkfigmoefdaa

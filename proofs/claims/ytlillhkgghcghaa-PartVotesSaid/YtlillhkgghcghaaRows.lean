/-
  No cell of these rows narrows 'for every input' (looked for: loops, veiled, ifaces, maps, wideKeys, modest, calm, conditions, laid).
  DERIVED. THE GIVEN ROWS OF THIS SEAT. 4 by the template 'for every input the law returns true; each argument reads behind the call as it read before'; 0 by the template 'total and deterministic' (their statements: YtlillhkgghcghaaTotals.lean).
  GIVEN WITH THE SEED: the statements are not yours to turn. If you find one false, say at which input.
  Laid BY PROGRAM, IN A SANDBOX (cutbox-rows.mjs): the forced cells as the released guide's own fill.sh prints them over the translation 75e3e5dfaf160738… (all of the seat's roots in one cut). By AI agents, Wed Nov 11 2026. No macro, syntax, notation, axiom, sorry.
-/
import Derived.Test.YtlillhkgghcghaaChecked
import GoSem.Claim
import GoSem.ClaimJoined
import GoSem.ClaimMapViews
import Derived.JoinedTies
import Derived.KernelRfl
namespace Go.Proofs.Ytlillhkgghcghaa
/- THE CELL 'sum', in the pinned program and in every row, IS THE sha256 OF THE DUMP (.gsa) THAT YtlillhkgghcghaaProg.lean LOADS. Nothing in Lean hashes anything: it is a label: what it is worth is what the hold of that sum in a sandbox is worth. -/
noncomputable def Try.pinned : Pinned := { name := "ytlillhkgghcghaa", sum := "75e3e5dfaf1607386957d333ca6c2143373d3d0ed99a5acdd26b9891f7e1f181", checked := Try.checked }
namespace Rows
def none {H : Type} : Left H := { results := [], args := [] }

/-- 'catchboltlaw14.PartTable': WHATEVER THE INPUT: true; the input reads as it did. -/
def partTableSpec : ChangeSpec := { name := "partTable", fn := fun _ => fun
  | [d1, d2] => { results := [.lit (.bool true)], args := [d1, d2] }
  | _ => none }
def partTableRow : OpenClaim := { program := "ytlillhkgghcghaa", sum := "75e3e5dfaf1607386957d333ca6c2143373d3d0ed99a5acdd26b9891f7e1f181", func := "catchbolt/catchboltlaw14.PartTable", spec := "partTable", inPlace := ["internal/reflectlite.TypeOf"], unfollowed := true, recurses := true, apart := false }
def PartTableSaid : Prop := partTableRow.holds Try.pinned (OpenSpec.ofChange partTableSpec)

/-- ITS FALSE NEIGHBOUR: 'it returns false'. Refute it at one input. -/
def partTableWrong : ChangeSpec := { name := "partTable", fn := fun _ => fun
  | [d1, d2] => { results := [.lit (.bool false)], args := [d1, d2] }
  | _ => none }
def PartTableWrongFalsely : Prop := partTableRow.holds Try.pinned (OpenSpec.ofChange partTableWrong)

/-- 'catchboltlaw14.PartRuns': WHATEVER THE INPUT: true; the input reads as it did. -/
def partRunsSpec : ChangeSpec := { name := "partRuns", fn := fun _ => fun
  | [d1, d2] => { results := [.lit (.bool true)], args := [d1, d2] }
  | _ => none }
def partRunsRow : OpenClaim := { program := "ytlillhkgghcghaa", sum := "75e3e5dfaf1607386957d333ca6c2143373d3d0ed99a5acdd26b9891f7e1f181", func := "catchbolt/catchboltlaw14.PartRuns", spec := "partRuns", inPlace := ["internal/reflectlite.TypeOf"], unfollowed := true, recurses := true, apart := false }
def PartRunsSaid : Prop := partRunsRow.holds Try.pinned (OpenSpec.ofChange partRunsSpec)

/-- ITS FALSE NEIGHBOUR: 'it returns false'. Refute it at one input. -/
def partRunsWrong : ChangeSpec := { name := "partRuns", fn := fun _ => fun
  | [d1, d2] => { results := [.lit (.bool false)], args := [d1, d2] }
  | _ => none }
def PartRunsWrongFalsely : Prop := partRunsRow.holds Try.pinned (OpenSpec.ofChange partRunsWrong)

/-- 'catchboltlaw14.PartVotes': WHATEVER THE INPUT: true; the input reads as it did. -/
def partVotesSpec : ChangeSpec := { name := "partVotes", fn := fun _ => fun
  | [d] => { results := [.lit (.bool true)], args := [d] }
  | _ => none }
def partVotesRow : OpenClaim := { program := "ytlillhkgghcghaa", sum := "75e3e5dfaf1607386957d333ca6c2143373d3d0ed99a5acdd26b9891f7e1f181", func := "catchbolt/catchboltlaw14.PartVotes", spec := "partVotes", inPlace := ["internal/reflectlite.TypeOf"], unfollowed := true, recurses := true, apart := false }
def PartVotesSaid : Prop := partVotesRow.holds Try.pinned (OpenSpec.ofChange partVotesSpec)

/-- ITS FALSE NEIGHBOUR: 'it returns false'. Refute it at one input. -/
def partVotesWrong : ChangeSpec := { name := "partVotes", fn := fun _ => fun
  | [d] => { results := [.lit (.bool false)], args := [d] }
  | _ => none }
def PartVotesWrongFalsely : Prop := partVotesRow.holds Try.pinned (OpenSpec.ofChange partVotesWrong)

/-- 'catchboltlaw14.PartAgain': WHATEVER THE INPUT: true; the input reads as it did. -/
def partAgainSpec : ChangeSpec := { name := "partAgain", fn := fun _ => fun
  | [d1, d2] => { results := [.lit (.bool true)], args := [d1, d2] }
  | _ => none }
def partAgainRow : OpenClaim := { program := "ytlillhkgghcghaa", sum := "75e3e5dfaf1607386957d333ca6c2143373d3d0ed99a5acdd26b9891f7e1f181", func := "catchbolt/catchboltlaw14.PartAgain", spec := "partAgain", inPlace := ["internal/reflectlite.TypeOf"], unfollowed := true, recurses := true, apart := false }
def PartAgainSaid : Prop := partAgainRow.holds Try.pinned (OpenSpec.ofChange partAgainSpec)

/-- ITS FALSE NEIGHBOUR: 'it returns false'. Refute it at one input. -/
def partAgainWrong : ChangeSpec := { name := "partAgain", fn := fun _ => fun
  | [d1, d2] => { results := [.lit (.bool false)], args := [d1, d2] }
  | _ => none }
def PartAgainWrongFalsely : Prop := partAgainRow.holds Try.pinned (OpenSpec.ofChange partAgainWrong)

/- THE SECOND FORM. 'bulk': how many values and letters a reading holds, each counted each time it is reached (what is shared counts as often as it is met; a slice's spare places count too). A statement '..UptoSaid' is the law's where the arguments, and the package variables that the reading takes, are together of bulk at most 1048576: NARROWER than '..Said'. Prove '..Said' where nothing that the law and all that it calls make is longer than what came in: it says more and counts as full. Else prove '..UptoSaid'. A law counts once. -/
mutual
def uptoBulk {H : Type} : DataW H → Nat
  | .lit (.string bytes) => bytes.length + 1
  | .lit _ => 1
  | .nil => 1
  | .ptr d => uptoBulk d + 1
  | .slice elems spare => uptoBulkAll elems + uptoBulkAll spare + 1
  | .agg parts => uptoBulkAll parts + 1
  | .iface _ d => uptoBulk d + 1
  | .map entries => uptoBulkEntries entries + 1
  | .held _ => 1
def uptoBulkAll {H : Type} : List (DataW H) → Nat
  | [] => 0
  | d :: r => uptoBulk d + uptoBulkAll r
def uptoBulkEntries {H : Type} : List (Lit × DataW H) → Nat
  | [] => 0
  | x :: r => uptoBulkEntry x + uptoBulkEntries r
def uptoBulkEntry {H : Type} : Lit × DataW H → Nat
  | (.string bytes, d) => bytes.length + uptoBulk d + 1
  | (_, d) => uptoBulk d + 1
 end
def uptoSmall : (H : Type) → List (DataW H) → Bool := fun _ ds => decide (uptoBulkAll ds ≤ 1048576)
def OpenSpec.upto (s : _root_.Go.ChangeSpec) : _root_.Go.OpenSpec := { _root_.Go.OpenSpec.ofChange s with cond := some uptoSmall }

/-- 'catchboltlaw14.PartTable', WHERE WHAT IT READS IS OF BULK AT MOST 1048576: true; the input reads as it did. -/
def partTableUptoRow : OpenClaim := { program := "ytlillhkgghcghaa", sum := "75e3e5dfaf1607386957d333ca6c2143373d3d0ed99a5acdd26b9891f7e1f181", func := "catchbolt/catchboltlaw14.PartTable", spec := "partTable", inPlace := ["internal/reflectlite.TypeOf"], unfollowed := true, recurses := true, apart := false, narrowed := true }
def PartTableUptoSaid : Prop := partTableUptoRow.holds Try.pinned (OpenSpec.upto partTableSpec)

/-- 'catchboltlaw14.PartRuns', WHERE WHAT IT READS IS OF BULK AT MOST 1048576: true; the input reads as it did. -/
def partRunsUptoRow : OpenClaim := { program := "ytlillhkgghcghaa", sum := "75e3e5dfaf1607386957d333ca6c2143373d3d0ed99a5acdd26b9891f7e1f181", func := "catchbolt/catchboltlaw14.PartRuns", spec := "partRuns", inPlace := ["internal/reflectlite.TypeOf"], unfollowed := true, recurses := true, apart := false, narrowed := true }
def PartRunsUptoSaid : Prop := partRunsUptoRow.holds Try.pinned (OpenSpec.upto partRunsSpec)

/-- 'catchboltlaw14.PartVotes', WHERE WHAT IT READS IS OF BULK AT MOST 1048576: true; the input reads as it did. -/
def partVotesUptoRow : OpenClaim := { program := "ytlillhkgghcghaa", sum := "75e3e5dfaf1607386957d333ca6c2143373d3d0ed99a5acdd26b9891f7e1f181", func := "catchbolt/catchboltlaw14.PartVotes", spec := "partVotes", inPlace := ["internal/reflectlite.TypeOf"], unfollowed := true, recurses := true, apart := false, narrowed := true }
def PartVotesUptoSaid : Prop := partVotesUptoRow.holds Try.pinned (OpenSpec.upto partVotesSpec)

/-- 'catchboltlaw14.PartAgain', WHERE WHAT IT READS IS OF BULK AT MOST 1048576: true; the input reads as it did. -/
def partAgainUptoRow : OpenClaim := { program := "ytlillhkgghcghaa", sum := "75e3e5dfaf1607386957d333ca6c2143373d3d0ed99a5acdd26b9891f7e1f181", func := "catchbolt/catchboltlaw14.PartAgain", spec := "partAgain", inPlace := ["internal/reflectlite.TypeOf"], unfollowed := true, recurses := true, apart := false, narrowed := true }
def PartAgainUptoSaid : Prop := partAgainUptoRow.holds Try.pinned (OpenSpec.upto partAgainSpec)

end Rows
end Go.Proofs.Ytlillhkgghcghaa

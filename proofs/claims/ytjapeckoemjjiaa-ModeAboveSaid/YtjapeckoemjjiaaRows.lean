/-
  No cell of these rows narrows 'for every input' (looked for: loops, veiled, ifaces, maps, wideKeys, modest, calm, conditions, laid).
  DERIVED. THE GIVEN ROWS OF THIS SEAT. 5 by the template 'for every input the law returns true; each argument reads behind the call as it read before'; 0 by the template 'total and deterministic' (their statements: YtjapeckoemjjiaaTotals.lean).
  GIVEN WITH THE SEED: the statements are not yours to turn. If you find one false, say at which input.
  Laid BY PROGRAM, IN A SANDBOX (cutbox-rows.mjs): the forced cells as the released guide's own fill.sh prints them over the translation be939e06ae0dc113… (all of the seat's roots in one cut). By AI agents, Wed Nov 11 2026. No macro, syntax, notation, axiom, sorry.
-/
import Derived.Test.YtjapeckoemjjiaaChecked
import GoSem.Claim
import GoSem.ClaimJoined
import GoSem.ClaimMapViews
import Derived.JoinedTies
import Derived.KernelRfl
namespace Go.Proofs.Ytjapeckoemjjiaa
/- THE CELL 'sum', in the pinned program and in every row, IS THE sha256 OF THE DUMP (.gsa) THAT YtjapeckoemjjiaaProg.lean LOADS. Nothing in Lean hashes anything: it is a label: what it is worth is what the hold of that sum in a sandbox is worth. -/
noncomputable def Try.pinned : Pinned := { name := "ytjapeckoemjjiaa", sum := "be939e06ae0dc113ac8ce27912c32f4d1dfba430ba5b725c97cd1187ecf90148", checked := Try.checked }
namespace Rows
def none {H : Type} : Left H := { results := [], args := [] }

/-- 'catchboltlaw01.ModeTable': WHATEVER THE INPUT: true; the input reads as it did. -/
def modeTableSpec : ChangeSpec := { name := "modeTable", fn := fun _ => fun
  | [d1, d2] => { results := [.lit (.bool true)], args := [d1, d2] }
  | _ => none }
def modeTableRow : OpenClaim := { program := "ytjapeckoemjjiaa", sum := "be939e06ae0dc113ac8ce27912c32f4d1dfba430ba5b725c97cd1187ecf90148", func := "catchbolt/catchboltlaw01.ModeTable", spec := "modeTable", inPlace := ["internal/reflectlite.TypeOf"], unfollowed := true, recurses := true, apart := false }
def ModeTableSaid : Prop := modeTableRow.holds Try.pinned (OpenSpec.ofChange modeTableSpec)

/-- ITS FALSE NEIGHBOUR: 'it returns false'. Refute it at one input. -/
def modeTableWrong : ChangeSpec := { name := "modeTable", fn := fun _ => fun
  | [d1, d2] => { results := [.lit (.bool false)], args := [d1, d2] }
  | _ => none }
def ModeTableWrongFalsely : Prop := modeTableRow.holds Try.pinned (OpenSpec.ofChange modeTableWrong)

/-- 'catchboltlaw01.ModeLeast': WHATEVER THE INPUT: true; the input reads as it did. -/
def modeLeastSpec : ChangeSpec := { name := "modeLeast", fn := fun _ => fun
  | [d1, d2] => { results := [.lit (.bool true)], args := [d1, d2] }
  | _ => none }
def modeLeastRow : OpenClaim := { program := "ytjapeckoemjjiaa", sum := "be939e06ae0dc113ac8ce27912c32f4d1dfba430ba5b725c97cd1187ecf90148", func := "catchbolt/catchboltlaw01.ModeLeast", spec := "modeLeast", inPlace := ["internal/reflectlite.TypeOf"], unfollowed := true, recurses := true, apart := false }
def ModeLeastSaid : Prop := modeLeastRow.holds Try.pinned (OpenSpec.ofChange modeLeastSpec)

/-- ITS FALSE NEIGHBOUR: 'it returns false'. Refute it at one input. -/
def modeLeastWrong : ChangeSpec := { name := "modeLeast", fn := fun _ => fun
  | [d1, d2] => { results := [.lit (.bool false)], args := [d1, d2] }
  | _ => none }
def ModeLeastWrongFalsely : Prop := modeLeastRow.holds Try.pinned (OpenSpec.ofChange modeLeastWrong)

/-- 'catchboltlaw01.ModeOrder': WHATEVER THE INPUT: true; the input reads as it did. -/
def modeOrderSpec : ChangeSpec := { name := "modeOrder", fn := fun _ => fun
  | [d1, d2, d3] => { results := [.lit (.bool true)], args := [d1, d2, d3] }
  | _ => none }
def modeOrderRow : OpenClaim := { program := "ytjapeckoemjjiaa", sum := "be939e06ae0dc113ac8ce27912c32f4d1dfba430ba5b725c97cd1187ecf90148", func := "catchbolt/catchboltlaw01.ModeOrder", spec := "modeOrder", inPlace := ["internal/reflectlite.TypeOf"], unfollowed := true, recurses := true, apart := false }
def ModeOrderSaid : Prop := modeOrderRow.holds Try.pinned (OpenSpec.ofChange modeOrderSpec)

/-- ITS FALSE NEIGHBOUR: 'it returns false'. Refute it at one input. -/
def modeOrderWrong : ChangeSpec := { name := "modeOrder", fn := fun _ => fun
  | [d1, d2, d3] => { results := [.lit (.bool false)], args := [d1, d2, d3] }
  | _ => none }
def ModeOrderWrongFalsely : Prop := modeOrderRow.holds Try.pinned (OpenSpec.ofChange modeOrderWrong)

/-- 'catchboltlaw01.ModeAbove': WHATEVER THE INPUT: true; the input reads as it did. -/
def modeAboveSpec : ChangeSpec := { name := "modeAbove", fn := fun _ => fun
  | [d1, d2, d3] => { results := [.lit (.bool true)], args := [d1, d2, d3] }
  | _ => none }
def modeAboveRow : OpenClaim := { program := "ytjapeckoemjjiaa", sum := "be939e06ae0dc113ac8ce27912c32f4d1dfba430ba5b725c97cd1187ecf90148", func := "catchbolt/catchboltlaw01.ModeAbove", spec := "modeAbove", inPlace := ["internal/reflectlite.TypeOf"], unfollowed := true, recurses := true, apart := false }
def ModeAboveSaid : Prop := modeAboveRow.holds Try.pinned (OpenSpec.ofChange modeAboveSpec)

/-- ITS FALSE NEIGHBOUR: 'it returns false'. Refute it at one input. -/
def modeAboveWrong : ChangeSpec := { name := "modeAbove", fn := fun _ => fun
  | [d1, d2, d3] => { results := [.lit (.bool false)], args := [d1, d2, d3] }
  | _ => none }
def ModeAboveWrongFalsely : Prop := modeAboveRow.holds Try.pinned (OpenSpec.ofChange modeAboveWrong)

/-- 'catchboltlaw01.ModeBeside': WHATEVER THE INPUT: true; the input reads as it did. -/
def modeBesideSpec : ChangeSpec := { name := "modeBeside", fn := fun _ => fun
  | [d1, d2, d3] => { results := [.lit (.bool true)], args := [d1, d2, d3] }
  | _ => none }
def modeBesideRow : OpenClaim := { program := "ytjapeckoemjjiaa", sum := "be939e06ae0dc113ac8ce27912c32f4d1dfba430ba5b725c97cd1187ecf90148", func := "catchbolt/catchboltlaw01.ModeBeside", spec := "modeBeside", inPlace := ["internal/reflectlite.TypeOf"], unfollowed := true, recurses := true, apart := false }
def ModeBesideSaid : Prop := modeBesideRow.holds Try.pinned (OpenSpec.ofChange modeBesideSpec)

/-- ITS FALSE NEIGHBOUR: 'it returns false'. Refute it at one input. -/
def modeBesideWrong : ChangeSpec := { name := "modeBeside", fn := fun _ => fun
  | [d1, d2, d3] => { results := [.lit (.bool false)], args := [d1, d2, d3] }
  | _ => none }
def ModeBesideWrongFalsely : Prop := modeBesideRow.holds Try.pinned (OpenSpec.ofChange modeBesideWrong)

/- THE SECOND FORM. 'bulk': how many values and letters a reading holds, each counted each time it is reached (what is shared counts as often as it is met; a slice's spare places count too). A statement '..UptoSaid' is the law's where the arguments, and the package variables that the reading takes, are together of bulk at most 1048576: NARROWER than '..Said'. Prove '..Said' where nothing that the law and all that it calls make is longer than what came in: it says more and counts as full. Else prove '..UptoSaid'. A law counts once. -/
mutual
def uptoBulk {H : Type} : DataW H → Nat
  | .lit (.string bytes) => bytes.length + 1
  | .lit _ => 1
  | .nil => 1
  | .ptr d => uptoBulk d + 1
  | .slice elems spare => uptoBulkAll elems + uptoBulkAll spare + 1
  | .agg parts => uptoBulkAll parts + 1
  | .iface _ d => uptoBulk d + 1
  | .map entries => uptoBulkEntries entries + 1
  | .held _ => 1
def uptoBulkAll {H : Type} : List (DataW H) → Nat
  | [] => 0
  | d :: r => uptoBulk d + uptoBulkAll r
def uptoBulkEntries {H : Type} : List (Lit × DataW H) → Nat
  | [] => 0
  | x :: r => uptoBulkEntry x + uptoBulkEntries r
def uptoBulkEntry {H : Type} : Lit × DataW H → Nat
  | (.string bytes, d) => bytes.length + uptoBulk d + 1
  | (_, d) => uptoBulk d + 1
 end
def uptoSmall : (H : Type) → List (DataW H) → Bool := fun _ ds => decide (uptoBulkAll ds ≤ 1048576)
def OpenSpec.upto (s : _root_.Go.ChangeSpec) : _root_.Go.OpenSpec := { _root_.Go.OpenSpec.ofChange s with cond := some uptoSmall }

/-- 'catchboltlaw01.ModeTable', WHERE WHAT IT READS IS OF BULK AT MOST 1048576: true; the input reads as it did. -/
def modeTableUptoRow : OpenClaim := { program := "ytjapeckoemjjiaa", sum := "be939e06ae0dc113ac8ce27912c32f4d1dfba430ba5b725c97cd1187ecf90148", func := "catchbolt/catchboltlaw01.ModeTable", spec := "modeTable", inPlace := ["internal/reflectlite.TypeOf"], unfollowed := true, recurses := true, apart := false, narrowed := true }
def ModeTableUptoSaid : Prop := modeTableUptoRow.holds Try.pinned (OpenSpec.upto modeTableSpec)

/-- 'catchboltlaw01.ModeLeast', WHERE WHAT IT READS IS OF BULK AT MOST 1048576: true; the input reads as it did. -/
def modeLeastUptoRow : OpenClaim := { program := "ytjapeckoemjjiaa", sum := "be939e06ae0dc113ac8ce27912c32f4d1dfba430ba5b725c97cd1187ecf90148", func := "catchbolt/catchboltlaw01.ModeLeast", spec := "modeLeast", inPlace := ["internal/reflectlite.TypeOf"], unfollowed := true, recurses := true, apart := false, narrowed := true }
def ModeLeastUptoSaid : Prop := modeLeastUptoRow.holds Try.pinned (OpenSpec.upto modeLeastSpec)

/-- 'catchboltlaw01.ModeOrder', WHERE WHAT IT READS IS OF BULK AT MOST 1048576: true; the input reads as it did. -/
def modeOrderUptoRow : OpenClaim := { program := "ytjapeckoemjjiaa", sum := "be939e06ae0dc113ac8ce27912c32f4d1dfba430ba5b725c97cd1187ecf90148", func := "catchbolt/catchboltlaw01.ModeOrder", spec := "modeOrder", inPlace := ["internal/reflectlite.TypeOf"], unfollowed := true, recurses := true, apart := false, narrowed := true }
def ModeOrderUptoSaid : Prop := modeOrderUptoRow.holds Try.pinned (OpenSpec.upto modeOrderSpec)

/-- 'catchboltlaw01.ModeAbove', WHERE WHAT IT READS IS OF BULK AT MOST 1048576: true; the input reads as it did. -/
def modeAboveUptoRow : OpenClaim := { program := "ytjapeckoemjjiaa", sum := "be939e06ae0dc113ac8ce27912c32f4d1dfba430ba5b725c97cd1187ecf90148", func := "catchbolt/catchboltlaw01.ModeAbove", spec := "modeAbove", inPlace := ["internal/reflectlite.TypeOf"], unfollowed := true, recurses := true, apart := false, narrowed := true }
def ModeAboveUptoSaid : Prop := modeAboveUptoRow.holds Try.pinned (OpenSpec.upto modeAboveSpec)

/-- 'catchboltlaw01.ModeBeside', WHERE WHAT IT READS IS OF BULK AT MOST 1048576: true; the input reads as it did. -/
def modeBesideUptoRow : OpenClaim := { program := "ytjapeckoemjjiaa", sum := "be939e06ae0dc113ac8ce27912c32f4d1dfba430ba5b725c97cd1187ecf90148", func := "catchbolt/catchboltlaw01.ModeBeside", spec := "modeBeside", inPlace := ["internal/reflectlite.TypeOf"], unfollowed := true, recurses := true, apart := false, narrowed := true }
def ModeBesideUptoSaid : Prop := modeBesideUptoRow.holds Try.pinned (OpenSpec.upto modeBesideSpec)

end Rows
end Go.Proofs.Ytjapeckoemjjiaa

/-
  NARROWER THAN 'FOR EVERY INPUT', by the rows' own cells (each row's printed sentence says how): WordPuts: laid · WordBack: laid · WordTakes: laid · WordNone: laid.
  DERIVED. THE GIVEN ROWS OF THIS SEAT. 4 by the template 'for every input the law returns true; each argument reads behind the call as it read before'; 0 by the template 'total and deterministic' (their statements: YtdbiigcabfnpfaaDoorTotals.lean).
  GIVEN WITH THE SEED: the statements are not yours to turn. If you find one false, say at which input.
  Laid BY PROGRAM, IN A SANDBOX (cutbox-rows.mjs): the forced cells as the released guide's own fill.sh prints them over the translation bd84b9e57f41a64b… (all of the seat's roots in one cut). By AI agents, Wed Nov 11 2026. No macro, syntax, notation, axiom, sorry.
-/
import Derived.Test.YtdbiigcabfnpfaaDoorChecked
import GoSem.Claim
import GoSem.ClaimJoined
import GoSem.ClaimMapViews
import Derived.JoinedTies
import Derived.KernelRfl
namespace Go.Proofs.YtdbiigcabfnpfaaDoor
/- THE CELL 'sum', in the pinned program and in every row, IS THE sha256 OF THE DUMP (.gsa) THAT YtdbiigcabfnpfaaDoorProg.lean LOADS. Nothing in Lean hashes anything: it is a label: what it is worth is what the hold of that sum in a sandbox is worth. -/
noncomputable def Tryd.pinned : Pinned := { name := "ytdbiigcabfnpfaadoor", sum := "bd84b9e57f41a64b233f426fce5f0361504d03b64f41feaf51714b0960a0e955", checked := Tryd.checked }
namespace Rows
def none {H : Type} : Left H := { results := [], args := [] }

/- WHAT THE LISTED PACKAGE-LEVEL VARIABLES READ AS WHEN THE CALL BEGINS. Each datum BY PROGRAM (the guide's laid-datum.mjs) off the statement by which the dump's own 'gosem.cut.vars' lays the variable. In a bare row this is a premise. The card (YtdbiigcabfnpfaaDoorCards.lean) ties it to the program's text. -/
def laid_errors_errorType {H : Type} : DataW H := .iface "internal/reflectlite.rtype" (.agg [.ptr (.lit (.string [101, 114, 114, 111, 114]))])

/-- 'catchboltlaw03.WordPuts': WHATEVER THE INPUT: true; the input reads as it did. -/
def wordPutsSpec : ChangeSpec := { name := "wordPuts", fn := fun _ => fun
  | [d1, d2, d3] => { results := [.lit (.bool true)], args := [d1, d2, d3] }
  | _ => none }
def wordPutsRow : OpenClaim := { program := "ytdbiigcabfnpfaadoor", sum := "bd84b9e57f41a64b233f426fce5f0361504d03b64f41feaf51714b0960a0e955", func := "catchbolt/catchboltlaw03.WordPuts", spec := "wordPuts", inPlace := ["internal/reflectlite.ValueOf", "(internal/reflectlite.Value).Type", "(internal/reflectlite.Value).IsNil", "internal/reflectlite.TypeOf", "(internal/reflectlite.Value).Elem", "(internal/reflectlite.Value).Set"], unfollowed := true, recurses := true, named := ["errors.errorType"], apart := false, laid := [("errors.errorType", laid_errors_errorType)] }
def WordPutsSaid : Prop := wordPutsRow.holds Tryd.pinned (OpenSpec.ofChange wordPutsSpec)

/-- ITS FALSE NEIGHBOUR: 'it returns false'. Refute it at one input. -/
def wordPutsWrong : ChangeSpec := { name := "wordPuts", fn := fun _ => fun
  | [d1, d2, d3] => { results := [.lit (.bool false)], args := [d1, d2, d3] }
  | _ => none }
def WordPutsWrongFalsely : Prop := wordPutsRow.holds Tryd.pinned (OpenSpec.ofChange wordPutsWrong)

/-- 'catchboltlaw03.WordBack': WHATEVER THE INPUT: true; the input reads as it did. -/
def wordBackSpec : ChangeSpec := { name := "wordBack", fn := fun _ => fun
  | [d1, d2, d3] => { results := [.lit (.bool true)], args := [d1, d2, d3] }
  | _ => none }
def wordBackRow : OpenClaim := { program := "ytdbiigcabfnpfaadoor", sum := "bd84b9e57f41a64b233f426fce5f0361504d03b64f41feaf51714b0960a0e955", func := "catchbolt/catchboltlaw03.WordBack", spec := "wordBack", inPlace := ["internal/reflectlite.ValueOf", "(internal/reflectlite.Value).Type", "(internal/reflectlite.Value).IsNil", "internal/reflectlite.TypeOf", "(internal/reflectlite.Value).Elem", "(internal/reflectlite.Value).Set"], unfollowed := true, recurses := true, named := ["errors.errorType"], apart := false, laid := [("errors.errorType", laid_errors_errorType)] }
def WordBackSaid : Prop := wordBackRow.holds Tryd.pinned (OpenSpec.ofChange wordBackSpec)

/-- ITS FALSE NEIGHBOUR: 'it returns false'. Refute it at one input. -/
def wordBackWrong : ChangeSpec := { name := "wordBack", fn := fun _ => fun
  | [d1, d2, d3] => { results := [.lit (.bool false)], args := [d1, d2, d3] }
  | _ => none }
def WordBackWrongFalsely : Prop := wordBackRow.holds Tryd.pinned (OpenSpec.ofChange wordBackWrong)

/-- 'catchboltlaw03.WordTakes': WHATEVER THE INPUT: true; the input reads as it did. -/
def wordTakesSpec : ChangeSpec := { name := "wordTakes", fn := fun _ => fun
  | [d1, d2] => { results := [.lit (.bool true)], args := [d1, d2] }
  | _ => none }
def wordTakesRow : OpenClaim := { program := "ytdbiigcabfnpfaadoor", sum := "bd84b9e57f41a64b233f426fce5f0361504d03b64f41feaf51714b0960a0e955", func := "catchbolt/catchboltlaw03.WordTakes", spec := "wordTakes", inPlace := ["internal/reflectlite.ValueOf", "(internal/reflectlite.Value).Type", "(internal/reflectlite.Value).IsNil", "internal/reflectlite.TypeOf", "(internal/reflectlite.Value).Elem", "(internal/reflectlite.Value).Set"], unfollowed := true, recurses := true, named := ["errors.errorType"], apart := false, laid := [("errors.errorType", laid_errors_errorType)] }
def WordTakesSaid : Prop := wordTakesRow.holds Tryd.pinned (OpenSpec.ofChange wordTakesSpec)

/-- ITS FALSE NEIGHBOUR: 'it returns false'. Refute it at one input. -/
def wordTakesWrong : ChangeSpec := { name := "wordTakes", fn := fun _ => fun
  | [d1, d2] => { results := [.lit (.bool false)], args := [d1, d2] }
  | _ => none }
def WordTakesWrongFalsely : Prop := wordTakesRow.holds Tryd.pinned (OpenSpec.ofChange wordTakesWrong)

/-- 'catchboltlaw03.WordNone': WHATEVER THE INPUT: true; the input reads as it did. -/
def wordNoneSpec : ChangeSpec := { name := "wordNone", fn := fun _ => fun
  | [d1, d2] => { results := [.lit (.bool true)], args := [d1, d2] }
  | _ => none }
def wordNoneRow : OpenClaim := { program := "ytdbiigcabfnpfaadoor", sum := "bd84b9e57f41a64b233f426fce5f0361504d03b64f41feaf51714b0960a0e955", func := "catchbolt/catchboltlaw03.WordNone", spec := "wordNone", inPlace := ["internal/reflectlite.ValueOf", "(internal/reflectlite.Value).Type", "(internal/reflectlite.Value).IsNil", "internal/reflectlite.TypeOf", "(internal/reflectlite.Value).Elem", "(internal/reflectlite.Value).Set"], unfollowed := true, recurses := true, named := ["errors.errorType"], apart := false, laid := [("errors.errorType", laid_errors_errorType)] }
def WordNoneSaid : Prop := wordNoneRow.holds Tryd.pinned (OpenSpec.ofChange wordNoneSpec)

/-- ITS FALSE NEIGHBOUR: 'it returns false'. Refute it at one input. -/
def wordNoneWrong : ChangeSpec := { name := "wordNone", fn := fun _ => fun
  | [d1, d2] => { results := [.lit (.bool false)], args := [d1, d2] }
  | _ => none }
def WordNoneWrongFalsely : Prop := wordNoneRow.holds Tryd.pinned (OpenSpec.ofChange wordNoneWrong)

/- THE SECOND FORM. 'bulk': how many values and letters a reading holds, each counted each time it is reached (what is shared counts as often as it is met; a slice's spare places count too). A statement '..UptoSaid' is the law's where the arguments, and the package variables that the reading takes, are together of bulk at most 1048576: NARROWER than '..Said'. Prove '..Said' where nothing that the law and all that it calls make is longer than what came in: it says more and counts as full. Else prove '..UptoSaid'. A law counts once. -/
mutual
def uptoBulk {H : Type} : DataW H → Nat
  | .lit (.string bytes) => bytes.length + 1
  | .lit _ => 1
  | .nil => 1
  | .ptr d => uptoBulk d + 1
  | .slice elems spare => uptoBulkAll elems + uptoBulkAll spare + 1
  | .agg parts => uptoBulkAll parts + 1
  | .iface _ d => uptoBulk d + 1
  | .map entries => uptoBulkEntries entries + 1
  | .held _ => 1
def uptoBulkAll {H : Type} : List (DataW H) → Nat
  | [] => 0
  | d :: r => uptoBulk d + uptoBulkAll r
def uptoBulkEntries {H : Type} : List (Lit × DataW H) → Nat
  | [] => 0
  | x :: r => uptoBulkEntry x + uptoBulkEntries r
def uptoBulkEntry {H : Type} : Lit × DataW H → Nat
  | (.string bytes, d) => bytes.length + uptoBulk d + 1
  | (_, d) => uptoBulk d + 1
 end
def uptoSmall : (H : Type) → List (DataW H) → Bool := fun _ ds => decide (uptoBulkAll ds ≤ 1048576)
def OpenSpec.upto (s : _root_.Go.ChangeSpec) : _root_.Go.OpenSpec := { _root_.Go.OpenSpec.ofChange s with cond := some uptoSmall }

/-- 'catchboltlaw03.WordPuts', WHERE WHAT IT READS IS OF BULK AT MOST 1048576: true; the input reads as it did. -/
def wordPutsUptoRow : OpenClaim := { program := "ytdbiigcabfnpfaadoor", sum := "bd84b9e57f41a64b233f426fce5f0361504d03b64f41feaf51714b0960a0e955", func := "catchbolt/catchboltlaw03.WordPuts", spec := "wordPuts", inPlace := ["internal/reflectlite.ValueOf", "(internal/reflectlite.Value).Type", "(internal/reflectlite.Value).IsNil", "internal/reflectlite.TypeOf", "(internal/reflectlite.Value).Elem", "(internal/reflectlite.Value).Set"], unfollowed := true, recurses := true, named := ["errors.errorType"], apart := false, laid := [("errors.errorType", laid_errors_errorType)], narrowed := true }
def WordPutsUptoSaid : Prop := wordPutsUptoRow.holds Tryd.pinned (OpenSpec.upto wordPutsSpec)

/-- 'catchboltlaw03.WordBack', WHERE WHAT IT READS IS OF BULK AT MOST 1048576: true; the input reads as it did. -/
def wordBackUptoRow : OpenClaim := { program := "ytdbiigcabfnpfaadoor", sum := "bd84b9e57f41a64b233f426fce5f0361504d03b64f41feaf51714b0960a0e955", func := "catchbolt/catchboltlaw03.WordBack", spec := "wordBack", inPlace := ["internal/reflectlite.ValueOf", "(internal/reflectlite.Value).Type", "(internal/reflectlite.Value).IsNil", "internal/reflectlite.TypeOf", "(internal/reflectlite.Value).Elem", "(internal/reflectlite.Value).Set"], unfollowed := true, recurses := true, named := ["errors.errorType"], apart := false, laid := [("errors.errorType", laid_errors_errorType)], narrowed := true }
def WordBackUptoSaid : Prop := wordBackUptoRow.holds Tryd.pinned (OpenSpec.upto wordBackSpec)

/-- 'catchboltlaw03.WordTakes', WHERE WHAT IT READS IS OF BULK AT MOST 1048576: true; the input reads as it did. -/
def wordTakesUptoRow : OpenClaim := { program := "ytdbiigcabfnpfaadoor", sum := "bd84b9e57f41a64b233f426fce5f0361504d03b64f41feaf51714b0960a0e955", func := "catchbolt/catchboltlaw03.WordTakes", spec := "wordTakes", inPlace := ["internal/reflectlite.ValueOf", "(internal/reflectlite.Value).Type", "(internal/reflectlite.Value).IsNil", "internal/reflectlite.TypeOf", "(internal/reflectlite.Value).Elem", "(internal/reflectlite.Value).Set"], unfollowed := true, recurses := true, named := ["errors.errorType"], apart := false, laid := [("errors.errorType", laid_errors_errorType)], narrowed := true }
def WordTakesUptoSaid : Prop := wordTakesUptoRow.holds Tryd.pinned (OpenSpec.upto wordTakesSpec)

/-- 'catchboltlaw03.WordNone', WHERE WHAT IT READS IS OF BULK AT MOST 1048576: true; the input reads as it did. -/
def wordNoneUptoRow : OpenClaim := { program := "ytdbiigcabfnpfaadoor", sum := "bd84b9e57f41a64b233f426fce5f0361504d03b64f41feaf51714b0960a0e955", func := "catchbolt/catchboltlaw03.WordNone", spec := "wordNone", inPlace := ["internal/reflectlite.ValueOf", "(internal/reflectlite.Value).Type", "(internal/reflectlite.Value).IsNil", "internal/reflectlite.TypeOf", "(internal/reflectlite.Value).Elem", "(internal/reflectlite.Value).Set"], unfollowed := true, recurses := true, named := ["errors.errorType"], apart := false, laid := [("errors.errorType", laid_errors_errorType)], narrowed := true }
def WordNoneUptoSaid : Prop := wordNoneUptoRow.holds Tryd.pinned (OpenSpec.upto wordNoneSpec)

end Rows
end Go.Proofs.YtdbiigcabfnpfaaDoor

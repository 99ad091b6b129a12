/-
  DERIVED. GIVEN WITH THE SEED: THE CARDS: each row of YtkmmhdghkbleaaaDoorRows.lean that lists a variable, with what it lists TIED to the program's text (the seventh form; the later family's looks); each row that meets fmt, with fmt's text TOLD by the authors' own Lean function (tested against real Go, not proved from fmt's source: count such statements apart). THE CARD IS WHAT COUNTS. Prove the row's statement (the work); the ties are given (YtkmmhdghkbleaaaDoorTie.lean); close each card by the builder's one call (the guide's Derived/Test/ToyasCard.lean, 'card_holds'). Laid BY PROGRAM, IN A SANDBOX (cutbox-door.mjs). By AI agents, Wed Nov 11 2026. No macro, syntax, notation, axiom, sorry.
-/
import Derived.Test.YtkmmhdghkbleaaaDoorRows
import GoSem.ClaimSeven
namespace Go.Proofs.YtkmmhdghkbleaaaDoor
namespace Rows

/-- THE TIED CARD OF 'catchboltlaw19.ScriptWrites'. -/
def scriptWritesCard : Claim7 := { stood := { row := scriptWritesRow, standIns := [], harness := (true, "ca5ce79dd7844798e92dc69961e0b2628412861e06a968fecd1ac6bd79af1654"), looks := true }, kinds := [], alts := [], laidByText := true, laidKinds := [.handle], laidTests := true, laidLooks := .later }
def ScriptWritesCardSaid : Prop := Claim7.holds Tryd.pinned (.plain (OpenSpec.ofChange scriptWritesSpec)) scriptWritesCard

/-- THE SECOND FORM's CARD OF 'catchboltlaw19.ScriptWrites'. -/
def scriptWritesUptoCard : Claim7 := { stood := { row := scriptWritesUptoRow, standIns := [], harness := (true, "ca5ce79dd7844798e92dc69961e0b2628412861e06a968fecd1ac6bd79af1654"), looks := true }, kinds := [], alts := [], laidByText := true, laidKinds := [.handle], laidTests := true, laidLooks := .later }
def ScriptWritesUptoCardSaid : Prop := Claim7.holds Tryd.pinned (.plain (OpenSpec.upto scriptWritesSpec)) scriptWritesUptoCard
end Rows
end Go.Proofs.YtkmmhdghkbleaaaDoor

/-
  DERIVED. GIVEN WITH THE SEED: THE CARDS: each row of YtdbiigcabfnpfaaDoorRows.lean that lists a variable, with what it lists TIED to the program's text (the seventh form; the later family's looks); each row that meets fmt, with fmt's text TOLD by the authors' own Lean function (tested against real Go, not proved from fmt's source: count such statements apart). THE CARD IS WHAT COUNTS. Prove the row's statement (the work); the ties are given (YtdbiigcabfnpfaaDoorTie.lean); close each card by the builder's one call (the guide's Derived/Test/ToyasCard.lean, 'card_holds'). Laid BY PROGRAM, IN A SANDBOX (cutbox-door.mjs). By AI agents, Wed Nov 11 2026. No macro, syntax, notation, axiom, sorry.
-/
import Derived.Test.YtdbiigcabfnpfaaDoorRows
import GoSem.ClaimSeven
namespace Go.Proofs.YtdbiigcabfnpfaaDoor
namespace Rows

/-- THE TIED CARD OF 'catchboltlaw03.WordPuts'. -/
def wordPutsCard : Claim7 := { stood := { row := wordPutsRow, standIns := [], harness := (true, "48b6ab1156da0019cfdd916767871476d7faa76e71692fcdaebc97bde2b69b98"), looks := true }, kinds := [], alts := [], laidByText := true, laidKinds := [.handle], laidTests := true, laidLooks := .later }
def WordPutsCardSaid : Prop := Claim7.holds Tryd.pinned (.plain (OpenSpec.ofChange wordPutsSpec)) wordPutsCard

/-- THE TIED CARD OF 'catchboltlaw03.WordBack'. -/
def wordBackCard : Claim7 := { stood := { row := wordBackRow, standIns := [], harness := (true, "48b6ab1156da0019cfdd916767871476d7faa76e71692fcdaebc97bde2b69b98"), looks := true }, kinds := [], alts := [], laidByText := true, laidKinds := [.handle], laidTests := true, laidLooks := .later }
def WordBackCardSaid : Prop := Claim7.holds Tryd.pinned (.plain (OpenSpec.ofChange wordBackSpec)) wordBackCard

/-- THE TIED CARD OF 'catchboltlaw03.WordTakes'. -/
def wordTakesCard : Claim7 := { stood := { row := wordTakesRow, standIns := [], harness := (true, "48b6ab1156da0019cfdd916767871476d7faa76e71692fcdaebc97bde2b69b98"), looks := true }, kinds := [], alts := [], laidByText := true, laidKinds := [.handle], laidTests := true, laidLooks := .later }
def WordTakesCardSaid : Prop := Claim7.holds Tryd.pinned (.plain (OpenSpec.ofChange wordTakesSpec)) wordTakesCard

/-- THE TIED CARD OF 'catchboltlaw03.WordNone'. -/
def wordNoneCard : Claim7 := { stood := { row := wordNoneRow, standIns := [], harness := (true, "48b6ab1156da0019cfdd916767871476d7faa76e71692fcdaebc97bde2b69b98"), looks := true }, kinds := [], alts := [], laidByText := true, laidKinds := [.handle], laidTests := true, laidLooks := .later }
def WordNoneCardSaid : Prop := Claim7.holds Tryd.pinned (.plain (OpenSpec.ofChange wordNoneSpec)) wordNoneCard

/-- THE SECOND FORM's CARD OF 'catchboltlaw03.WordPuts'. -/
def wordPutsUptoCard : Claim7 := { stood := { row := wordPutsUptoRow, standIns := [], harness := (true, "48b6ab1156da0019cfdd916767871476d7faa76e71692fcdaebc97bde2b69b98"), looks := true }, kinds := [], alts := [], laidByText := true, laidKinds := [.handle], laidTests := true, laidLooks := .later }
def WordPutsUptoCardSaid : Prop := Claim7.holds Tryd.pinned (.plain (OpenSpec.upto wordPutsSpec)) wordPutsUptoCard

/-- THE SECOND FORM's CARD OF 'catchboltlaw03.WordBack'. -/
def wordBackUptoCard : Claim7 := { stood := { row := wordBackUptoRow, standIns := [], harness := (true, "48b6ab1156da0019cfdd916767871476d7faa76e71692fcdaebc97bde2b69b98"), looks := true }, kinds := [], alts := [], laidByText := true, laidKinds := [.handle], laidTests := true, laidLooks := .later }
def WordBackUptoCardSaid : Prop := Claim7.holds Tryd.pinned (.plain (OpenSpec.upto wordBackSpec)) wordBackUptoCard

/-- THE SECOND FORM's CARD OF 'catchboltlaw03.WordTakes'. -/
def wordTakesUptoCard : Claim7 := { stood := { row := wordTakesUptoRow, standIns := [], harness := (true, "48b6ab1156da0019cfdd916767871476d7faa76e71692fcdaebc97bde2b69b98"), looks := true }, kinds := [], alts := [], laidByText := true, laidKinds := [.handle], laidTests := true, laidLooks := .later }
def WordTakesUptoCardSaid : Prop := Claim7.holds Tryd.pinned (.plain (OpenSpec.upto wordTakesSpec)) wordTakesUptoCard

/-- THE SECOND FORM's CARD OF 'catchboltlaw03.WordNone'. -/
def wordNoneUptoCard : Claim7 := { stood := { row := wordNoneUptoRow, standIns := [], harness := (true, "48b6ab1156da0019cfdd916767871476d7faa76e71692fcdaebc97bde2b69b98"), looks := true }, kinds := [], alts := [], laidByText := true, laidKinds := [.handle], laidTests := true, laidLooks := .later }
def WordNoneUptoCardSaid : Prop := Claim7.holds Tryd.pinned (.plain (OpenSpec.upto wordNoneSpec)) wordNoneUptoCard
end Rows
end Go.Proofs.YtdbiigcabfnpfaaDoor

/-
  DERIVED. GIVEN WITH THE SEED: THE CARDS: each row of YtggkohkngockoaaDoorRows.lean that lists a variable, with what it lists TIED to the program's text (the seventh form; the later family's looks); each row that meets fmt, with fmt's text TOLD by the authors' own Lean function (tested against real Go, not proved from fmt's source: count such statements apart). THE CARD IS WHAT COUNTS. Prove the row's statement (the work); the ties are given (YtggkohkngockoaaDoorTie.lean); close each card by the builder's one call (the guide's Derived/Test/ToyasCard.lean, 'card_holds'). Laid BY PROGRAM, IN A SANDBOX (cutbox-door.mjs). By AI agents, Wed Nov 11 2026. No macro, syntax, notation, axiom, sorry.
-/
import Derived.Test.YtggkohkngockoaaDoorRows
import GoSem.ClaimSeven
namespace Go.Proofs.YtggkohkngockoaaDoor
namespace Rows

/-- THE TIED CARD OF 'catchboltlaw20.ModelChecks'. -/
def modelChecksCard : Claim7 := { stood := { row := modelChecksRow, standIns := [], harness := (true, "0a169e33d97eeb8373247b033fe6406d55addbcc6353969c125e0f107ef2a316"), looks := true }, kinds := [], alts := [], laidByText := true, laidKinds := [.handle], laidTests := true, laidLooks := .later }
def ModelChecksCardSaid : Prop := Claim7.holds Tryd.pinned (.plain (OpenSpec.ofChange modelChecksSpec)) modelChecksCard

/-- THE TIED CARD OF 'catchboltlaw20.ModelBegins'. -/
def modelBeginsCard : Claim7 := { stood := { row := modelBeginsRow, standIns := [], harness := (true, "0a169e33d97eeb8373247b033fe6406d55addbcc6353969c125e0f107ef2a316"), looks := true }, kinds := [], alts := [], laidByText := true, laidKinds := [.handle], laidTests := true, laidLooks := .later }
def ModelBeginsCardSaid : Prop := Claim7.holds Tryd.pinned (.plain (OpenSpec.ofChange modelBeginsSpec)) modelBeginsCard

/-- THE TIED CARD OF 'catchboltlaw20.ModelSerial'. -/
def modelSerialCard : Claim7 := { stood := { row := modelSerialRow, standIns := [], harness := (true, "0a169e33d97eeb8373247b033fe6406d55addbcc6353969c125e0f107ef2a316"), looks := true }, kinds := [], alts := [], laidByText := true, laidKinds := [.handle], laidTests := true, laidLooks := .later }
def ModelSerialCardSaid : Prop := Claim7.holds Tryd.pinned (.plain (OpenSpec.ofChange modelSerialSpec)) modelSerialCard

/-- THE TIED CARD OF 'catchboltlaw20.ModelEnds'. -/
def modelEndsCard : Claim7 := { stood := { row := modelEndsRow, standIns := [], harness := (true, "0a169e33d97eeb8373247b033fe6406d55addbcc6353969c125e0f107ef2a316"), looks := true }, kinds := [], alts := [], laidByText := true, laidKinds := [.handle], laidTests := true, laidLooks := .later }
def ModelEndsCardSaid : Prop := Claim7.holds Tryd.pinned (.plain (OpenSpec.ofChange modelEndsSpec)) modelEndsCard

/-- THE SECOND FORM's CARD OF 'catchboltlaw20.ModelChecks'. -/
def modelChecksUptoCard : Claim7 := { stood := { row := modelChecksUptoRow, standIns := [], harness := (true, "0a169e33d97eeb8373247b033fe6406d55addbcc6353969c125e0f107ef2a316"), looks := true }, kinds := [], alts := [], laidByText := true, laidKinds := [.handle], laidTests := true, laidLooks := .later }
def ModelChecksUptoCardSaid : Prop := Claim7.holds Tryd.pinned (.plain (OpenSpec.upto modelChecksSpec)) modelChecksUptoCard

/-- THE SECOND FORM's CARD OF 'catchboltlaw20.ModelBegins'. -/
def modelBeginsUptoCard : Claim7 := { stood := { row := modelBeginsUptoRow, standIns := [], harness := (true, "0a169e33d97eeb8373247b033fe6406d55addbcc6353969c125e0f107ef2a316"), looks := true }, kinds := [], alts := [], laidByText := true, laidKinds := [.handle], laidTests := true, laidLooks := .later }
def ModelBeginsUptoCardSaid : Prop := Claim7.holds Tryd.pinned (.plain (OpenSpec.upto modelBeginsSpec)) modelBeginsUptoCard

/-- THE SECOND FORM's CARD OF 'catchboltlaw20.ModelSerial'. -/
def modelSerialUptoCard : Claim7 := { stood := { row := modelSerialUptoRow, standIns := [], harness := (true, "0a169e33d97eeb8373247b033fe6406d55addbcc6353969c125e0f107ef2a316"), looks := true }, kinds := [], alts := [], laidByText := true, laidKinds := [.handle], laidTests := true, laidLooks := .later }
def ModelSerialUptoCardSaid : Prop := Claim7.holds Tryd.pinned (.plain (OpenSpec.upto modelSerialSpec)) modelSerialUptoCard

/-- THE SECOND FORM's CARD OF 'catchboltlaw20.ModelEnds'. -/
def modelEndsUptoCard : Claim7 := { stood := { row := modelEndsUptoRow, standIns := [], harness := (true, "0a169e33d97eeb8373247b033fe6406d55addbcc6353969c125e0f107ef2a316"), looks := true }, kinds := [], alts := [], laidByText := true, laidKinds := [.handle], laidTests := true, laidLooks := .later }
def ModelEndsUptoCardSaid : Prop := Claim7.holds Tryd.pinned (.plain (OpenSpec.upto modelEndsSpec)) modelEndsUptoCard
end Rows
end Go.Proofs.YtggkohkngockoaaDoor

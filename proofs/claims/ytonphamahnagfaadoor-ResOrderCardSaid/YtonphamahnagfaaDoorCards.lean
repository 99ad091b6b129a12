/-
  DERIVED. GIVEN WITH THE SEED: THE CARDS: each row of YtonphamahnagfaaDoorRows.lean that lists a variable, with what it lists TIED to the program's text (the seventh form; the later family's looks); each row that meets fmt, with fmt's text TOLD by the authors' own Lean function (tested against real Go, not proved from fmt's source: count such statements apart). THE CARD IS WHAT COUNTS. Prove the row's statement (the work); the ties are given (YtonphamahnagfaaDoorTie.lean); close each card by the builder's one call (the guide's Derived/Test/ToyasCard.lean, 'card_holds'). Laid BY PROGRAM, IN A SANDBOX (cutbox-door.mjs). By AI agents, Wed Nov 11 2026. No macro, syntax, notation, axiom, sorry.
-/
import Derived.Test.YtonphamahnagfaaDoorRows
import GoSem.ClaimSeven
namespace Go.Proofs.YtonphamahnagfaaDoor
namespace Rows

/-- THE TIED CARD OF 'catchboltlaw02.ResReads'. -/
def resReadsCard : Claim7 := { stood := { row := resReadsRow, standIns := [], harness := (true, "d6757eb323542118a7c5ef9132de95983140926fd00f0b7a096e6e5f706d158f"), looks := true }, kinds := [], alts := [], laidByText := true, laidKinds := [.handle], laidTests := true, laidLooks := .later }
def ResReadsCardSaid : Prop := Claim7.holds Tryd.pinned (.plain (OpenSpec.ofChange resReadsSpec)) resReadsCard

/-- THE TIED CARD OF 'catchboltlaw02.ResOnly'. -/
def resOnlyCard : Claim7 := { stood := { row := resOnlyRow, standIns := [], harness := (true, "d6757eb323542118a7c5ef9132de95983140926fd00f0b7a096e6e5f706d158f"), looks := true }, kinds := [], alts := [], laidByText := true, laidKinds := [.data, .data, .data, .handle], laidTests := true, laidLooks := .later }
def ResOnlyCardSaid : Prop := Claim7.holds Tryd.pinned (.plain (OpenSpec.ofChange resOnlySpec)) resOnlyCard

/-- THE TIED CARD OF 'catchboltlaw02.ResBack'. -/
def resBackCard : Claim7 := { stood := { row := resBackRow, standIns := [], harness := (true, "d6757eb323542118a7c5ef9132de95983140926fd00f0b7a096e6e5f706d158f"), looks := true }, kinds := [], alts := [], laidByText := true, laidKinds := [.data, .data, .data, .handle], laidTests := true, laidLooks := .later }
def ResBackCardSaid : Prop := Claim7.holds Tryd.pinned (.plain (OpenSpec.ofChange resBackSpec)) resBackCard

/-- THE TIED CARD OF 'catchboltlaw02.ResMay'. -/
def resMayCard : Claim7 := { stood := { row := resMayRow, standIns := [], harness := (true, "d6757eb323542118a7c5ef9132de95983140926fd00f0b7a096e6e5f706d158f"), looks := true }, kinds := [], alts := [], laidByText := true, laidKinds := [.data, .data, .data, .handle], laidTests := true, laidLooks := .later }
def ResMayCardSaid : Prop := Claim7.holds Tryd.pinned (.plain (OpenSpec.ofChange resMaySpec)) resMayCard

/-- THE TIED CARD OF 'catchboltlaw02.ResOrder'. -/
def resOrderCard : Claim7 := { stood := { row := resOrderRow, standIns := [], harness := (true, "d6757eb323542118a7c5ef9132de95983140926fd00f0b7a096e6e5f706d158f"), looks := true }, kinds := [], alts := [], laidByText := true, laidKinds := [.handle], laidTests := true, laidLooks := .later }
def ResOrderCardSaid : Prop := Claim7.holds Tryd.pinned (.plain (OpenSpec.ofChange resOrderSpec)) resOrderCard

/-- THE SECOND FORM's CARD OF 'catchboltlaw02.ResReads'. -/
def resReadsUptoCard : Claim7 := { stood := { row := resReadsUptoRow, standIns := [], harness := (true, "d6757eb323542118a7c5ef9132de95983140926fd00f0b7a096e6e5f706d158f"), looks := true }, kinds := [], alts := [], laidByText := true, laidKinds := [.handle], laidTests := true, laidLooks := .later }
def ResReadsUptoCardSaid : Prop := Claim7.holds Tryd.pinned (.plain (OpenSpec.upto resReadsSpec)) resReadsUptoCard

/-- THE SECOND FORM's CARD OF 'catchboltlaw02.ResOnly'. -/
def resOnlyUptoCard : Claim7 := { stood := { row := resOnlyUptoRow, standIns := [], harness := (true, "d6757eb323542118a7c5ef9132de95983140926fd00f0b7a096e6e5f706d158f"), looks := true }, kinds := [], alts := [], laidByText := true, laidKinds := [.data, .data, .data, .handle], laidTests := true, laidLooks := .later }
def ResOnlyUptoCardSaid : Prop := Claim7.holds Tryd.pinned (.plain (OpenSpec.upto resOnlySpec)) resOnlyUptoCard

/-- THE SECOND FORM's CARD OF 'catchboltlaw02.ResBack'. -/
def resBackUptoCard : Claim7 := { stood := { row := resBackUptoRow, standIns := [], harness := (true, "d6757eb323542118a7c5ef9132de95983140926fd00f0b7a096e6e5f706d158f"), looks := true }, kinds := [], alts := [], laidByText := true, laidKinds := [.data, .data, .data, .handle], laidTests := true, laidLooks := .later }
def ResBackUptoCardSaid : Prop := Claim7.holds Tryd.pinned (.plain (OpenSpec.upto resBackSpec)) resBackUptoCard

/-- THE SECOND FORM's CARD OF 'catchboltlaw02.ResMay'. -/
def resMayUptoCard : Claim7 := { stood := { row := resMayUptoRow, standIns := [], harness := (true, "d6757eb323542118a7c5ef9132de95983140926fd00f0b7a096e6e5f706d158f"), looks := true }, kinds := [], alts := [], laidByText := true, laidKinds := [.data, .data, .data, .handle], laidTests := true, laidLooks := .later }
def ResMayUptoCardSaid : Prop := Claim7.holds Tryd.pinned (.plain (OpenSpec.upto resMaySpec)) resMayUptoCard

/-- THE SECOND FORM's CARD OF 'catchboltlaw02.ResOrder'. -/
def resOrderUptoCard : Claim7 := { stood := { row := resOrderUptoRow, standIns := [], harness := (true, "d6757eb323542118a7c5ef9132de95983140926fd00f0b7a096e6e5f706d158f"), looks := true }, kinds := [], alts := [], laidByText := true, laidKinds := [.handle], laidTests := true, laidLooks := .later }
def ResOrderUptoCardSaid : Prop := Claim7.holds Tryd.pinned (.plain (OpenSpec.upto resOrderSpec)) resOrderUptoCard
end Rows
end Go.Proofs.YtonphamahnagfaaDoor

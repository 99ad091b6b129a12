/-
  DERIVED. GIVEN WITH THE SEED: THE CARDS: each row of YtjpjlfjaapfnkaaGreatDoorRows.lean that lists a variable, with what it lists TIED to the program's text (the seventh form; the later family's looks); each row that meets fmt, with fmt's text TOLD by the authors' own Lean function (tested against real Go, not proved from fmt's source: count such statements apart). THE CARD IS WHAT COUNTS. Prove the row's statement (the work); the ties are given (YtjpjlfjaapfnkaaGreatDoorTie.lean); close each card by the builder's one call (the guide's Derived/Test/ToyasCard.lean, 'card_holds'). Laid BY PROGRAM, IN A SANDBOX (cutbox-door.mjs). By AI agents, Wed Nov 11 2026. No macro, syntax, notation, axiom, sorry.
-/
import Derived.Test.YtjpjlfjaapfnkaaGreatDoorRows
import GoSem.ClaimSeven
namespace Go.Proofs.YtjpjlfjaapfnkaaGreatDoor
namespace Rows

/-- THE TIED CARD OF 'catchboltlaw24.TextEntries'. -/
def textEntriesCard : Claim7 := { stood := { row := textEntriesRow, standIns := [], harness := (true, "52896fb7d0c857bed0a07c7ddaf24a52aa4d8d726fce86200a63a1a0fd8a9ea5"), looks := true }, kinds := [], alts := [], laidByText := true, laidKinds := [.data, .data, .data, .data, .handle, .sentinel, .sentinel, .pinned], laidTests := true, laidLooks := .later }
def TextEntriesCardSaid : Prop := Claim7.holds Tryz.pinned (.plain (OpenSpec.ofChange textEntriesSpec)) textEntriesCard

/-- THE TIED CARD OF 'catchboltlaw24.TextApart'. -/
def textApartCard : Claim7 := { stood := { row := textApartRow, standIns := [], harness := (true, "52896fb7d0c857bed0a07c7ddaf24a52aa4d8d726fce86200a63a1a0fd8a9ea5"), looks := true }, kinds := [], alts := [], laidByText := true, laidKinds := [.data, .data, .data, .data, .handle, .sentinel, .sentinel, .pinned], laidTests := true, laidLooks := .later }
def TextApartCardSaid : Prop := Claim7.holds Tryz.pinned (.plain (OpenSpec.ofChange textApartSpec)) textApartCard

/-- THE TIED CARD OF 'catchboltlaw24.TextEvents'. -/
def textEventsCard : Claim7 := { stood := { row := textEventsRow, standIns := [], harness := (true, "52896fb7d0c857bed0a07c7ddaf24a52aa4d8d726fce86200a63a1a0fd8a9ea5"), looks := true }, kinds := [], alts := [], laidByText := true, laidKinds := [.data, .data, .data, .data, .handle, .sentinel, .sentinel, .pinned], laidTests := true, laidLooks := .later }
def TextEventsCardSaid : Prop := Claim7.holds Tryz.pinned (.plain (OpenSpec.ofChange textEventsSpec)) textEventsCard

/-- THE TIED CARD OF 'catchboltlaw24.TextBack'. -/
def textBackCard : Claim7 := { stood := { row := textBackRow, standIns := [], harness := (true, "52896fb7d0c857bed0a07c7ddaf24a52aa4d8d726fce86200a63a1a0fd8a9ea5"), looks := true }, kinds := [], alts := [], laidByText := true, laidKinds := [.data, .data, .data, .data, .handle, .sentinel, .sentinel, .pinned], laidTests := true, laidLooks := .later }
def TextBackCardSaid : Prop := Claim7.holds Tryz.pinned (.plain (OpenSpec.ofChange textBackSpec)) textBackCard

/-- THE TIED CARD OF 'catchboltlaw24.TextLists'. -/
def textListsCard : Claim7 := { stood := { row := textListsRow, standIns := [], harness := (true, "52896fb7d0c857bed0a07c7ddaf24a52aa4d8d726fce86200a63a1a0fd8a9ea5"), looks := true }, kinds := [], alts := [], laidByText := true, laidKinds := [.data, .data, .data, .data, .handle, .sentinel, .sentinel, .pinned], laidTests := true, laidLooks := .later }
def TextListsCardSaid : Prop := Claim7.holds Tryz.pinned (.plain (OpenSpec.ofChange textListsSpec)) textListsCard

/-- THE TIED CARD OF 'catchboltlaw24.TextWhole'. -/
def textWholeCard : Claim7 := { stood := { row := textWholeRow, standIns := [], harness := (true, "52896fb7d0c857bed0a07c7ddaf24a52aa4d8d726fce86200a63a1a0fd8a9ea5"), looks := true }, kinds := [], alts := [], laidByText := true, laidKinds := [.data, .data, .data, .data, .handle, .sentinel, .sentinel, .pinned], laidTests := true, laidLooks := .later }
def TextWholeCardSaid : Prop := Claim7.holds Tryz.pinned (.plain (OpenSpec.ofChange textWholeSpec)) textWholeCard

/-- THE SECOND FORM's CARD OF 'catchboltlaw24.TextEntries'. -/
def textEntriesUptoCard : Claim7 := { stood := { row := textEntriesUptoRow, standIns := [], harness := (true, "52896fb7d0c857bed0a07c7ddaf24a52aa4d8d726fce86200a63a1a0fd8a9ea5"), looks := true }, kinds := [], alts := [], laidByText := true, laidKinds := [.data, .data, .data, .data, .handle, .sentinel, .sentinel, .pinned], laidTests := true, laidLooks := .later }
def TextEntriesUptoCardSaid : Prop := Claim7.holds Tryz.pinned (.plain (OpenSpec.upto textEntriesSpec)) textEntriesUptoCard

/-- THE SECOND FORM's CARD OF 'catchboltlaw24.TextApart'. -/
def textApartUptoCard : Claim7 := { stood := { row := textApartUptoRow, standIns := [], harness := (true, "52896fb7d0c857bed0a07c7ddaf24a52aa4d8d726fce86200a63a1a0fd8a9ea5"), looks := true }, kinds := [], alts := [], laidByText := true, laidKinds := [.data, .data, .data, .data, .handle, .sentinel, .sentinel, .pinned], laidTests := true, laidLooks := .later }
def TextApartUptoCardSaid : Prop := Claim7.holds Tryz.pinned (.plain (OpenSpec.upto textApartSpec)) textApartUptoCard

/-- THE SECOND FORM's CARD OF 'catchboltlaw24.TextEvents'. -/
def textEventsUptoCard : Claim7 := { stood := { row := textEventsUptoRow, standIns := [], harness := (true, "52896fb7d0c857bed0a07c7ddaf24a52aa4d8d726fce86200a63a1a0fd8a9ea5"), looks := true }, kinds := [], alts := [], laidByText := true, laidKinds := [.data, .data, .data, .data, .handle, .sentinel, .sentinel, .pinned], laidTests := true, laidLooks := .later }
def TextEventsUptoCardSaid : Prop := Claim7.holds Tryz.pinned (.plain (OpenSpec.upto textEventsSpec)) textEventsUptoCard

/-- THE SECOND FORM's CARD OF 'catchboltlaw24.TextBack'. -/
def textBackUptoCard : Claim7 := { stood := { row := textBackUptoRow, standIns := [], harness := (true, "52896fb7d0c857bed0a07c7ddaf24a52aa4d8d726fce86200a63a1a0fd8a9ea5"), looks := true }, kinds := [], alts := [], laidByText := true, laidKinds := [.data, .data, .data, .data, .handle, .sentinel, .sentinel, .pinned], laidTests := true, laidLooks := .later }
def TextBackUptoCardSaid : Prop := Claim7.holds Tryz.pinned (.plain (OpenSpec.upto textBackSpec)) textBackUptoCard

/-- THE SECOND FORM's CARD OF 'catchboltlaw24.TextLists'. -/
def textListsUptoCard : Claim7 := { stood := { row := textListsUptoRow, standIns := [], harness := (true, "52896fb7d0c857bed0a07c7ddaf24a52aa4d8d726fce86200a63a1a0fd8a9ea5"), looks := true }, kinds := [], alts := [], laidByText := true, laidKinds := [.data, .data, .data, .data, .handle, .sentinel, .sentinel, .pinned], laidTests := true, laidLooks := .later }
def TextListsUptoCardSaid : Prop := Claim7.holds Tryz.pinned (.plain (OpenSpec.upto textListsSpec)) textListsUptoCard

/-- THE SECOND FORM's CARD OF 'catchboltlaw24.TextWhole'. -/
def textWholeUptoCard : Claim7 := { stood := { row := textWholeUptoRow, standIns := [], harness := (true, "52896fb7d0c857bed0a07c7ddaf24a52aa4d8d726fce86200a63a1a0fd8a9ea5"), looks := true }, kinds := [], alts := [], laidByText := true, laidKinds := [.data, .data, .data, .data, .handle, .sentinel, .sentinel, .pinned], laidTests := true, laidLooks := .later }
def TextWholeUptoCardSaid : Prop := Claim7.holds Tryz.pinned (.plain (OpenSpec.upto textWholeSpec)) textWholeUptoCard
end Rows
end Go.Proofs.YtjpjlfjaapfnkaaGreatDoor

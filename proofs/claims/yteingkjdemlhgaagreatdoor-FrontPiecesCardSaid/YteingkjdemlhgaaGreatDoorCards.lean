/-
  DERIVED. GIVEN WITH THE SEED: THE CARDS: each row of YteingkjdemlhgaaGreatDoorRows.lean that lists a variable, with what it lists TIED to the program's text (the seventh form; the later family's looks); each row that meets fmt, with fmt's text TOLD by the authors' own Lean function (tested against real Go, not proved from fmt's source: count such statements apart). THE CARD IS WHAT COUNTS. Prove the row's statement (the work); the ties are given (YteingkjdemlhgaaGreatDoorTie.lean); close each card by the builder's one call (the guide's Derived/Test/ToyasCard.lean, 'card_holds'). Laid BY PROGRAM, IN A SANDBOX (cutbox-door.mjs). By AI agents, Wed Nov 11 2026. No macro, syntax, notation, axiom, sorry.
-/
import Derived.Test.YteingkjdemlhgaaGreatDoorRows
import GoSem.ClaimSeven
namespace Go.Proofs.YteingkjdemlhgaaGreatDoor
namespace Rows

/-- THE TIED CARD OF 'cartouchelaw.FrontAgain'. -/
def frontAgainCard : Claim7 := { stood := { row := frontAgainRow, standIns := [], harness := (true, "6589b137d2f2ba7f726196143e8b5bdf3082666e12f397c757cdb789d2d2cada"), looks := false }, kinds := [], alts := [], laidByText := true, laidKinds := [.data, .data, .data, .data, .pinned], laidTests := true, laidLooks := .later }
def FrontAgainCardSaid : Prop := Claim7.holds Tryz.pinned (.plain (OpenSpec.ofChange frontAgainSpec)) frontAgainCard

/-- THE TIED CARD OF 'cartouchelaw.RestPoints'. -/
def restPointsCard : Claim7 := { stood := { row := restPointsRow, standIns := [], harness := (true, "6589b137d2f2ba7f726196143e8b5bdf3082666e12f397c757cdb789d2d2cada"), looks := false }, kinds := [], alts := [], laidByText := true, laidKinds := [.data, .data, .data, .data, .pinned], laidTests := true, laidLooks := .later }
def RestPointsCardSaid : Prop := Claim7.holds Tryz.pinned (.plain (OpenSpec.ofChange restPointsSpec)) restPointsCard

/-- THE TIED CARD OF 'cartouchelaw.TextTells'. -/
def textTellsCard : Claim7 := { stood := { row := textTellsRow, standIns := [], harness := (true, "6589b137d2f2ba7f726196143e8b5bdf3082666e12f397c757cdb789d2d2cada"), looks := false }, kinds := [], alts := [], laidByText := true, laidKinds := [.data, .data, .data, .data, .pinned], laidTests := true, laidLooks := .later }
def TextTellsCardSaid : Prop := Claim7.holds Tryz.pinned (.plain (OpenSpec.ofChange textTellsSpec)) textTellsCard

/-- THE TIED CARD OF 'cartouchelaw.TextRecode'. -/
def textRecodeCard : Claim7 := { stood := { row := textRecodeRow, standIns := [], harness := (true, "6589b137d2f2ba7f726196143e8b5bdf3082666e12f397c757cdb789d2d2cada"), looks := false }, kinds := [], alts := [], laidByText := true, laidKinds := [.data, .data, .data, .data, .pinned], laidTests := true, laidLooks := .later }
def TextRecodeCardSaid : Prop := Claim7.holds Tryz.pinned (.plain (OpenSpec.ofChange textRecodeSpec)) textRecodeCard

/-- THE TIED CARD OF 'cartouchelaw.TextCount'. -/
def textCountCard : Claim7 := { stood := { row := textCountRow, standIns := [], harness := (true, "6589b137d2f2ba7f726196143e8b5bdf3082666e12f397c757cdb789d2d2cada"), looks := false }, kinds := [], alts := [], laidByText := true, laidKinds := [.data, .data, .data, .data, .pinned], laidTests := true, laidLooks := .later }
def TextCountCardSaid : Prop := Claim7.holds Tryz.pinned (.plain (OpenSpec.ofChange textCountSpec)) textCountCard

/-- THE TIED CARD OF 'cartouchelaw.TextStays'. -/
def textStaysCard : Claim7 := { stood := { row := textStaysRow, standIns := [], harness := (true, "6589b137d2f2ba7f726196143e8b5bdf3082666e12f397c757cdb789d2d2cada"), looks := false }, kinds := [], alts := [], laidByText := true, laidKinds := [.data, .data, .data, .data, .pinned], laidTests := true, laidLooks := .later }
def TextStaysCardSaid : Prop := Claim7.holds Tryz.pinned (.plain (OpenSpec.ofChange textStaysSpec)) textStaysCard

/-- THE TIED CARD OF 'cartouchelaw.FrontPieces'. -/
def frontPiecesCard : Claim7 := { stood := { row := frontPiecesRow, standIns := [], harness := (true, "6589b137d2f2ba7f726196143e8b5bdf3082666e12f397c757cdb789d2d2cada"), looks := false }, kinds := [], alts := [], laidByText := true, laidKinds := [.data, .data, .data, .data, .pinned], laidTests := true, laidLooks := .later }
def FrontPiecesCardSaid : Prop := Claim7.holds Tryz.pinned (.plain (OpenSpec.ofChange frontPiecesSpec)) frontPiecesCard

/-- THE SECOND FORM's CARD OF 'cartouchelaw.FrontAgain'. -/
def frontAgainUptoCard : Claim7 := { stood := { row := frontAgainUptoRow, standIns := [], harness := (true, "6589b137d2f2ba7f726196143e8b5bdf3082666e12f397c757cdb789d2d2cada"), looks := false }, kinds := [], alts := [], laidByText := true, laidKinds := [.data, .data, .data, .data, .pinned], laidTests := true, laidLooks := .later }
def FrontAgainUptoCardSaid : Prop := Claim7.holds Tryz.pinned (.plain (OpenSpec.upto frontAgainSpec)) frontAgainUptoCard

/-- THE SECOND FORM's CARD OF 'cartouchelaw.RestPoints'. -/
def restPointsUptoCard : Claim7 := { stood := { row := restPointsUptoRow, standIns := [], harness := (true, "6589b137d2f2ba7f726196143e8b5bdf3082666e12f397c757cdb789d2d2cada"), looks := false }, kinds := [], alts := [], laidByText := true, laidKinds := [.data, .data, .data, .data, .pinned], laidTests := true, laidLooks := .later }
def RestPointsUptoCardSaid : Prop := Claim7.holds Tryz.pinned (.plain (OpenSpec.upto restPointsSpec)) restPointsUptoCard

/-- THE SECOND FORM's CARD OF 'cartouchelaw.TextTells'. -/
def textTellsUptoCard : Claim7 := { stood := { row := textTellsUptoRow, standIns := [], harness := (true, "6589b137d2f2ba7f726196143e8b5bdf3082666e12f397c757cdb789d2d2cada"), looks := false }, kinds := [], alts := [], laidByText := true, laidKinds := [.data, .data, .data, .data, .pinned], laidTests := true, laidLooks := .later }
def TextTellsUptoCardSaid : Prop := Claim7.holds Tryz.pinned (.plain (OpenSpec.upto textTellsSpec)) textTellsUptoCard

/-- THE SECOND FORM's CARD OF 'cartouchelaw.TextRecode'. -/
def textRecodeUptoCard : Claim7 := { stood := { row := textRecodeUptoRow, standIns := [], harness := (true, "6589b137d2f2ba7f726196143e8b5bdf3082666e12f397c757cdb789d2d2cada"), looks := false }, kinds := [], alts := [], laidByText := true, laidKinds := [.data, .data, .data, .data, .pinned], laidTests := true, laidLooks := .later }
def TextRecodeUptoCardSaid : Prop := Claim7.holds Tryz.pinned (.plain (OpenSpec.upto textRecodeSpec)) textRecodeUptoCard

/-- THE SECOND FORM's CARD OF 'cartouchelaw.TextCount'. -/
def textCountUptoCard : Claim7 := { stood := { row := textCountUptoRow, standIns := [], harness := (true, "6589b137d2f2ba7f726196143e8b5bdf3082666e12f397c757cdb789d2d2cada"), looks := false }, kinds := [], alts := [], laidByText := true, laidKinds := [.data, .data, .data, .data, .pinned], laidTests := true, laidLooks := .later }
def TextCountUptoCardSaid : Prop := Claim7.holds Tryz.pinned (.plain (OpenSpec.upto textCountSpec)) textCountUptoCard

/-- THE SECOND FORM's CARD OF 'cartouchelaw.TextStays'. -/
def textStaysUptoCard : Claim7 := { stood := { row := textStaysUptoRow, standIns := [], harness := (true, "6589b137d2f2ba7f726196143e8b5bdf3082666e12f397c757cdb789d2d2cada"), looks := false }, kinds := [], alts := [], laidByText := true, laidKinds := [.data, .data, .data, .data, .pinned], laidTests := true, laidLooks := .later }
def TextStaysUptoCardSaid : Prop := Claim7.holds Tryz.pinned (.plain (OpenSpec.upto textStaysSpec)) textStaysUptoCard

/-- THE SECOND FORM's CARD OF 'cartouchelaw.FrontPieces'. -/
def frontPiecesUptoCard : Claim7 := { stood := { row := frontPiecesUptoRow, standIns := [], harness := (true, "6589b137d2f2ba7f726196143e8b5bdf3082666e12f397c757cdb789d2d2cada"), looks := false }, kinds := [], alts := [], laidByText := true, laidKinds := [.data, .data, .data, .data, .pinned], laidTests := true, laidLooks := .later }
def FrontPiecesUptoCardSaid : Prop := Claim7.holds Tryz.pinned (.plain (OpenSpec.upto frontPiecesSpec)) frontPiecesUptoCard
end Rows
end Go.Proofs.YteingkjdemlhgaaGreatDoor

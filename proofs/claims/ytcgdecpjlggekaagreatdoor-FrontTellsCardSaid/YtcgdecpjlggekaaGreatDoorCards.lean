/-
  DERIVED. GIVEN WITH THE SEED: THE CARDS: each row of YtcgdecpjlggekaaGreatDoorRows.lean that lists a variable, with what it lists TIED to the program's text (the seventh form; the later family's looks); each row that meets fmt, with fmt's text TOLD by the authors' own Lean function (tested against real Go, not proved from fmt's source: count such statements apart). THE CARD IS WHAT COUNTS. Prove the row's statement (the work); the ties are given (YtcgdecpjlggekaaGreatDoorTie.lean); close each card by the builder's one call (the guide's Derived/Test/ToyasCard.lean, 'card_holds'). Laid BY PROGRAM, IN A SANDBOX (cutbox-door.mjs). By AI agents, Wed Nov 11 2026. No macro, syntax, notation, axiom, sorry.
-/
import Derived.Test.YtcgdecpjlggekaaGreatDoorRows
import GoSem.ClaimSeven
namespace Go.Proofs.YtcgdecpjlggekaaGreatDoor
namespace Rows

/-- THE TIED CARD OF 'cartouchelaw.FrontTells'. -/
def frontTellsCard : Claim7 := { stood := { row := frontTellsRow, standIns := [], harness := (true, "f22a9ea456667d58910158d62445f1346249e23126a6b3eedc39c60d081c49de"), looks := false }, kinds := [], alts := [], laidByText := true, laidKinds := [.data, .pinned], laidTests := true, laidLooks := .later }
def FrontTellsCardSaid : Prop := Claim7.holds Tryz.pinned (.plain (OpenSpec.ofChange frontTellsSpec)) frontTellsCard

/-- THE TIED CARD OF 'cartouchelaw.FrontMark'. -/
def frontMarkCard : Claim7 := { stood := { row := frontMarkRow, standIns := [], harness := (true, "f22a9ea456667d58910158d62445f1346249e23126a6b3eedc39c60d081c49de"), looks := false }, kinds := [], alts := [], laidByText := true, laidKinds := [.data, .pinned], laidTests := true, laidLooks := .later }
def FrontMarkCardSaid : Prop := Claim7.holds Tryz.pinned (.plain (OpenSpec.ofChange frontMarkSpec)) frontMarkCard

/-- THE SECOND FORM's CARD OF 'cartouchelaw.FrontTells'. -/
def frontTellsUptoCard : Claim7 := { stood := { row := frontTellsUptoRow, standIns := [], harness := (true, "f22a9ea456667d58910158d62445f1346249e23126a6b3eedc39c60d081c49de"), looks := false }, kinds := [], alts := [], laidByText := true, laidKinds := [.data, .pinned], laidTests := true, laidLooks := .later }
def FrontTellsUptoCardSaid : Prop := Claim7.holds Tryz.pinned (.plain (OpenSpec.upto frontTellsSpec)) frontTellsUptoCard

/-- THE SECOND FORM's CARD OF 'cartouchelaw.FrontMark'. -/
def frontMarkUptoCard : Claim7 := { stood := { row := frontMarkUptoRow, standIns := [], harness := (true, "f22a9ea456667d58910158d62445f1346249e23126a6b3eedc39c60d081c49de"), looks := false }, kinds := [], alts := [], laidByText := true, laidKinds := [.data, .pinned], laidTests := true, laidLooks := .later }
def FrontMarkUptoCardSaid : Prop := Claim7.holds Tryz.pinned (.plain (OpenSpec.upto frontMarkSpec)) frontMarkUptoCard
end Rows
end Go.Proofs.YtcgdecpjlggekaaGreatDoor

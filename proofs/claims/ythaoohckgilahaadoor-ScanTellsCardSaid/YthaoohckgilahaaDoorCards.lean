/-
  DERIVED. GIVEN WITH THE SEED: THE CARDS: each row of YthaoohckgilahaaDoorRows.lean that lists a variable, with what it lists TIED to the program's text (the seventh form; the later family's looks); each row that meets fmt, with fmt's text TOLD by the authors' own Lean function (tested against real Go, not proved from fmt's source: count such statements apart). THE CARD IS WHAT COUNTS. Prove the row's statement (the work); the ties are given (YthaoohckgilahaaDoorTie.lean); close each card by the builder's one call (the guide's Derived/Test/ToyasCard.lean, 'card_holds'). Laid BY PROGRAM, IN A SANDBOX (cutbox-door.mjs). By AI agents, Wed Nov 11 2026. No macro, syntax, notation, axiom, sorry.
-/
import Derived.Test.YthaoohckgilahaaDoorRows
import GoSem.ClaimSeven
namespace Go.Proofs.YthaoohckgilahaaDoor
namespace Rows

/-- THE TIED CARD OF 'cartouchelaw.AttrTells'. -/
def attrTellsCard : Claim7 := { stood := { row := attrTellsRow, standIns := [], harness := (true, "8259deb67b006b92131812a3027ddf27d212dbbeb5fd9d2bfb7a5beca8d2e58d"), looks := false }, kinds := [], alts := [], laidByText := true, laidKinds := [.data, .pinned], laidTests := true, laidLooks := .later }
def AttrTellsCardSaid : Prop := Claim7.holds Tryd.pinned (.plain (OpenSpec.ofChange attrTellsSpec)) attrTellsCard

/-- THE TIED CARD OF 'cartouchelaw.AttrEach'. -/
def attrEachCard : Claim7 := { stood := { row := attrEachRow, standIns := [], harness := (true, "8259deb67b006b92131812a3027ddf27d212dbbeb5fd9d2bfb7a5beca8d2e58d"), looks := false }, kinds := [], alts := [], laidByText := true, laidKinds := [.data, .pinned], laidTests := true, laidLooks := .later }
def AttrEachCardSaid : Prop := Claim7.holds Tryd.pinned (.plain (OpenSpec.ofChange attrEachSpec)) attrEachCard

/-- THE TIED CARD OF 'cartouchelaw.ScanTells'. -/
def scanTellsCard : Claim7 := { stood := { row := scanTellsRow, standIns := [], harness := (true, "8259deb67b006b92131812a3027ddf27d212dbbeb5fd9d2bfb7a5beca8d2e58d"), looks := false }, kinds := [], alts := [], laidByText := true, laidKinds := [.data, .pinned], laidTests := true, laidLooks := .later }
def ScanTellsCardSaid : Prop := Claim7.holds Tryd.pinned (.plain (OpenSpec.ofChange scanTellsSpec)) scanTellsCard

/-- THE TIED CARD OF 'cartouchelaw.ScanFar'. -/
def scanFarCard : Claim7 := { stood := { row := scanFarRow, standIns := [], harness := (true, "8259deb67b006b92131812a3027ddf27d212dbbeb5fd9d2bfb7a5beca8d2e58d"), looks := false }, kinds := [], alts := [], laidByText := true, laidKinds := [.data, .pinned], laidTests := true, laidLooks := .later }
def ScanFarCardSaid : Prop := Claim7.holds Tryd.pinned (.plain (OpenSpec.ofChange scanFarSpec)) scanFarCard

/-- THE TIED CARD OF 'cartouchelaw.ScanPlain'. -/
def scanPlainCard : Claim7 := { stood := { row := scanPlainRow, standIns := [], harness := (true, "8259deb67b006b92131812a3027ddf27d212dbbeb5fd9d2bfb7a5beca8d2e58d"), looks := false }, kinds := [], alts := [], laidByText := true, laidKinds := [.data, .pinned], laidTests := true, laidLooks := .later }
def ScanPlainCardSaid : Prop := Claim7.holds Tryd.pinned (.plain (OpenSpec.ofChange scanPlainSpec)) scanPlainCard

/-- THE SECOND FORM's CARD OF 'cartouchelaw.AttrTells'. -/
def attrTellsUptoCard : Claim7 := { stood := { row := attrTellsUptoRow, standIns := [], harness := (true, "8259deb67b006b92131812a3027ddf27d212dbbeb5fd9d2bfb7a5beca8d2e58d"), looks := false }, kinds := [], alts := [], laidByText := true, laidKinds := [.data, .pinned], laidTests := true, laidLooks := .later }
def AttrTellsUptoCardSaid : Prop := Claim7.holds Tryd.pinned (.plain (OpenSpec.upto attrTellsSpec)) attrTellsUptoCard

/-- THE SECOND FORM's CARD OF 'cartouchelaw.AttrEach'. -/
def attrEachUptoCard : Claim7 := { stood := { row := attrEachUptoRow, standIns := [], harness := (true, "8259deb67b006b92131812a3027ddf27d212dbbeb5fd9d2bfb7a5beca8d2e58d"), looks := false }, kinds := [], alts := [], laidByText := true, laidKinds := [.data, .pinned], laidTests := true, laidLooks := .later }
def AttrEachUptoCardSaid : Prop := Claim7.holds Tryd.pinned (.plain (OpenSpec.upto attrEachSpec)) attrEachUptoCard

/-- THE SECOND FORM's CARD OF 'cartouchelaw.ScanTells'. -/
def scanTellsUptoCard : Claim7 := { stood := { row := scanTellsUptoRow, standIns := [], harness := (true, "8259deb67b006b92131812a3027ddf27d212dbbeb5fd9d2bfb7a5beca8d2e58d"), looks := false }, kinds := [], alts := [], laidByText := true, laidKinds := [.data, .pinned], laidTests := true, laidLooks := .later }
def ScanTellsUptoCardSaid : Prop := Claim7.holds Tryd.pinned (.plain (OpenSpec.upto scanTellsSpec)) scanTellsUptoCard

/-- THE SECOND FORM's CARD OF 'cartouchelaw.ScanFar'. -/
def scanFarUptoCard : Claim7 := { stood := { row := scanFarUptoRow, standIns := [], harness := (true, "8259deb67b006b92131812a3027ddf27d212dbbeb5fd9d2bfb7a5beca8d2e58d"), looks := false }, kinds := [], alts := [], laidByText := true, laidKinds := [.data, .pinned], laidTests := true, laidLooks := .later }
def ScanFarUptoCardSaid : Prop := Claim7.holds Tryd.pinned (.plain (OpenSpec.upto scanFarSpec)) scanFarUptoCard

/-- THE SECOND FORM's CARD OF 'cartouchelaw.ScanPlain'. -/
def scanPlainUptoCard : Claim7 := { stood := { row := scanPlainUptoRow, standIns := [], harness := (true, "8259deb67b006b92131812a3027ddf27d212dbbeb5fd9d2bfb7a5beca8d2e58d"), looks := false }, kinds := [], alts := [], laidByText := true, laidKinds := [.data, .pinned], laidTests := true, laidLooks := .later }
def ScanPlainUptoCardSaid : Prop := Claim7.holds Tryd.pinned (.plain (OpenSpec.upto scanPlainSpec)) scanPlainUptoCard
end Rows
end Go.Proofs.YthaoohckgilahaaDoor

/-
  DERIVED. GIVEN WITH THE SEED: THE CARDS: each row of YtbddfefcgfenfaaDoorRows.lean that lists a variable, with what it lists TIED to the program's text (the seventh form; the later family's looks); each row that meets fmt, with fmt's text TOLD by the authors' own Lean function (tested against real Go, not proved from fmt's source: count such statements apart). THE CARD IS WHAT COUNTS. Prove the row's statement (the work); the ties are given (YtbddfefcgfenfaaDoorTie.lean); close each card by the builder's one call (the guide's Derived/Test/ToyasCard.lean, 'card_holds'). Laid BY PROGRAM, IN A SANDBOX (cutbox-door.mjs). By AI agents, Wed Nov 11 2026. No macro, syntax, notation, axiom, sorry.
-/
import Derived.Test.YtbddfefcgfenfaaDoorRows
import GoSem.ClaimSeven
namespace Go.Proofs.YtbddfefcgfenfaaDoor
namespace Rows

/-- THE TIED CARD OF 'cartouchelaw.LabelTells'. -/
def labelTellsCard : Claim7 := { stood := { row := labelTellsRow, standIns := [], harness := (true, "2e48808a4951e064e6f7329cbe181a967b69f9448ab55d6103f9cab95b5bda9b"), looks := false }, kinds := [], alts := [], laidByText := true, laidKinds := [.data, .pinned], laidTests := true, laidLooks := .later }
def LabelTellsCardSaid : Prop := Claim7.holds Tryd.pinned (.plain (OpenSpec.ofChange labelTellsSpec)) labelTellsCard

/-- THE TIED CARD OF 'cartouchelaw.LabelNames'. -/
def labelNamesCard : Claim7 := { stood := { row := labelNamesRow, standIns := [], harness := (true, "2e48808a4951e064e6f7329cbe181a967b69f9448ab55d6103f9cab95b5bda9b"), looks := false }, kinds := [], alts := [], laidByText := true, laidKinds := [.data, .pinned], laidTests := true, laidLooks := .later }
def LabelNamesCardSaid : Prop := Claim7.holds Tryd.pinned (.plain (OpenSpec.ofChange labelNamesSpec)) labelNamesCard

/-- THE TIED CARD OF 'cartouchelaw.EncoderTells'. -/
def encoderTellsCard : Claim7 := { stood := { row := encoderTellsRow, standIns := [], harness := (true, "2e48808a4951e064e6f7329cbe181a967b69f9448ab55d6103f9cab95b5bda9b"), looks := false }, kinds := [], alts := [], laidByText := true, laidKinds := [.data, .data, .data], laidTests := true, laidLooks := .later }
def EncoderTellsCardSaid : Prop := Claim7.holds Tryd.pinned (.plain (OpenSpec.ofChange encoderTellsSpec)) encoderTellsCard

/-- THE TIED CARD OF 'cartouchelaw.EncoderTold'. -/
def encoderToldCard : Claim7 := { stood := { row := encoderToldRow, standIns := [], harness := (true, "2e48808a4951e064e6f7329cbe181a967b69f9448ab55d6103f9cab95b5bda9b"), looks := false }, kinds := [], alts := [], laidByText := true, laidKinds := [.data, .data, .data], laidTests := true, laidLooks := .later }
def EncoderToldCardSaid : Prop := Claim7.holds Tryd.pinned (.plain (OpenSpec.ofChange encoderToldSpec)) encoderToldCard

/-- THE TIED CARD OF 'cartouchelaw.EncoderOut'. -/
def encoderOutCard : Claim7 := { stood := { row := encoderOutRow, standIns := [], harness := (true, "2e48808a4951e064e6f7329cbe181a967b69f9448ab55d6103f9cab95b5bda9b"), looks := false }, kinds := [], alts := [], laidByText := true, laidKinds := [.data, .data, .data], laidTests := true, laidLooks := .later }
def EncoderOutCardSaid : Prop := Claim7.holds Tryd.pinned (.plain (OpenSpec.ofChange encoderOutSpec)) encoderOutCard

/-- THE TIED CARD OF 'cartouchelaw.AttrTells'. -/
def attrTellsCard : Claim7 := { stood := { row := attrTellsRow, standIns := [], harness := (true, "2e48808a4951e064e6f7329cbe181a967b69f9448ab55d6103f9cab95b5bda9b"), looks := false }, kinds := [], alts := [], laidByText := true, laidKinds := [.data, .pinned], laidTests := true, laidLooks := .later }
def AttrTellsCardSaid : Prop := Claim7.holds Tryd.pinned (.plain (OpenSpec.ofChange attrTellsSpec)) attrTellsCard

/-- THE TIED CARD OF 'cartouchelaw.AttrPlain'. -/
def attrPlainCard : Claim7 := { stood := { row := attrPlainRow, standIns := [], harness := (true, "2e48808a4951e064e6f7329cbe181a967b69f9448ab55d6103f9cab95b5bda9b"), looks := false }, kinds := [], alts := [], laidByText := true, laidKinds := [.data, .pinned], laidTests := true, laidLooks := .later }
def AttrPlainCardSaid : Prop := Claim7.holds Tryd.pinned (.plain (OpenSpec.ofChange attrPlainSpec)) attrPlainCard

/-- THE TIED CARD OF 'cartouchelaw.AttrEach'. -/
def attrEachCard : Claim7 := { stood := { row := attrEachRow, standIns := [], harness := (true, "2e48808a4951e064e6f7329cbe181a967b69f9448ab55d6103f9cab95b5bda9b"), looks := false }, kinds := [], alts := [], laidByText := true, laidKinds := [.data, .pinned], laidTests := true, laidLooks := .later }
def AttrEachCardSaid : Prop := Claim7.holds Tryd.pinned (.plain (OpenSpec.ofChange attrEachSpec)) attrEachCard

/-- THE TIED CARD OF 'cartouchelaw.AttrCharset'. -/
def attrCharsetCard : Claim7 := { stood := { row := attrCharsetRow, standIns := [], harness := (true, "2e48808a4951e064e6f7329cbe181a967b69f9448ab55d6103f9cab95b5bda9b"), looks := false }, kinds := [], alts := [], laidByText := true, laidKinds := [.data, .pinned], laidTests := true, laidLooks := .later }
def AttrCharsetCardSaid : Prop := Claim7.holds Tryd.pinned (.plain (OpenSpec.ofChange attrCharsetSpec)) attrCharsetCard

/-- THE TIED CARD OF 'cartouchelaw.ScanTells'. -/
def scanTellsCard : Claim7 := { stood := { row := scanTellsRow, standIns := [], harness := (true, "2e48808a4951e064e6f7329cbe181a967b69f9448ab55d6103f9cab95b5bda9b"), looks := false }, kinds := [], alts := [], laidByText := true, laidKinds := [.data, .pinned], laidTests := true, laidLooks := .later }
def ScanTellsCardSaid : Prop := Claim7.holds Tryd.pinned (.plain (OpenSpec.ofChange scanTellsSpec)) scanTellsCard

/-- THE TIED CARD OF 'cartouchelaw.ScanFar'. -/
def scanFarCard : Claim7 := { stood := { row := scanFarRow, standIns := [], harness := (true, "2e48808a4951e064e6f7329cbe181a967b69f9448ab55d6103f9cab95b5bda9b"), looks := false }, kinds := [], alts := [], laidByText := true, laidKinds := [.data, .pinned], laidTests := true, laidLooks := .later }
def ScanFarCardSaid : Prop := Claim7.holds Tryd.pinned (.plain (OpenSpec.ofChange scanFarSpec)) scanFarCard

/-- THE TIED CARD OF 'cartouchelaw.ScanPlain'. -/
def scanPlainCard : Claim7 := { stood := { row := scanPlainRow, standIns := [], harness := (true, "2e48808a4951e064e6f7329cbe181a967b69f9448ab55d6103f9cab95b5bda9b"), looks := false }, kinds := [], alts := [], laidByText := true, laidKinds := [.data, .pinned], laidTests := true, laidLooks := .later }
def ScanPlainCardSaid : Prop := Claim7.holds Tryd.pinned (.plain (OpenSpec.ofChange scanPlainSpec)) scanPlainCard

/-- THE TIED CARD OF 'cartouchelaw.EncoderStrict'. -/
def encoderStrictCard : Claim7 := { stood := { row := encoderStrictRow, standIns := [], harness := (true, "2e48808a4951e064e6f7329cbe181a967b69f9448ab55d6103f9cab95b5bda9b"), looks := false }, kinds := [], alts := [], laidByText := true, laidKinds := [.data, .data, .data], laidTests := true, laidLooks := .later }
def EncoderStrictCardSaid : Prop := Claim7.holds Tryd.pinned (.plain (OpenSpec.ofChange encoderStrictSpec)) encoderStrictCard

/-- THE SECOND FORM's CARD OF 'cartouchelaw.LabelTells'. -/
def labelTellsUptoCard : Claim7 := { stood := { row := labelTellsUptoRow, standIns := [], harness := (true, "2e48808a4951e064e6f7329cbe181a967b69f9448ab55d6103f9cab95b5bda9b"), looks := false }, kinds := [], alts := [], laidByText := true, laidKinds := [.data, .pinned], laidTests := true, laidLooks := .later }
def LabelTellsUptoCardSaid : Prop := Claim7.holds Tryd.pinned (.plain (OpenSpec.upto labelTellsSpec)) labelTellsUptoCard

/-- THE SECOND FORM's CARD OF 'cartouchelaw.LabelNames'. -/
def labelNamesUptoCard : Claim7 := { stood := { row := labelNamesUptoRow, standIns := [], harness := (true, "2e48808a4951e064e6f7329cbe181a967b69f9448ab55d6103f9cab95b5bda9b"), looks := false }, kinds := [], alts := [], laidByText := true, laidKinds := [.data, .pinned], laidTests := true, laidLooks := .later }
def LabelNamesUptoCardSaid : Prop := Claim7.holds Tryd.pinned (.plain (OpenSpec.upto labelNamesSpec)) labelNamesUptoCard

/-- THE SECOND FORM's CARD OF 'cartouchelaw.EncoderTells'. -/
def encoderTellsUptoCard : Claim7 := { stood := { row := encoderTellsUptoRow, standIns := [], harness := (true, "2e48808a4951e064e6f7329cbe181a967b69f9448ab55d6103f9cab95b5bda9b"), looks := false }, kinds := [], alts := [], laidByText := true, laidKinds := [.data, .data, .data], laidTests := true, laidLooks := .later }
def EncoderTellsUptoCardSaid : Prop := Claim7.holds Tryd.pinned (.plain (OpenSpec.upto encoderTellsSpec)) encoderTellsUptoCard

/-- THE SECOND FORM's CARD OF 'cartouchelaw.EncoderTold'. -/
def encoderToldUptoCard : Claim7 := { stood := { row := encoderToldUptoRow, standIns := [], harness := (true, "2e48808a4951e064e6f7329cbe181a967b69f9448ab55d6103f9cab95b5bda9b"), looks := false }, kinds := [], alts := [], laidByText := true, laidKinds := [.data, .data, .data], laidTests := true, laidLooks := .later }
def EncoderToldUptoCardSaid : Prop := Claim7.holds Tryd.pinned (.plain (OpenSpec.upto encoderToldSpec)) encoderToldUptoCard

/-- THE SECOND FORM's CARD OF 'cartouchelaw.EncoderOut'. -/
def encoderOutUptoCard : Claim7 := { stood := { row := encoderOutUptoRow, standIns := [], harness := (true, "2e48808a4951e064e6f7329cbe181a967b69f9448ab55d6103f9cab95b5bda9b"), looks := false }, kinds := [], alts := [], laidByText := true, laidKinds := [.data, .data, .data], laidTests := true, laidLooks := .later }
def EncoderOutUptoCardSaid : Prop := Claim7.holds Tryd.pinned (.plain (OpenSpec.upto encoderOutSpec)) encoderOutUptoCard

/-- THE SECOND FORM's CARD OF 'cartouchelaw.AttrTells'. -/
def attrTellsUptoCard : Claim7 := { stood := { row := attrTellsUptoRow, standIns := [], harness := (true, "2e48808a4951e064e6f7329cbe181a967b69f9448ab55d6103f9cab95b5bda9b"), looks := false }, kinds := [], alts := [], laidByText := true, laidKinds := [.data, .pinned], laidTests := true, laidLooks := .later }
def AttrTellsUptoCardSaid : Prop := Claim7.holds Tryd.pinned (.plain (OpenSpec.upto attrTellsSpec)) attrTellsUptoCard

/-- THE SECOND FORM's CARD OF 'cartouchelaw.AttrPlain'. -/
def attrPlainUptoCard : Claim7 := { stood := { row := attrPlainUptoRow, standIns := [], harness := (true, "2e48808a4951e064e6f7329cbe181a967b69f9448ab55d6103f9cab95b5bda9b"), looks := false }, kinds := [], alts := [], laidByText := true, laidKinds := [.data, .pinned], laidTests := true, laidLooks := .later }
def AttrPlainUptoCardSaid : Prop := Claim7.holds Tryd.pinned (.plain (OpenSpec.upto attrPlainSpec)) attrPlainUptoCard

/-- THE SECOND FORM's CARD OF 'cartouchelaw.AttrEach'. -/
def attrEachUptoCard : Claim7 := { stood := { row := attrEachUptoRow, standIns := [], harness := (true, "2e48808a4951e064e6f7329cbe181a967b69f9448ab55d6103f9cab95b5bda9b"), looks := false }, kinds := [], alts := [], laidByText := true, laidKinds := [.data, .pinned], laidTests := true, laidLooks := .later }
def AttrEachUptoCardSaid : Prop := Claim7.holds Tryd.pinned (.plain (OpenSpec.upto attrEachSpec)) attrEachUptoCard

/-- THE SECOND FORM's CARD OF 'cartouchelaw.AttrCharset'. -/
def attrCharsetUptoCard : Claim7 := { stood := { row := attrCharsetUptoRow, standIns := [], harness := (true, "2e48808a4951e064e6f7329cbe181a967b69f9448ab55d6103f9cab95b5bda9b"), looks := false }, kinds := [], alts := [], laidByText := true, laidKinds := [.data, .pinned], laidTests := true, laidLooks := .later }
def AttrCharsetUptoCardSaid : Prop := Claim7.holds Tryd.pinned (.plain (OpenSpec.upto attrCharsetSpec)) attrCharsetUptoCard

/-- THE SECOND FORM's CARD OF 'cartouchelaw.ScanTells'. -/
def scanTellsUptoCard : Claim7 := { stood := { row := scanTellsUptoRow, standIns := [], harness := (true, "2e48808a4951e064e6f7329cbe181a967b69f9448ab55d6103f9cab95b5bda9b"), looks := false }, kinds := [], alts := [], laidByText := true, laidKinds := [.data, .pinned], laidTests := true, laidLooks := .later }
def ScanTellsUptoCardSaid : Prop := Claim7.holds Tryd.pinned (.plain (OpenSpec.upto scanTellsSpec)) scanTellsUptoCard

/-- THE SECOND FORM's CARD OF 'cartouchelaw.ScanFar'. -/
def scanFarUptoCard : Claim7 := { stood := { row := scanFarUptoRow, standIns := [], harness := (true, "2e48808a4951e064e6f7329cbe181a967b69f9448ab55d6103f9cab95b5bda9b"), looks := false }, kinds := [], alts := [], laidByText := true, laidKinds := [.data, .pinned], laidTests := true, laidLooks := .later }
def ScanFarUptoCardSaid : Prop := Claim7.holds Tryd.pinned (.plain (OpenSpec.upto scanFarSpec)) scanFarUptoCard

/-- THE SECOND FORM's CARD OF 'cartouchelaw.ScanPlain'. -/
def scanPlainUptoCard : Claim7 := { stood := { row := scanPlainUptoRow, standIns := [], harness := (true, "2e48808a4951e064e6f7329cbe181a967b69f9448ab55d6103f9cab95b5bda9b"), looks := false }, kinds := [], alts := [], laidByText := true, laidKinds := [.data, .pinned], laidTests := true, laidLooks := .later }
def ScanPlainUptoCardSaid : Prop := Claim7.holds Tryd.pinned (.plain (OpenSpec.upto scanPlainSpec)) scanPlainUptoCard

/-- THE SECOND FORM's CARD OF 'cartouchelaw.EncoderStrict'. -/
def encoderStrictUptoCard : Claim7 := { stood := { row := encoderStrictUptoRow, standIns := [], harness := (true, "2e48808a4951e064e6f7329cbe181a967b69f9448ab55d6103f9cab95b5bda9b"), looks := false }, kinds := [], alts := [], laidByText := true, laidKinds := [.data, .data, .data], laidTests := true, laidLooks := .later }
def EncoderStrictUptoCardSaid : Prop := Claim7.holds Tryd.pinned (.plain (OpenSpec.upto encoderStrictSpec)) encoderStrictUptoCard
end Rows
end Go.Proofs.YtbddfefcgfenfaaDoor

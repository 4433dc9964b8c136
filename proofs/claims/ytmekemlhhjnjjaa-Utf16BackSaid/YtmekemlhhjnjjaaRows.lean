/-
  No cell of these rows narrows 'for every input' (looked for: loops, veiled, ifaces, maps, wideKeys, modest, calm, conditions, laid).
  DERIVED. THE GIVEN ROWS OF THIS SEAT. 18 by the template 'for every input the law returns true; each argument reads behind the call as it read before'; 0 by the template 'total and deterministic' (their statements: YtmekemlhhjnjjaaTotals.lean).
  GIVEN WITH THE SEED: the statements are not yours to turn. If you find one false, say at which input.
  Laid BY PROGRAM, IN A SANDBOX (cutbox-rows.mjs): the forced cells as the released guide's own fill.sh prints them over the translation 8bc76502bdfa0936… (all of the seat's roots in one cut). By AI agents, Wed Nov 11 2026. No macro, syntax, notation, axiom, sorry.
-/
import Derived.Test.YtmekemlhhjnjjaaChecked
import GoSem.Claim
import GoSem.ClaimJoined
import GoSem.ClaimMapViews
import Derived.JoinedTies
import Derived.KernelRfl
namespace Go.Proofs.Ytmekemlhhjnjjaa
/- THE CELL 'sum', in the pinned program and in every row, IS THE sha256 OF THE DUMP (.gsa) THAT YtmekemlhhjnjjaaProg.lean LOADS. Nothing in Lean hashes anything: it is a label: what it is worth is what the hold of that sum in a sandbox is worth. -/
noncomputable def Try.pinned : Pinned := { name := "ytmekemlhhjnjjaa", sum := "8bc76502bdfa0936628de54ec3f439bee41cc1c6902a5a85dbd6efce6b8462fa", checked := Try.checked }
namespace Rows
def none {H : Type} : Left H := { results := [], args := [] }

/-- 'cartouchelaw.MarkPut': WHATEVER THE INPUT: true; the input reads as it did. -/
def markPutSpec : ChangeSpec := { name := "markPut", fn := fun _ => fun
  | [d1, d2, d3] => { results := [.lit (.bool true)], args := [d1, d2, d3] }
  | _ => none }
def markPutRow : OpenClaim := { program := "ytmekemlhhjnjjaa", sum := "8bc76502bdfa0936628de54ec3f439bee41cc1c6902a5a85dbd6efce6b8462fa", func := "cartouche/cartouchelaw.MarkPut", spec := "markPut", apart := false }
def MarkPutSaid : Prop := markPutRow.holds Try.pinned (OpenSpec.ofChange markPutSpec)

/-- ITS FALSE NEIGHBOUR: 'it returns false'. Refute it at one input. -/
def markPutWrong : ChangeSpec := { name := "markPut", fn := fun _ => fun
  | [d1, d2, d3] => { results := [.lit (.bool false)], args := [d1, d2, d3] }
  | _ => none }
def MarkPutWrongFalsely : Prop := markPutRow.holds Try.pinned (OpenSpec.ofChange markPutWrong)

/-- 'cartouchelaw.SingleTells': WHATEVER THE INPUT: true; the input reads as it did. -/
def singleTellsSpec : ChangeSpec := { name := "singleTells", fn := fun _ => fun
  | [d1, d2, d3, d4] => { results := [.lit (.bool true)], args := [d1, d2, d3, d4] }
  | _ => none }
def singleTellsRow : OpenClaim := { program := "ytmekemlhhjnjjaa", sum := "8bc76502bdfa0936628de54ec3f439bee41cc1c6902a5a85dbd6efce6b8462fa", func := "cartouche/cartouchelaw.SingleTells", spec := "singleTells", apart := false }
def SingleTellsSaid : Prop := singleTellsRow.holds Try.pinned (OpenSpec.ofChange singleTellsSpec)

/-- ITS FALSE NEIGHBOUR: 'it returns false'. Refute it at one input. -/
def singleTellsWrong : ChangeSpec := { name := "singleTells", fn := fun _ => fun
  | [d1, d2, d3, d4] => { results := [.lit (.bool false)], args := [d1, d2, d3, d4] }
  | _ => none }
def SingleTellsWrongFalsely : Prop := singleTellsRow.holds Try.pinned (OpenSpec.ofChange singleTellsWrong)

/-- 'cartouchelaw.SingleBack': WHATEVER THE INPUT: true; the input reads as it did. -/
def singleBackSpec : ChangeSpec := { name := "singleBack", fn := fun _ => fun
  | [d1, d2, d3] => { results := [.lit (.bool true)], args := [d1, d2, d3] }
  | _ => none }
def singleBackRow : OpenClaim := { program := "ytmekemlhhjnjjaa", sum := "8bc76502bdfa0936628de54ec3f439bee41cc1c6902a5a85dbd6efce6b8462fa", func := "cartouche/cartouchelaw.SingleBack", spec := "singleBack", apart := false }
def SingleBackSaid : Prop := singleBackRow.holds Try.pinned (OpenSpec.ofChange singleBackSpec)

/-- ITS FALSE NEIGHBOUR: 'it returns false'. Refute it at one input. -/
def singleBackWrong : ChangeSpec := { name := "singleBack", fn := fun _ => fun
  | [d1, d2, d3] => { results := [.lit (.bool false)], args := [d1, d2, d3] }
  | _ => none }
def SingleBackWrongFalsely : Prop := singleBackRow.holds Try.pinned (OpenSpec.ofChange singleBackWrong)

/-- 'cartouchelaw.SingleParts': WHATEVER THE INPUT: true; the input reads as it did. -/
def singlePartsSpec : ChangeSpec := { name := "singleParts", fn := fun _ => fun
  | [d1, d2, d3] => { results := [.lit (.bool true)], args := [d1, d2, d3] }
  | _ => none }
def singlePartsRow : OpenClaim := { program := "ytmekemlhhjnjjaa", sum := "8bc76502bdfa0936628de54ec3f439bee41cc1c6902a5a85dbd6efce6b8462fa", func := "cartouche/cartouchelaw.SingleParts", spec := "singleParts", apart := false }
def SinglePartsSaid : Prop := singlePartsRow.holds Try.pinned (OpenSpec.ofChange singlePartsSpec)

/-- ITS FALSE NEIGHBOUR: 'it returns false'. Refute it at one input. -/
def singlePartsWrong : ChangeSpec := { name := "singleParts", fn := fun _ => fun
  | [d1, d2, d3] => { results := [.lit (.bool false)], args := [d1, d2, d3] }
  | _ => none }
def SinglePartsWrongFalsely : Prop := singlePartsRow.holds Try.pinned (OpenSpec.ofChange singlePartsWrong)

/-- 'cartouchelaw.Utf16Tells': WHATEVER THE INPUT: true; the input reads as it did. -/
def utf16TellsSpec : ChangeSpec := { name := "utf16Tells", fn := fun _ => fun
  | [d1, d2, d3] => { results := [.lit (.bool true)], args := [d1, d2, d3] }
  | _ => none }
def utf16TellsRow : OpenClaim := { program := "ytmekemlhhjnjjaa", sum := "8bc76502bdfa0936628de54ec3f439bee41cc1c6902a5a85dbd6efce6b8462fa", func := "cartouche/cartouchelaw.Utf16Tells", spec := "utf16Tells", unfollowed := true, recurses := true, apart := false }
def Utf16TellsSaid : Prop := utf16TellsRow.holds Try.pinned (OpenSpec.ofChange utf16TellsSpec)

/-- ITS FALSE NEIGHBOUR: 'it returns false'. Refute it at one input. -/
def utf16TellsWrong : ChangeSpec := { name := "utf16Tells", fn := fun _ => fun
  | [d1, d2, d3] => { results := [.lit (.bool false)], args := [d1, d2, d3] }
  | _ => none }
def Utf16TellsWrongFalsely : Prop := utf16TellsRow.holds Try.pinned (OpenSpec.ofChange utf16TellsWrong)

/-- 'cartouchelaw.Utf16Back': WHATEVER THE INPUT: true; the input reads as it did. -/
def utf16BackSpec : ChangeSpec := { name := "utf16Back", fn := fun _ => fun
  | [d1, d2] => { results := [.lit (.bool true)], args := [d1, d2] }
  | _ => none }
def utf16BackRow : OpenClaim := { program := "ytmekemlhhjnjjaa", sum := "8bc76502bdfa0936628de54ec3f439bee41cc1c6902a5a85dbd6efce6b8462fa", func := "cartouche/cartouchelaw.Utf16Back", spec := "utf16Back", unfollowed := true, recurses := true, apart := false }
def Utf16BackSaid : Prop := utf16BackRow.holds Try.pinned (OpenSpec.ofChange utf16BackSpec)

/-- ITS FALSE NEIGHBOUR: 'it returns false'. Refute it at one input. -/
def utf16BackWrong : ChangeSpec := { name := "utf16Back", fn := fun _ => fun
  | [d1, d2] => { results := [.lit (.bool false)], args := [d1, d2] }
  | _ => none }
def Utf16BackWrongFalsely : Prop := utf16BackRow.holds Try.pinned (OpenSpec.ofChange utf16BackWrong)

/-- 'cartouchelaw.Utf16Parts': WHATEVER THE INPUT: true; the input reads as it did. -/
def utf16PartsSpec : ChangeSpec := { name := "utf16Parts", fn := fun _ => fun
  | [d1, d2, d3] => { results := [.lit (.bool true)], args := [d1, d2, d3] }
  | _ => none }
def utf16PartsRow : OpenClaim := { program := "ytmekemlhhjnjjaa", sum := "8bc76502bdfa0936628de54ec3f439bee41cc1c6902a5a85dbd6efce6b8462fa", func := "cartouche/cartouchelaw.Utf16Parts", spec := "utf16Parts", unfollowed := true, recurses := true, apart := false }
def Utf16PartsSaid : Prop := utf16PartsRow.holds Try.pinned (OpenSpec.ofChange utf16PartsSpec)

/-- ITS FALSE NEIGHBOUR: 'it returns false'. Refute it at one input. -/
def utf16PartsWrong : ChangeSpec := { name := "utf16Parts", fn := fun _ => fun
  | [d1, d2, d3] => { results := [.lit (.bool false)], args := [d1, d2, d3] }
  | _ => none }
def Utf16PartsWrongFalsely : Prop := utf16PartsRow.holds Try.pinned (OpenSpec.ofChange utf16PartsWrong)

/-- 'cartouchelaw.KanaBack': WHATEVER THE INPUT: true; the input reads as it did. -/
def kanaBackSpec : ChangeSpec := { name := "kanaBack", fn := fun _ => fun
  | [d1, d2] => { results := [.lit (.bool true)], args := [d1, d2] }
  | _ => none }
def kanaBackRow : OpenClaim := { program := "ytmekemlhhjnjjaa", sum := "8bc76502bdfa0936628de54ec3f439bee41cc1c6902a5a85dbd6efce6b8462fa", func := "cartouche/cartouchelaw.KanaBack", spec := "kanaBack", apart := false }
def KanaBackSaid : Prop := kanaBackRow.holds Try.pinned (OpenSpec.ofChange kanaBackSpec)

/-- ITS FALSE NEIGHBOUR: 'it returns false'. Refute it at one input. -/
def kanaBackWrong : ChangeSpec := { name := "kanaBack", fn := fun _ => fun
  | [d1, d2] => { results := [.lit (.bool false)], args := [d1, d2] }
  | _ => none }
def KanaBackWrongFalsely : Prop := kanaBackRow.holds Try.pinned (OpenSpec.ofChange kanaBackWrong)

/-- 'cartouchelaw.KanaEscapes': WHATEVER THE INPUT: true; the input reads as it did. -/
def kanaEscapesSpec : ChangeSpec := { name := "kanaEscapes", fn := fun _ => fun
  | [d1, d2] => { results := [.lit (.bool true)], args := [d1, d2] }
  | _ => none }
def kanaEscapesRow : OpenClaim := { program := "ytmekemlhhjnjjaa", sum := "8bc76502bdfa0936628de54ec3f439bee41cc1c6902a5a85dbd6efce6b8462fa", func := "cartouche/cartouchelaw.KanaEscapes", spec := "kanaEscapes", apart := false }
def KanaEscapesSaid : Prop := kanaEscapesRow.holds Try.pinned (OpenSpec.ofChange kanaEscapesSpec)

/-- ITS FALSE NEIGHBOUR: 'it returns false'. Refute it at one input. -/
def kanaEscapesWrong : ChangeSpec := { name := "kanaEscapes", fn := fun _ => fun
  | [d1, d2] => { results := [.lit (.bool false)], args := [d1, d2] }
  | _ => none }
def KanaEscapesWrongFalsely : Prop := kanaEscapesRow.holds Try.pinned (OpenSpec.ofChange kanaEscapesWrong)

/-- 'cartouchelaw.Utf8Tells': WHATEVER THE INPUT: true; the input reads as it did. -/
def utf8TellsSpec : ChangeSpec := { name := "utf8Tells", fn := fun _ => fun
  | [d1, d2] => { results := [.lit (.bool true)], args := [d1, d2] }
  | _ => none }
def utf8TellsRow : OpenClaim := { program := "ytmekemlhhjnjjaa", sum := "8bc76502bdfa0936628de54ec3f439bee41cc1c6902a5a85dbd6efce6b8462fa", func := "cartouche/cartouchelaw.Utf8Tells", spec := "utf8Tells", unfollowed := true, recurses := true, apart := false }
def Utf8TellsSaid : Prop := utf8TellsRow.holds Try.pinned (OpenSpec.ofChange utf8TellsSpec)

/-- ITS FALSE NEIGHBOUR: 'it returns false'. Refute it at one input. -/
def utf8TellsWrong : ChangeSpec := { name := "utf8Tells", fn := fun _ => fun
  | [d1, d2] => { results := [.lit (.bool false)], args := [d1, d2] }
  | _ => none }
def Utf8TellsWrongFalsely : Prop := utf8TellsRow.holds Try.pinned (OpenSpec.ofChange utf8TellsWrong)

/-- 'cartouchelaw.Utf8Back': WHATEVER THE INPUT: true; the input reads as it did. -/
def utf8BackSpec : ChangeSpec := { name := "utf8Back", fn := fun _ => fun
  | [d1, d2] => { results := [.lit (.bool true)], args := [d1, d2] }
  | _ => none }
def utf8BackRow : OpenClaim := { program := "ytmekemlhhjnjjaa", sum := "8bc76502bdfa0936628de54ec3f439bee41cc1c6902a5a85dbd6efce6b8462fa", func := "cartouche/cartouchelaw.Utf8Back", spec := "utf8Back", unfollowed := true, recurses := true, apart := false }
def Utf8BackSaid : Prop := utf8BackRow.holds Try.pinned (OpenSpec.ofChange utf8BackSpec)

/-- ITS FALSE NEIGHBOUR: 'it returns false'. Refute it at one input. -/
def utf8BackWrong : ChangeSpec := { name := "utf8Back", fn := fun _ => fun
  | [d1, d2] => { results := [.lit (.bool false)], args := [d1, d2] }
  | _ => none }
def Utf8BackWrongFalsely : Prop := utf8BackRow.holds Try.pinned (OpenSpec.ofChange utf8BackWrong)

/-- 'cartouchelaw.Utf8Parts': WHATEVER THE INPUT: true; the input reads as it did. -/
def utf8PartsSpec : ChangeSpec := { name := "utf8Parts", fn := fun _ => fun
  | [d1, d2] => { results := [.lit (.bool true)], args := [d1, d2] }
  | _ => none }
def utf8PartsRow : OpenClaim := { program := "ytmekemlhhjnjjaa", sum := "8bc76502bdfa0936628de54ec3f439bee41cc1c6902a5a85dbd6efce6b8462fa", func := "cartouche/cartouchelaw.Utf8Parts", spec := "utf8Parts", unfollowed := true, recurses := true, apart := false }
def Utf8PartsSaid : Prop := utf8PartsRow.holds Try.pinned (OpenSpec.ofChange utf8PartsSpec)

/-- ITS FALSE NEIGHBOUR: 'it returns false'. Refute it at one input. -/
def utf8PartsWrong : ChangeSpec := { name := "utf8Parts", fn := fun _ => fun
  | [d1, d2] => { results := [.lit (.bool false)], args := [d1, d2] }
  | _ => none }
def Utf8PartsWrongFalsely : Prop := utf8PartsRow.holds Try.pinned (OpenSpec.ofChange utf8PartsWrong)

/-- 'cartouchelaw.Utf8Many': WHATEVER THE INPUT: true; the input reads as it did. -/
def utf8ManySpec : ChangeSpec := { name := "utf8Many", fn := fun _ => fun
  | [d] => { results := [.lit (.bool true)], args := [d] }
  | _ => none }
def utf8ManyRow : OpenClaim := { program := "ytmekemlhhjnjjaa", sum := "8bc76502bdfa0936628de54ec3f439bee41cc1c6902a5a85dbd6efce6b8462fa", func := "cartouche/cartouchelaw.Utf8Many", spec := "utf8Many", unfollowed := true, recurses := true, apart := false }
def Utf8ManySaid : Prop := utf8ManyRow.holds Try.pinned (OpenSpec.ofChange utf8ManySpec)

/-- ITS FALSE NEIGHBOUR: 'it returns false'. Refute it at one input. -/
def utf8ManyWrong : ChangeSpec := { name := "utf8Many", fn := fun _ => fun
  | [d] => { results := [.lit (.bool false)], args := [d] }
  | _ => none }
def Utf8ManyWrongFalsely : Prop := utf8ManyRow.holds Try.pinned (OpenSpec.ofChange utf8ManyWrong)

/-- 'cartouchelaw.KanaTells': WHATEVER THE INPUT: true; the input reads as it did. -/
def kanaTellsSpec : ChangeSpec := { name := "kanaTells", fn := fun _ => fun
  | [d1, d2] => { results := [.lit (.bool true)], args := [d1, d2] }
  | _ => none }
def kanaTellsRow : OpenClaim := { program := "ytmekemlhhjnjjaa", sum := "8bc76502bdfa0936628de54ec3f439bee41cc1c6902a5a85dbd6efce6b8462fa", func := "cartouche/cartouchelaw.KanaTells", spec := "kanaTells", apart := false }
def KanaTellsSaid : Prop := kanaTellsRow.holds Try.pinned (OpenSpec.ofChange kanaTellsSpec)

/-- ITS FALSE NEIGHBOUR: 'it returns false'. Refute it at one input. -/
def kanaTellsWrong : ChangeSpec := { name := "kanaTells", fn := fun _ => fun
  | [d1, d2] => { results := [.lit (.bool false)], args := [d1, d2] }
  | _ => none }
def KanaTellsWrongFalsely : Prop := kanaTellsRow.holds Try.pinned (OpenSpec.ofChange kanaTellsWrong)

/-- 'cartouchelaw.StreamTells': WHATEVER THE INPUT: true; the input reads as it did. -/
def streamTellsSpec : ChangeSpec := { name := "streamTells", fn := fun _ => fun
  | [d1, d2, d3, d4] => { results := [.lit (.bool true)], args := [d1, d2, d3, d4] }
  | _ => none }
def streamTellsRow : OpenClaim := { program := "ytmekemlhhjnjjaa", sum := "8bc76502bdfa0936628de54ec3f439bee41cc1c6902a5a85dbd6efce6b8462fa", func := "cartouche/cartouchelaw.StreamTells", spec := "streamTells", apart := false }
def StreamTellsSaid : Prop := streamTellsRow.holds Try.pinned (OpenSpec.ofChange streamTellsSpec)

/-- ITS FALSE NEIGHBOUR: 'it returns false'. Refute it at one input. -/
def streamTellsWrong : ChangeSpec := { name := "streamTells", fn := fun _ => fun
  | [d1, d2, d3, d4] => { results := [.lit (.bool false)], args := [d1, d2, d3, d4] }
  | _ => none }
def StreamTellsWrongFalsely : Prop := streamTellsRow.holds Try.pinned (OpenSpec.ofChange streamTellsWrong)

/-- 'cartouchelaw.StreamPieces': WHATEVER THE INPUT: true; the input reads as it did. -/
def streamPiecesSpec : ChangeSpec := { name := "streamPieces", fn := fun _ => fun
  | [d1, d2, d3, d4] => { results := [.lit (.bool true)], args := [d1, d2, d3, d4] }
  | _ => none }
def streamPiecesRow : OpenClaim := { program := "ytmekemlhhjnjjaa", sum := "8bc76502bdfa0936628de54ec3f439bee41cc1c6902a5a85dbd6efce6b8462fa", func := "cartouche/cartouchelaw.StreamPieces", spec := "streamPieces", apart := false }
def StreamPiecesSaid : Prop := streamPiecesRow.holds Try.pinned (OpenSpec.ofChange streamPiecesSpec)

/-- ITS FALSE NEIGHBOUR: 'it returns false'. Refute it at one input. -/
def streamPiecesWrong : ChangeSpec := { name := "streamPieces", fn := fun _ => fun
  | [d1, d2, d3, d4] => { results := [.lit (.bool false)], args := [d1, d2, d3, d4] }
  | _ => none }
def StreamPiecesWrongFalsely : Prop := streamPiecesRow.holds Try.pinned (OpenSpec.ofChange streamPiecesWrong)

/-- 'cartouchelaw.StreamBytes': WHATEVER THE INPUT: true; the input reads as it did. -/
def streamBytesSpec : ChangeSpec := { name := "streamBytes", fn := fun _ => fun
  | [d1, d2] => { results := [.lit (.bool true)], args := [d1, d2] }
  | _ => none }
def streamBytesRow : OpenClaim := { program := "ytmekemlhhjnjjaa", sum := "8bc76502bdfa0936628de54ec3f439bee41cc1c6902a5a85dbd6efce6b8462fa", func := "cartouche/cartouchelaw.StreamBytes", spec := "streamBytes", apart := false }
def StreamBytesSaid : Prop := streamBytesRow.holds Try.pinned (OpenSpec.ofChange streamBytesSpec)

/-- ITS FALSE NEIGHBOUR: 'it returns false'. Refute it at one input. -/
def streamBytesWrong : ChangeSpec := { name := "streamBytes", fn := fun _ => fun
  | [d1, d2] => { results := [.lit (.bool false)], args := [d1, d2] }
  | _ => none }
def StreamBytesWrongFalsely : Prop := streamBytesRow.holds Try.pinned (OpenSpec.ofChange streamBytesWrong)

/-- 'cartouchelaw.StreamAgain': WHATEVER THE INPUT: true; the input reads as it did. -/
def streamAgainSpec : ChangeSpec := { name := "streamAgain", fn := fun _ => fun
  | [d1, d2, d3] => { results := [.lit (.bool true)], args := [d1, d2, d3] }
  | _ => none }
def streamAgainRow : OpenClaim := { program := "ytmekemlhhjnjjaa", sum := "8bc76502bdfa0936628de54ec3f439bee41cc1c6902a5a85dbd6efce6b8462fa", func := "cartouche/cartouchelaw.StreamAgain", spec := "streamAgain", apart := false }
def StreamAgainSaid : Prop := streamAgainRow.holds Try.pinned (OpenSpec.ofChange streamAgainSpec)

/-- ITS FALSE NEIGHBOUR: 'it returns false'. Refute it at one input. -/
def streamAgainWrong : ChangeSpec := { name := "streamAgain", fn := fun _ => fun
  | [d1, d2, d3] => { results := [.lit (.bool false)], args := [d1, d2, d3] }
  | _ => none }
def StreamAgainWrongFalsely : Prop := streamAgainRow.holds Try.pinned (OpenSpec.ofChange streamAgainWrong)

/- THE SECOND FORM. 'bulk': how many values and letters a reading holds, each counted each time it is reached (what is shared counts as often as it is met; a slice's spare places count too). A statement '..UptoSaid' is the law's where the arguments, and the package variables that the reading takes, are together of bulk at most 1048576: NARROWER than '..Said'. Prove '..Said' where nothing that the law and all that it calls make is longer than what came in: it says more and counts as full. Else prove '..UptoSaid'. A law counts once. -/
mutual
def uptoBulk {H : Type} : DataW H → Nat
  | .lit (.string bytes) => bytes.length + 1
  | .lit _ => 1
  | .nil => 1
  | .ptr d => uptoBulk d + 1
  | .slice elems spare => uptoBulkAll elems + uptoBulkAll spare + 1
  | .agg parts => uptoBulkAll parts + 1
  | .iface _ d => uptoBulk d + 1
  | .map entries => uptoBulkEntries entries + 1
  | .held _ => 1
def uptoBulkAll {H : Type} : List (DataW H) → Nat
  | [] => 0
  | d :: r => uptoBulk d + uptoBulkAll r
def uptoBulkEntries {H : Type} : List (Lit × DataW H) → Nat
  | [] => 0
  | x :: r => uptoBulkEntry x + uptoBulkEntries r
def uptoBulkEntry {H : Type} : Lit × DataW H → Nat
  | (.string bytes, d) => bytes.length + uptoBulk d + 1
  | (_, d) => uptoBulk d + 1
 end
def uptoSmall : (H : Type) → List (DataW H) → Bool := fun _ ds => decide (uptoBulkAll ds ≤ 1048576)
def OpenSpec.upto (s : _root_.Go.ChangeSpec) : _root_.Go.OpenSpec := { _root_.Go.OpenSpec.ofChange s with cond := some uptoSmall }

/-- 'cartouchelaw.MarkPut', WHERE WHAT IT READS IS OF BULK AT MOST 1048576: true; the input reads as it did. -/
def markPutUptoRow : OpenClaim := { program := "ytmekemlhhjnjjaa", sum := "8bc76502bdfa0936628de54ec3f439bee41cc1c6902a5a85dbd6efce6b8462fa", func := "cartouche/cartouchelaw.MarkPut", spec := "markPut", apart := false, narrowed := true }
def MarkPutUptoSaid : Prop := markPutUptoRow.holds Try.pinned (OpenSpec.upto markPutSpec)

/-- 'cartouchelaw.SingleTells', WHERE WHAT IT READS IS OF BULK AT MOST 1048576: true; the input reads as it did. -/
def singleTellsUptoRow : OpenClaim := { program := "ytmekemlhhjnjjaa", sum := "8bc76502bdfa0936628de54ec3f439bee41cc1c6902a5a85dbd6efce6b8462fa", func := "cartouche/cartouchelaw.SingleTells", spec := "singleTells", apart := false, narrowed := true }
def SingleTellsUptoSaid : Prop := singleTellsUptoRow.holds Try.pinned (OpenSpec.upto singleTellsSpec)

/-- 'cartouchelaw.SingleBack', WHERE WHAT IT READS IS OF BULK AT MOST 1048576: true; the input reads as it did. -/
def singleBackUptoRow : OpenClaim := { program := "ytmekemlhhjnjjaa", sum := "8bc76502bdfa0936628de54ec3f439bee41cc1c6902a5a85dbd6efce6b8462fa", func := "cartouche/cartouchelaw.SingleBack", spec := "singleBack", apart := false, narrowed := true }
def SingleBackUptoSaid : Prop := singleBackUptoRow.holds Try.pinned (OpenSpec.upto singleBackSpec)

/-- 'cartouchelaw.SingleParts', WHERE WHAT IT READS IS OF BULK AT MOST 1048576: true; the input reads as it did. -/
def singlePartsUptoRow : OpenClaim := { program := "ytmekemlhhjnjjaa", sum := "8bc76502bdfa0936628de54ec3f439bee41cc1c6902a5a85dbd6efce6b8462fa", func := "cartouche/cartouchelaw.SingleParts", spec := "singleParts", apart := false, narrowed := true }
def SinglePartsUptoSaid : Prop := singlePartsUptoRow.holds Try.pinned (OpenSpec.upto singlePartsSpec)

/-- 'cartouchelaw.Utf16Tells', WHERE WHAT IT READS IS OF BULK AT MOST 1048576: true; the input reads as it did. -/
def utf16TellsUptoRow : OpenClaim := { program := "ytmekemlhhjnjjaa", sum := "8bc76502bdfa0936628de54ec3f439bee41cc1c6902a5a85dbd6efce6b8462fa", func := "cartouche/cartouchelaw.Utf16Tells", spec := "utf16Tells", unfollowed := true, recurses := true, apart := false, narrowed := true }
def Utf16TellsUptoSaid : Prop := utf16TellsUptoRow.holds Try.pinned (OpenSpec.upto utf16TellsSpec)

/-- 'cartouchelaw.Utf16Back', WHERE WHAT IT READS IS OF BULK AT MOST 1048576: true; the input reads as it did. -/
def utf16BackUptoRow : OpenClaim := { program := "ytmekemlhhjnjjaa", sum := "8bc76502bdfa0936628de54ec3f439bee41cc1c6902a5a85dbd6efce6b8462fa", func := "cartouche/cartouchelaw.Utf16Back", spec := "utf16Back", unfollowed := true, recurses := true, apart := false, narrowed := true }
def Utf16BackUptoSaid : Prop := utf16BackUptoRow.holds Try.pinned (OpenSpec.upto utf16BackSpec)

/-- 'cartouchelaw.Utf16Parts', WHERE WHAT IT READS IS OF BULK AT MOST 1048576: true; the input reads as it did. -/
def utf16PartsUptoRow : OpenClaim := { program := "ytmekemlhhjnjjaa", sum := "8bc76502bdfa0936628de54ec3f439bee41cc1c6902a5a85dbd6efce6b8462fa", func := "cartouche/cartouchelaw.Utf16Parts", spec := "utf16Parts", unfollowed := true, recurses := true, apart := false, narrowed := true }
def Utf16PartsUptoSaid : Prop := utf16PartsUptoRow.holds Try.pinned (OpenSpec.upto utf16PartsSpec)

/-- 'cartouchelaw.KanaBack', WHERE WHAT IT READS IS OF BULK AT MOST 1048576: true; the input reads as it did. -/
def kanaBackUptoRow : OpenClaim := { program := "ytmekemlhhjnjjaa", sum := "8bc76502bdfa0936628de54ec3f439bee41cc1c6902a5a85dbd6efce6b8462fa", func := "cartouche/cartouchelaw.KanaBack", spec := "kanaBack", apart := false, narrowed := true }
def KanaBackUptoSaid : Prop := kanaBackUptoRow.holds Try.pinned (OpenSpec.upto kanaBackSpec)

/-- 'cartouchelaw.KanaEscapes', WHERE WHAT IT READS IS OF BULK AT MOST 1048576: true; the input reads as it did. -/
def kanaEscapesUptoRow : OpenClaim := { program := "ytmekemlhhjnjjaa", sum := "8bc76502bdfa0936628de54ec3f439bee41cc1c6902a5a85dbd6efce6b8462fa", func := "cartouche/cartouchelaw.KanaEscapes", spec := "kanaEscapes", apart := false, narrowed := true }
def KanaEscapesUptoSaid : Prop := kanaEscapesUptoRow.holds Try.pinned (OpenSpec.upto kanaEscapesSpec)

/-- 'cartouchelaw.Utf8Tells', WHERE WHAT IT READS IS OF BULK AT MOST 1048576: true; the input reads as it did. -/
def utf8TellsUptoRow : OpenClaim := { program := "ytmekemlhhjnjjaa", sum := "8bc76502bdfa0936628de54ec3f439bee41cc1c6902a5a85dbd6efce6b8462fa", func := "cartouche/cartouchelaw.Utf8Tells", spec := "utf8Tells", unfollowed := true, recurses := true, apart := false, narrowed := true }
def Utf8TellsUptoSaid : Prop := utf8TellsUptoRow.holds Try.pinned (OpenSpec.upto utf8TellsSpec)

/-- 'cartouchelaw.Utf8Back', WHERE WHAT IT READS IS OF BULK AT MOST 1048576: true; the input reads as it did. -/
def utf8BackUptoRow : OpenClaim := { program := "ytmekemlhhjnjjaa", sum := "8bc76502bdfa0936628de54ec3f439bee41cc1c6902a5a85dbd6efce6b8462fa", func := "cartouche/cartouchelaw.Utf8Back", spec := "utf8Back", unfollowed := true, recurses := true, apart := false, narrowed := true }
def Utf8BackUptoSaid : Prop := utf8BackUptoRow.holds Try.pinned (OpenSpec.upto utf8BackSpec)

/-- 'cartouchelaw.Utf8Parts', WHERE WHAT IT READS IS OF BULK AT MOST 1048576: true; the input reads as it did. -/
def utf8PartsUptoRow : OpenClaim := { program := "ytmekemlhhjnjjaa", sum := "8bc76502bdfa0936628de54ec3f439bee41cc1c6902a5a85dbd6efce6b8462fa", func := "cartouche/cartouchelaw.Utf8Parts", spec := "utf8Parts", unfollowed := true, recurses := true, apart := false, narrowed := true }
def Utf8PartsUptoSaid : Prop := utf8PartsUptoRow.holds Try.pinned (OpenSpec.upto utf8PartsSpec)

/-- 'cartouchelaw.Utf8Many', WHERE WHAT IT READS IS OF BULK AT MOST 1048576: true; the input reads as it did. -/
def utf8ManyUptoRow : OpenClaim := { program := "ytmekemlhhjnjjaa", sum := "8bc76502bdfa0936628de54ec3f439bee41cc1c6902a5a85dbd6efce6b8462fa", func := "cartouche/cartouchelaw.Utf8Many", spec := "utf8Many", unfollowed := true, recurses := true, apart := false, narrowed := true }
def Utf8ManyUptoSaid : Prop := utf8ManyUptoRow.holds Try.pinned (OpenSpec.upto utf8ManySpec)

/-- 'cartouchelaw.KanaTells', WHERE WHAT IT READS IS OF BULK AT MOST 1048576: true; the input reads as it did. -/
def kanaTellsUptoRow : OpenClaim := { program := "ytmekemlhhjnjjaa", sum := "8bc76502bdfa0936628de54ec3f439bee41cc1c6902a5a85dbd6efce6b8462fa", func := "cartouche/cartouchelaw.KanaTells", spec := "kanaTells", apart := false, narrowed := true }
def KanaTellsUptoSaid : Prop := kanaTellsUptoRow.holds Try.pinned (OpenSpec.upto kanaTellsSpec)

/-- 'cartouchelaw.StreamTells', WHERE WHAT IT READS IS OF BULK AT MOST 1048576: true; the input reads as it did. -/
def streamTellsUptoRow : OpenClaim := { program := "ytmekemlhhjnjjaa", sum := "8bc76502bdfa0936628de54ec3f439bee41cc1c6902a5a85dbd6efce6b8462fa", func := "cartouche/cartouchelaw.StreamTells", spec := "streamTells", apart := false, narrowed := true }
def StreamTellsUptoSaid : Prop := streamTellsUptoRow.holds Try.pinned (OpenSpec.upto streamTellsSpec)

/-- 'cartouchelaw.StreamPieces', WHERE WHAT IT READS IS OF BULK AT MOST 1048576: true; the input reads as it did. -/
def streamPiecesUptoRow : OpenClaim := { program := "ytmekemlhhjnjjaa", sum := "8bc76502bdfa0936628de54ec3f439bee41cc1c6902a5a85dbd6efce6b8462fa", func := "cartouche/cartouchelaw.StreamPieces", spec := "streamPieces", apart := false, narrowed := true }
def StreamPiecesUptoSaid : Prop := streamPiecesUptoRow.holds Try.pinned (OpenSpec.upto streamPiecesSpec)

/-- 'cartouchelaw.StreamBytes', WHERE WHAT IT READS IS OF BULK AT MOST 1048576: true; the input reads as it did. -/
def streamBytesUptoRow : OpenClaim := { program := "ytmekemlhhjnjjaa", sum := "8bc76502bdfa0936628de54ec3f439bee41cc1c6902a5a85dbd6efce6b8462fa", func := "cartouche/cartouchelaw.StreamBytes", spec := "streamBytes", apart := false, narrowed := true }
def StreamBytesUptoSaid : Prop := streamBytesUptoRow.holds Try.pinned (OpenSpec.upto streamBytesSpec)

/-- 'cartouchelaw.StreamAgain', WHERE WHAT IT READS IS OF BULK AT MOST 1048576: true; the input reads as it did. -/
def streamAgainUptoRow : OpenClaim := { program := "ytmekemlhhjnjjaa", sum := "8bc76502bdfa0936628de54ec3f439bee41cc1c6902a5a85dbd6efce6b8462fa", func := "cartouche/cartouchelaw.StreamAgain", spec := "streamAgain", apart := false, narrowed := true }
def StreamAgainUptoSaid : Prop := streamAgainUptoRow.holds Try.pinned (OpenSpec.upto streamAgainSpec)

end Rows
end Go.Proofs.Ytmekemlhhjnjjaa

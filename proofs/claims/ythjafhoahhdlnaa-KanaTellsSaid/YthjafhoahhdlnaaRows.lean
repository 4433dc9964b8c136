/-
  No cell of these rows narrows 'for every input' (looked for: loops, veiled, ifaces, maps, wideKeys, modest, calm, conditions, laid).
  DERIVED. THE GIVEN ROWS OF THIS SEAT. 7 by the template 'for every input the law returns true; each argument reads behind the call as it read before'; 0 by the template 'total and deterministic' (their statements: YthjafhoahhdlnaaTotals.lean).
  GIVEN WITH THE SEED: the statements are not yours to turn. If you find one false, say at which input.
  Laid BY PROGRAM, IN A SANDBOX (cutbox-rows.mjs): the forced cells as the released guide's own fill.sh prints them over the translation 9912516e045a657f… (all of the seat's roots in one cut). By AI agents, Wed Nov 11 2026. No macro, syntax, notation, axiom, sorry.
-/
import Derived.Test.YthjafhoahhdlnaaChecked
import GoSem.Claim
import GoSem.ClaimJoined
import GoSem.ClaimMapViews
import Derived.JoinedTies
import Derived.KernelRfl
namespace Go.Proofs.Ythjafhoahhdlnaa
/- THE CELL 'sum', in the pinned program and in every row, IS THE sha256 OF THE DUMP (.gsa) THAT YthjafhoahhdlnaaProg.lean LOADS. Nothing in Lean hashes anything: it is a label: what it is worth is what the hold of that sum in a sandbox is worth. -/
noncomputable def Try.pinned : Pinned := { name := "ythjafhoahhdlnaa", sum := "9912516e045a657f9cc3aed294e6db6a8a5f3b8e6bafbc4f86c45469f6da38d1", checked := Try.checked }
namespace Rows
def none {H : Type} : Left H := { results := [], args := [] }

/-- 'cartouchelaw.KanaBack': WHATEVER THE INPUT: true; the input reads as it did. -/
def kanaBackSpec : ChangeSpec := { name := "kanaBack", fn := fun _ => fun
  | [d1, d2] => { results := [.lit (.bool true)], args := [d1, d2] }
  | _ => none }
def kanaBackRow : OpenClaim := { program := "ythjafhoahhdlnaa", sum := "9912516e045a657f9cc3aed294e6db6a8a5f3b8e6bafbc4f86c45469f6da38d1", func := "cartouche/cartouchelaw.KanaBack", spec := "kanaBack", apart := false }
def KanaBackSaid : Prop := kanaBackRow.holds Try.pinned (OpenSpec.ofChange kanaBackSpec)

/-- ITS FALSE NEIGHBOUR: 'it returns false'. Refute it at one input. -/
def kanaBackWrong : ChangeSpec := { name := "kanaBack", fn := fun _ => fun
  | [d1, d2] => { results := [.lit (.bool false)], args := [d1, d2] }
  | _ => none }
def KanaBackWrongFalsely : Prop := kanaBackRow.holds Try.pinned (OpenSpec.ofChange kanaBackWrong)

/-- 'cartouchelaw.KanaEscapes': WHATEVER THE INPUT: true; the input reads as it did. -/
def kanaEscapesSpec : ChangeSpec := { name := "kanaEscapes", fn := fun _ => fun
  | [d1, d2] => { results := [.lit (.bool true)], args := [d1, d2] }
  | _ => none }
def kanaEscapesRow : OpenClaim := { program := "ythjafhoahhdlnaa", sum := "9912516e045a657f9cc3aed294e6db6a8a5f3b8e6bafbc4f86c45469f6da38d1", func := "cartouche/cartouchelaw.KanaEscapes", spec := "kanaEscapes", apart := false }
def KanaEscapesSaid : Prop := kanaEscapesRow.holds Try.pinned (OpenSpec.ofChange kanaEscapesSpec)

/-- ITS FALSE NEIGHBOUR: 'it returns false'. Refute it at one input. -/
def kanaEscapesWrong : ChangeSpec := { name := "kanaEscapes", fn := fun _ => fun
  | [d1, d2] => { results := [.lit (.bool false)], args := [d1, d2] }
  | _ => none }
def KanaEscapesWrongFalsely : Prop := kanaEscapesRow.holds Try.pinned (OpenSpec.ofChange kanaEscapesWrong)

/-- 'cartouchelaw.KanaTells': WHATEVER THE INPUT: true; the input reads as it did. -/
def kanaTellsSpec : ChangeSpec := { name := "kanaTells", fn := fun _ => fun
  | [d1, d2] => { results := [.lit (.bool true)], args := [d1, d2] }
  | _ => none }
def kanaTellsRow : OpenClaim := { program := "ythjafhoahhdlnaa", sum := "9912516e045a657f9cc3aed294e6db6a8a5f3b8e6bafbc4f86c45469f6da38d1", func := "cartouche/cartouchelaw.KanaTells", spec := "kanaTells", apart := false }
def KanaTellsSaid : Prop := kanaTellsRow.holds Try.pinned (OpenSpec.ofChange kanaTellsSpec)

/-- ITS FALSE NEIGHBOUR: 'it returns false'. Refute it at one input. -/
def kanaTellsWrong : ChangeSpec := { name := "kanaTells", fn := fun _ => fun
  | [d1, d2] => { results := [.lit (.bool false)], args := [d1, d2] }
  | _ => none }
def KanaTellsWrongFalsely : Prop := kanaTellsRow.holds Try.pinned (OpenSpec.ofChange kanaTellsWrong)

/-- 'cartouchelaw.StreamTells': WHATEVER THE INPUT: true; the input reads as it did. -/
def streamTellsSpec : ChangeSpec := { name := "streamTells", fn := fun _ => fun
  | [d1, d2, d3, d4] => { results := [.lit (.bool true)], args := [d1, d2, d3, d4] }
  | _ => none }
def streamTellsRow : OpenClaim := { program := "ythjafhoahhdlnaa", sum := "9912516e045a657f9cc3aed294e6db6a8a5f3b8e6bafbc4f86c45469f6da38d1", func := "cartouche/cartouchelaw.StreamTells", spec := "streamTells", apart := false }
def StreamTellsSaid : Prop := streamTellsRow.holds Try.pinned (OpenSpec.ofChange streamTellsSpec)

/-- ITS FALSE NEIGHBOUR: 'it returns false'. Refute it at one input. -/
def streamTellsWrong : ChangeSpec := { name := "streamTells", fn := fun _ => fun
  | [d1, d2, d3, d4] => { results := [.lit (.bool false)], args := [d1, d2, d3, d4] }
  | _ => none }
def StreamTellsWrongFalsely : Prop := streamTellsRow.holds Try.pinned (OpenSpec.ofChange streamTellsWrong)

/-- 'cartouchelaw.StreamPieces': WHATEVER THE INPUT: true; the input reads as it did. -/
def streamPiecesSpec : ChangeSpec := { name := "streamPieces", fn := fun _ => fun
  | [d1, d2, d3, d4] => { results := [.lit (.bool true)], args := [d1, d2, d3, d4] }
  | _ => none }
def streamPiecesRow : OpenClaim := { program := "ythjafhoahhdlnaa", sum := "9912516e045a657f9cc3aed294e6db6a8a5f3b8e6bafbc4f86c45469f6da38d1", func := "cartouche/cartouchelaw.StreamPieces", spec := "streamPieces", apart := false }
def StreamPiecesSaid : Prop := streamPiecesRow.holds Try.pinned (OpenSpec.ofChange streamPiecesSpec)

/-- ITS FALSE NEIGHBOUR: 'it returns false'. Refute it at one input. -/
def streamPiecesWrong : ChangeSpec := { name := "streamPieces", fn := fun _ => fun
  | [d1, d2, d3, d4] => { results := [.lit (.bool false)], args := [d1, d2, d3, d4] }
  | _ => none }
def StreamPiecesWrongFalsely : Prop := streamPiecesRow.holds Try.pinned (OpenSpec.ofChange streamPiecesWrong)

/-- 'cartouchelaw.StreamBytes': WHATEVER THE INPUT: true; the input reads as it did. -/
def streamBytesSpec : ChangeSpec := { name := "streamBytes", fn := fun _ => fun
  | [d1, d2] => { results := [.lit (.bool true)], args := [d1, d2] }
  | _ => none }
def streamBytesRow : OpenClaim := { program := "ythjafhoahhdlnaa", sum := "9912516e045a657f9cc3aed294e6db6a8a5f3b8e6bafbc4f86c45469f6da38d1", func := "cartouche/cartouchelaw.StreamBytes", spec := "streamBytes", apart := false }
def StreamBytesSaid : Prop := streamBytesRow.holds Try.pinned (OpenSpec.ofChange streamBytesSpec)

/-- ITS FALSE NEIGHBOUR: 'it returns false'. Refute it at one input. -/
def streamBytesWrong : ChangeSpec := { name := "streamBytes", fn := fun _ => fun
  | [d1, d2] => { results := [.lit (.bool false)], args := [d1, d2] }
  | _ => none }
def StreamBytesWrongFalsely : Prop := streamBytesRow.holds Try.pinned (OpenSpec.ofChange streamBytesWrong)

/-- 'cartouchelaw.StreamAgain': WHATEVER THE INPUT: true; the input reads as it did. -/
def streamAgainSpec : ChangeSpec := { name := "streamAgain", fn := fun _ => fun
  | [d1, d2, d3] => { results := [.lit (.bool true)], args := [d1, d2, d3] }
  | _ => none }
def streamAgainRow : OpenClaim := { program := "ythjafhoahhdlnaa", sum := "9912516e045a657f9cc3aed294e6db6a8a5f3b8e6bafbc4f86c45469f6da38d1", func := "cartouche/cartouchelaw.StreamAgain", spec := "streamAgain", apart := false }
def StreamAgainSaid : Prop := streamAgainRow.holds Try.pinned (OpenSpec.ofChange streamAgainSpec)

/-- ITS FALSE NEIGHBOUR: 'it returns false'. Refute it at one input. -/
def streamAgainWrong : ChangeSpec := { name := "streamAgain", fn := fun _ => fun
  | [d1, d2, d3] => { results := [.lit (.bool false)], args := [d1, d2, d3] }
  | _ => none }
def StreamAgainWrongFalsely : Prop := streamAgainRow.holds Try.pinned (OpenSpec.ofChange streamAgainWrong)

/- THE SECOND FORM. 'bulk': how many values and letters a reading holds, each counted each time it is reached (what is shared counts as often as it is met; a slice's spare places count too). A statement '..UptoSaid' is the law's where the arguments, and the package variables that the reading takes, are together of bulk at most 1048576: NARROWER than '..Said'. Prove '..Said' where nothing that the law and all that it calls make is longer than what came in: it says more and counts as full. Else prove '..UptoSaid'. A law counts once. -/
mutual
def uptoBulk {H : Type} : DataW H → Nat
  | .lit (.string bytes) => bytes.length + 1
  | .lit _ => 1
  | .nil => 1
  | .ptr d => uptoBulk d + 1
  | .slice elems spare => uptoBulkAll elems + uptoBulkAll spare + 1
  | .agg parts => uptoBulkAll parts + 1
  | .iface _ d => uptoBulk d + 1
  | .map entries => uptoBulkEntries entries + 1
  | .held _ => 1
def uptoBulkAll {H : Type} : List (DataW H) → Nat
  | [] => 0
  | d :: r => uptoBulk d + uptoBulkAll r
def uptoBulkEntries {H : Type} : List (Lit × DataW H) → Nat
  | [] => 0
  | x :: r => uptoBulkEntry x + uptoBulkEntries r
def uptoBulkEntry {H : Type} : Lit × DataW H → Nat
  | (.string bytes, d) => bytes.length + uptoBulk d + 1
  | (_, d) => uptoBulk d + 1
 end
def uptoSmall : (H : Type) → List (DataW H) → Bool := fun _ ds => decide (uptoBulkAll ds ≤ 1048576)
def OpenSpec.upto (s : _root_.Go.ChangeSpec) : _root_.Go.OpenSpec := { _root_.Go.OpenSpec.ofChange s with cond := some uptoSmall }

/-- 'cartouchelaw.KanaBack', WHERE WHAT IT READS IS OF BULK AT MOST 1048576: true; the input reads as it did. -/
def kanaBackUptoRow : OpenClaim := { program := "ythjafhoahhdlnaa", sum := "9912516e045a657f9cc3aed294e6db6a8a5f3b8e6bafbc4f86c45469f6da38d1", func := "cartouche/cartouchelaw.KanaBack", spec := "kanaBack", apart := false, narrowed := true }
def KanaBackUptoSaid : Prop := kanaBackUptoRow.holds Try.pinned (OpenSpec.upto kanaBackSpec)

/-- 'cartouchelaw.KanaEscapes', WHERE WHAT IT READS IS OF BULK AT MOST 1048576: true; the input reads as it did. -/
def kanaEscapesUptoRow : OpenClaim := { program := "ythjafhoahhdlnaa", sum := "9912516e045a657f9cc3aed294e6db6a8a5f3b8e6bafbc4f86c45469f6da38d1", func := "cartouche/cartouchelaw.KanaEscapes", spec := "kanaEscapes", apart := false, narrowed := true }
def KanaEscapesUptoSaid : Prop := kanaEscapesUptoRow.holds Try.pinned (OpenSpec.upto kanaEscapesSpec)

/-- 'cartouchelaw.KanaTells', WHERE WHAT IT READS IS OF BULK AT MOST 1048576: true; the input reads as it did. -/
def kanaTellsUptoRow : OpenClaim := { program := "ythjafhoahhdlnaa", sum := "9912516e045a657f9cc3aed294e6db6a8a5f3b8e6bafbc4f86c45469f6da38d1", func := "cartouche/cartouchelaw.KanaTells", spec := "kanaTells", apart := false, narrowed := true }
def KanaTellsUptoSaid : Prop := kanaTellsUptoRow.holds Try.pinned (OpenSpec.upto kanaTellsSpec)

/-- 'cartouchelaw.StreamTells', WHERE WHAT IT READS IS OF BULK AT MOST 1048576: true; the input reads as it did. -/
def streamTellsUptoRow : OpenClaim := { program := "ythjafhoahhdlnaa", sum := "9912516e045a657f9cc3aed294e6db6a8a5f3b8e6bafbc4f86c45469f6da38d1", func := "cartouche/cartouchelaw.StreamTells", spec := "streamTells", apart := false, narrowed := true }
def StreamTellsUptoSaid : Prop := streamTellsUptoRow.holds Try.pinned (OpenSpec.upto streamTellsSpec)

/-- 'cartouchelaw.StreamPieces', WHERE WHAT IT READS IS OF BULK AT MOST 1048576: true; the input reads as it did. -/
def streamPiecesUptoRow : OpenClaim := { program := "ythjafhoahhdlnaa", sum := "9912516e045a657f9cc3aed294e6db6a8a5f3b8e6bafbc4f86c45469f6da38d1", func := "cartouche/cartouchelaw.StreamPieces", spec := "streamPieces", apart := false, narrowed := true }
def StreamPiecesUptoSaid : Prop := streamPiecesUptoRow.holds Try.pinned (OpenSpec.upto streamPiecesSpec)

/-- 'cartouchelaw.StreamBytes', WHERE WHAT IT READS IS OF BULK AT MOST 1048576: true; the input reads as it did. -/
def streamBytesUptoRow : OpenClaim := { program := "ythjafhoahhdlnaa", sum := "9912516e045a657f9cc3aed294e6db6a8a5f3b8e6bafbc4f86c45469f6da38d1", func := "cartouche/cartouchelaw.StreamBytes", spec := "streamBytes", apart := false, narrowed := true }
def StreamBytesUptoSaid : Prop := streamBytesUptoRow.holds Try.pinned (OpenSpec.upto streamBytesSpec)

/-- 'cartouchelaw.StreamAgain', WHERE WHAT IT READS IS OF BULK AT MOST 1048576: true; the input reads as it did. -/
def streamAgainUptoRow : OpenClaim := { program := "ythjafhoahhdlnaa", sum := "9912516e045a657f9cc3aed294e6db6a8a5f3b8e6bafbc4f86c45469f6da38d1", func := "cartouche/cartouchelaw.StreamAgain", spec := "streamAgain", apart := false, narrowed := true }
def StreamAgainUptoSaid : Prop := streamAgainUptoRow.holds Try.pinned (OpenSpec.upto streamAgainSpec)

end Rows
end Go.Proofs.Ythjafhoahhdlnaa

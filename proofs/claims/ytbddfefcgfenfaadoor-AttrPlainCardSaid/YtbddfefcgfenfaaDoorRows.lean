/-
  NARROWER THAN 'FOR EVERY INPUT', by the rows' own cells (each row's printed sentence says how): LabelTells: laid · LabelNames: laid · EncoderTells: laid · EncoderTold: laid · EncoderOut: laid · AttrTells: laid · AttrPlain: laid · AttrEach: laid · AttrCharset: laid · ScanTells: laid · ScanFar: laid · ScanPlain: laid · EncoderStrict: laid.
  DERIVED. THE GIVEN ROWS OF THIS SEAT. 13 by the template 'for every input the law returns true; each argument reads behind the call as it read before'; 0 by the template 'total and deterministic' (their statements: YtbddfefcgfenfaaDoorTotals.lean).
  GIVEN WITH THE SEED: the statements are not yours to turn. If you find one false, say at which input.
  Laid BY PROGRAM, IN A SANDBOX (cutbox-rows.mjs): the forced cells as the released guide's own fill.sh prints them over the translation d70bda1ad9bbfe2f… (all of the seat's roots in one cut). By AI agents, Wed Nov 11 2026. No macro, syntax, notation, axiom, sorry.
-/
import Derived.Test.YtbddfefcgfenfaaDoorChecked
import GoSem.PinnedTables
import GoSem.Claim
import GoSem.ClaimJoined
import GoSem.ClaimMapViews
import Derived.JoinedTies
import Derived.KernelRfl
namespace Go.Proofs.YtbddfefcgfenfaaDoor
/- THE CELL 'sum', in the pinned program and in every row, IS THE sha256 OF THE DUMP (.gsa) THAT YtbddfefcgfenfaaDoorProg.lean LOADS. Nothing in Lean hashes anything: it is a label: what it is worth is what the hold of that sum in a sandbox is worth. -/
noncomputable def Tryd.pinned : Pinned := { name := "ytbddfefcgfenfaadoor", sum := "d70bda1ad9bbfe2f2040f33aea2efcd74ce6df3d0aca4e8c34ef9d8e0918506e", checked := Tryd.checked }
namespace Rows
def none {H : Type} : Left H := { results := [], args := [] }

/- WHAT THE LISTED PACKAGE-LEVEL VARIABLES READ AS WHEN THE CALL BEGINS. Each datum BY PROGRAM (the guide's laid-datum.mjs) off the statement by which the dump's own 'gosem.cut.vars' lays the variable. In a bare row this is a premise. The card (YtbddfefcgfenfaaDoorCards.lean) ties it to the program's text. -/
def laid_unicode_utf8_acceptRanges {H : Type} : DataW H := .agg [.agg [.lit (.int .u8 128), .lit (.int .u8 191)], .agg [.lit (.int .u8 160), .lit (.int .u8 191)], .agg [.lit (.int .u8 128), .lit (.int .u8 159)], .agg [.lit (.int .u8 144), .lit (.int .u8 191)], .agg [.lit (.int .u8 128), .lit (.int .u8 143)], .agg [.lit (.int .u8 0), .lit (.int .u8 0)], .agg [.lit (.int .u8 0), .lit (.int .u8 0)], .agg [.lit (.int .u8 0), .lit (.int .u8 0)], .agg [.lit (.int .u8 0), .lit (.int .u8 0)], .agg [.lit (.int .u8 0), .lit (.int .u8 0)], .agg [.lit (.int .u8 0), .lit (.int .u8 0)], .agg [.lit (.int .u8 0), .lit (.int .u8 0)], .agg [.lit (.int .u8 0), .lit (.int .u8 0)], .agg [.lit (.int .u8 0), .lit (.int .u8 0)], .agg [.lit (.int .u8 0), .lit (.int .u8 0)], .agg [.lit (.int .u8 0), .lit (.int .u8 0)]]
/-- One of Go's own tables, pinned by name: the form's constant. -/
def laid_unicode_utf8_first : DataW Unit := Go.Pinned.utf8First
def laid_math_bits_deBruijn32tab {H : Type} : DataW H := .agg [.lit (.int .u8 0), .lit (.int .u8 1), .lit (.int .u8 28), .lit (.int .u8 2), .lit (.int .u8 29), .lit (.int .u8 14), .lit (.int .u8 24), .lit (.int .u8 3), .lit (.int .u8 30), .lit (.int .u8 22), .lit (.int .u8 20), .lit (.int .u8 15), .lit (.int .u8 25), .lit (.int .u8 17), .lit (.int .u8 4), .lit (.int .u8 8), .lit (.int .u8 31), .lit (.int .u8 27), .lit (.int .u8 13), .lit (.int .u8 23), .lit (.int .u8 21), .lit (.int .u8 19), .lit (.int .u8 16), .lit (.int .u8 7), .lit (.int .u8 26), .lit (.int .u8 12), .lit (.int .u8 18), .lit (.int .u8 6), .lit (.int .u8 11), .lit (.int .u8 5), .lit (.int .u8 10), .lit (.int .u8 9)]
def laid_math_bits_deBruijn64tab {H : Type} : DataW H := .agg [.lit (.int .u8 0), .lit (.int .u8 1), .lit (.int .u8 56), .lit (.int .u8 2), .lit (.int .u8 57), .lit (.int .u8 49), .lit (.int .u8 28), .lit (.int .u8 3), .lit (.int .u8 61), .lit (.int .u8 58), .lit (.int .u8 42), .lit (.int .u8 50), .lit (.int .u8 38), .lit (.int .u8 29), .lit (.int .u8 17), .lit (.int .u8 4), .lit (.int .u8 62), .lit (.int .u8 47), .lit (.int .u8 59), .lit (.int .u8 36), .lit (.int .u8 45), .lit (.int .u8 43), .lit (.int .u8 51), .lit (.int .u8 22), .lit (.int .u8 53), .lit (.int .u8 39), .lit (.int .u8 33), .lit (.int .u8 30), .lit (.int .u8 24), .lit (.int .u8 18), .lit (.int .u8 12), .lit (.int .u8 5), .lit (.int .u8 63), .lit (.int .u8 55), .lit (.int .u8 48), .lit (.int .u8 27), .lit (.int .u8 60), .lit (.int .u8 41), .lit (.int .u8 37), .lit (.int .u8 16), .lit (.int .u8 46), .lit (.int .u8 35), .lit (.int .u8 44), .lit (.int .u8 21), .lit (.int .u8 52), .lit (.int .u8 32), .lit (.int .u8 23), .lit (.int .u8 11), .lit (.int .u8 54), .lit (.int .u8 26), .lit (.int .u8 40), .lit (.int .u8 15), .lit (.int .u8 34), .lit (.int .u8 20), .lit (.int .u8 31), .lit (.int .u8 10), .lit (.int .u8 25), .lit (.int .u8 14), .lit (.int .u8 19), .lit (.int .u8 9), .lit (.int .u8 13), .lit (.int .u8 8), .lit (.int .u8 7), .lit (.int .u8 6)]
def laid_internal_strconv_uint64pow10 {H : Type} : DataW H := .agg [.lit (.int .u64 1), .lit (.int .u64 10), .lit (.int .u64 100), .lit (.int .u64 1000), .lit (.int .u64 10000), .lit (.int .u64 100000), .lit (.int .u64 1000000), .lit (.int .u64 10000000), .lit (.int .u64 100000000), .lit (.int .u64 1000000000), .lit (.int .u64 10000000000), .lit (.int .u64 100000000000), .lit (.int .u64 1000000000000), .lit (.int .u64 10000000000000), .lit (.int .u64 100000000000000), .lit (.int .u64 1000000000000000), .lit (.int .u64 10000000000000000), .lit (.int .u64 100000000000000000), .lit (.int .u64 1000000000000000000), .lit (.int .u64 10000000000000000000)]

/-- 'cartouchelaw.LabelTells': WHATEVER THE INPUT: true; the input reads as it did. -/
def labelTellsSpec : ChangeSpec := { name := "labelTells", fn := fun _ => fun
  | [d1, d2] => { results := [.lit (.bool true)], args := [d1, d2] }
  | _ => none }
def labelTellsRow : OpenClaim := { program := "ytbddfefcgfenfaadoor", sum := "d70bda1ad9bbfe2f2040f33aea2efcd74ce6df3d0aca4e8c34ef9d8e0918506e", func := "cartouche/cartouchelaw.LabelTells", spec := "labelTells", inPlace := ["internal/bytealg.IndexByteString", "internal/bytealg.IndexString"], unfollowed := true, recurses := true, named := ["unicode/utf8.first", "unicode/utf8.acceptRanges", "internal/bytealg.MaxLen"], apart := false, laid := [("unicode/utf8.acceptRanges", laid_unicode_utf8_acceptRanges), ("unicode/utf8.first", laid_unicode_utf8_first)] }
def LabelTellsSaid : Prop := labelTellsRow.holds Tryd.pinned (OpenSpec.ofChange labelTellsSpec)

/-- ITS FALSE NEIGHBOUR: 'it returns false'. Refute it at one input. -/
def labelTellsWrong : ChangeSpec := { name := "labelTells", fn := fun _ => fun
  | [d1, d2] => { results := [.lit (.bool false)], args := [d1, d2] }
  | _ => none }
def LabelTellsWrongFalsely : Prop := labelTellsRow.holds Tryd.pinned (OpenSpec.ofChange labelTellsWrong)

/-- 'cartouchelaw.LabelNames': WHATEVER THE INPUT: true; the input reads as it did. -/
def labelNamesSpec : ChangeSpec := { name := "labelNames", fn := fun _ => fun
  | [d1, d2] => { results := [.lit (.bool true)], args := [d1, d2] }
  | _ => none }
def labelNamesRow : OpenClaim := { program := "ytbddfefcgfenfaadoor", sum := "d70bda1ad9bbfe2f2040f33aea2efcd74ce6df3d0aca4e8c34ef9d8e0918506e", func := "cartouche/cartouchelaw.LabelNames", spec := "labelNames", inPlace := ["internal/bytealg.IndexByteString", "internal/bytealg.IndexString"], unfollowed := true, recurses := true, named := ["unicode/utf8.first", "unicode/utf8.acceptRanges", "internal/bytealg.MaxLen"], apart := false, laid := [("unicode/utf8.acceptRanges", laid_unicode_utf8_acceptRanges), ("unicode/utf8.first", laid_unicode_utf8_first)] }
def LabelNamesSaid : Prop := labelNamesRow.holds Tryd.pinned (OpenSpec.ofChange labelNamesSpec)

/-- ITS FALSE NEIGHBOUR: 'it returns false'. Refute it at one input. -/
def labelNamesWrong : ChangeSpec := { name := "labelNames", fn := fun _ => fun
  | [d1, d2] => { results := [.lit (.bool false)], args := [d1, d2] }
  | _ => none }
def LabelNamesWrongFalsely : Prop := labelNamesRow.holds Tryd.pinned (OpenSpec.ofChange labelNamesWrong)

/-- 'cartouchelaw.EncoderTells': WHATEVER THE INPUT: true; the input reads as it did. -/
def encoderTellsSpec : ChangeSpec := { name := "encoderTells", fn := fun _ => fun
  | [d1, d2, d3, d4] => { results := [.lit (.bool true)], args := [d1, d2, d3, d4] }
  | _ => none }
def encoderTellsRow : OpenClaim := { program := "ytbddfefcgfenfaadoor", sum := "d70bda1ad9bbfe2f2040f33aea2efcd74ce6df3d0aca4e8c34ef9d8e0918506e", func := "cartouche/cartouchelaw.EncoderTells", spec := "encoderTells", unfollowed := true, recurses := true, named := ["internal/strconv.uint64pow10", "math/bits.deBruijn32tab", "math/bits.deBruijn64tab"], apart := false, laid := [("math/bits.deBruijn32tab", laid_math_bits_deBruijn32tab), ("math/bits.deBruijn64tab", laid_math_bits_deBruijn64tab), ("internal/strconv.uint64pow10", laid_internal_strconv_uint64pow10)] }
def EncoderTellsSaid : Prop := encoderTellsRow.holds Tryd.pinned (OpenSpec.ofChange encoderTellsSpec)

/-- ITS FALSE NEIGHBOUR: 'it returns false'. Refute it at one input. -/
def encoderTellsWrong : ChangeSpec := { name := "encoderTells", fn := fun _ => fun
  | [d1, d2, d3, d4] => { results := [.lit (.bool false)], args := [d1, d2, d3, d4] }
  | _ => none }
def EncoderTellsWrongFalsely : Prop := encoderTellsRow.holds Tryd.pinned (OpenSpec.ofChange encoderTellsWrong)

/-- 'cartouchelaw.EncoderTold': WHATEVER THE INPUT: true; the input reads as it did. -/
def encoderToldSpec : ChangeSpec := { name := "encoderTold", fn := fun _ => fun
  | [d1, d2, d3] => { results := [.lit (.bool true)], args := [d1, d2, d3] }
  | _ => none }
def encoderToldRow : OpenClaim := { program := "ytbddfefcgfenfaadoor", sum := "d70bda1ad9bbfe2f2040f33aea2efcd74ce6df3d0aca4e8c34ef9d8e0918506e", func := "cartouche/cartouchelaw.EncoderTold", spec := "encoderTold", unfollowed := true, recurses := true, named := ["internal/strconv.uint64pow10", "math/bits.deBruijn32tab", "math/bits.deBruijn64tab"], apart := false, laid := [("math/bits.deBruijn32tab", laid_math_bits_deBruijn32tab), ("math/bits.deBruijn64tab", laid_math_bits_deBruijn64tab), ("internal/strconv.uint64pow10", laid_internal_strconv_uint64pow10)] }
def EncoderToldSaid : Prop := encoderToldRow.holds Tryd.pinned (OpenSpec.ofChange encoderToldSpec)

/-- ITS FALSE NEIGHBOUR: 'it returns false'. Refute it at one input. -/
def encoderToldWrong : ChangeSpec := { name := "encoderTold", fn := fun _ => fun
  | [d1, d2, d3] => { results := [.lit (.bool false)], args := [d1, d2, d3] }
  | _ => none }
def EncoderToldWrongFalsely : Prop := encoderToldRow.holds Tryd.pinned (OpenSpec.ofChange encoderToldWrong)

/-- 'cartouchelaw.EncoderOut': WHATEVER THE INPUT: true; the input reads as it did. -/
def encoderOutSpec : ChangeSpec := { name := "encoderOut", fn := fun _ => fun
  | [d1, d2] => { results := [.lit (.bool true)], args := [d1, d2] }
  | _ => none }
def encoderOutRow : OpenClaim := { program := "ytbddfefcgfenfaadoor", sum := "d70bda1ad9bbfe2f2040f33aea2efcd74ce6df3d0aca4e8c34ef9d8e0918506e", func := "cartouche/cartouchelaw.EncoderOut", spec := "encoderOut", unfollowed := true, recurses := true, named := ["internal/strconv.uint64pow10", "math/bits.deBruijn32tab", "math/bits.deBruijn64tab"], apart := false, laid := [("math/bits.deBruijn32tab", laid_math_bits_deBruijn32tab), ("math/bits.deBruijn64tab", laid_math_bits_deBruijn64tab), ("internal/strconv.uint64pow10", laid_internal_strconv_uint64pow10)] }
def EncoderOutSaid : Prop := encoderOutRow.holds Tryd.pinned (OpenSpec.ofChange encoderOutSpec)

/-- ITS FALSE NEIGHBOUR: 'it returns false'. Refute it at one input. -/
def encoderOutWrong : ChangeSpec := { name := "encoderOut", fn := fun _ => fun
  | [d1, d2] => { results := [.lit (.bool false)], args := [d1, d2] }
  | _ => none }
def EncoderOutWrongFalsely : Prop := encoderOutRow.holds Tryd.pinned (OpenSpec.ofChange encoderOutWrong)

/-- 'cartouchelaw.AttrTells': WHATEVER THE INPUT: true; the input reads as it did. -/
def attrTellsSpec : ChangeSpec := { name := "attrTells", fn := fun _ => fun
  | [d1, d2] => { results := [.lit (.bool true)], args := [d1, d2] }
  | _ => none }
def attrTellsRow : OpenClaim := { program := "ytbddfefcgfenfaadoor", sum := "d70bda1ad9bbfe2f2040f33aea2efcd74ce6df3d0aca4e8c34ef9d8e0918506e", func := "cartouche/cartouchelaw.AttrTells", spec := "attrTells", inPlace := ["internal/bytealg.IndexByteString", "internal/bytealg.IndexString"], unfollowed := true, recurses := true, named := ["internal/bytealg.MaxLen", "unicode/utf8.first", "unicode/utf8.acceptRanges"], apart := false, laid := [("unicode/utf8.acceptRanges", laid_unicode_utf8_acceptRanges), ("unicode/utf8.first", laid_unicode_utf8_first)] }
def AttrTellsSaid : Prop := attrTellsRow.holds Tryd.pinned (OpenSpec.ofChange attrTellsSpec)

/-- ITS FALSE NEIGHBOUR: 'it returns false'. Refute it at one input. -/
def attrTellsWrong : ChangeSpec := { name := "attrTells", fn := fun _ => fun
  | [d1, d2] => { results := [.lit (.bool false)], args := [d1, d2] }
  | _ => none }
def AttrTellsWrongFalsely : Prop := attrTellsRow.holds Tryd.pinned (OpenSpec.ofChange attrTellsWrong)

/-- 'cartouchelaw.AttrPlain': WHATEVER THE INPUT: true; the input reads as it did. -/
def attrPlainSpec : ChangeSpec := { name := "attrPlain", fn := fun _ => fun
  | [d1, d2, d3] => { results := [.lit (.bool true)], args := [d1, d2, d3] }
  | _ => none }
def attrPlainRow : OpenClaim := { program := "ytbddfefcgfenfaadoor", sum := "d70bda1ad9bbfe2f2040f33aea2efcd74ce6df3d0aca4e8c34ef9d8e0918506e", func := "cartouche/cartouchelaw.AttrPlain", spec := "attrPlain", inPlace := ["internal/bytealg.IndexByteString", "internal/bytealg.IndexString"], unfollowed := true, recurses := true, named := ["internal/bytealg.MaxLen", "unicode/utf8.first", "unicode/utf8.acceptRanges"], apart := false, laid := [("unicode/utf8.acceptRanges", laid_unicode_utf8_acceptRanges), ("unicode/utf8.first", laid_unicode_utf8_first)] }
def AttrPlainSaid : Prop := attrPlainRow.holds Tryd.pinned (OpenSpec.ofChange attrPlainSpec)

/-- ITS FALSE NEIGHBOUR: 'it returns false'. Refute it at one input. -/
def attrPlainWrong : ChangeSpec := { name := "attrPlain", fn := fun _ => fun
  | [d1, d2, d3] => { results := [.lit (.bool false)], args := [d1, d2, d3] }
  | _ => none }
def AttrPlainWrongFalsely : Prop := attrPlainRow.holds Tryd.pinned (OpenSpec.ofChange attrPlainWrong)

/-- 'cartouchelaw.AttrEach': WHATEVER THE INPUT: true; the input reads as it did. -/
def attrEachSpec : ChangeSpec := { name := "attrEach", fn := fun _ => fun
  | [d1, d2] => { results := [.lit (.bool true)], args := [d1, d2] }
  | _ => none }
def attrEachRow : OpenClaim := { program := "ytbddfefcgfenfaadoor", sum := "d70bda1ad9bbfe2f2040f33aea2efcd74ce6df3d0aca4e8c34ef9d8e0918506e", func := "cartouche/cartouchelaw.AttrEach", spec := "attrEach", inPlace := ["internal/bytealg.IndexByteString", "internal/bytealg.IndexString"], unfollowed := true, recurses := true, named := ["internal/bytealg.MaxLen", "unicode/utf8.first", "unicode/utf8.acceptRanges"], apart := false, laid := [("unicode/utf8.acceptRanges", laid_unicode_utf8_acceptRanges), ("unicode/utf8.first", laid_unicode_utf8_first)] }
def AttrEachSaid : Prop := attrEachRow.holds Tryd.pinned (OpenSpec.ofChange attrEachSpec)

/-- ITS FALSE NEIGHBOUR: 'it returns false'. Refute it at one input. -/
def attrEachWrong : ChangeSpec := { name := "attrEach", fn := fun _ => fun
  | [d1, d2] => { results := [.lit (.bool false)], args := [d1, d2] }
  | _ => none }
def AttrEachWrongFalsely : Prop := attrEachRow.holds Tryd.pinned (OpenSpec.ofChange attrEachWrong)

/-- 'cartouchelaw.AttrCharset': WHATEVER THE INPUT: true; the input reads as it did. -/
def attrCharsetSpec : ChangeSpec := { name := "attrCharset", fn := fun _ => fun
  | [d1, d2, d3] => { results := [.lit (.bool true)], args := [d1, d2, d3] }
  | _ => none }
def attrCharsetRow : OpenClaim := { program := "ytbddfefcgfenfaadoor", sum := "d70bda1ad9bbfe2f2040f33aea2efcd74ce6df3d0aca4e8c34ef9d8e0918506e", func := "cartouche/cartouchelaw.AttrCharset", spec := "attrCharset", inPlace := ["internal/bytealg.IndexByteString", "internal/bytealg.IndexString"], unfollowed := true, recurses := true, named := ["internal/bytealg.MaxLen", "unicode/utf8.first", "unicode/utf8.acceptRanges"], apart := false, laid := [("unicode/utf8.acceptRanges", laid_unicode_utf8_acceptRanges), ("unicode/utf8.first", laid_unicode_utf8_first)] }
def AttrCharsetSaid : Prop := attrCharsetRow.holds Tryd.pinned (OpenSpec.ofChange attrCharsetSpec)

/-- ITS FALSE NEIGHBOUR: 'it returns false'. Refute it at one input. -/
def attrCharsetWrong : ChangeSpec := { name := "attrCharset", fn := fun _ => fun
  | [d1, d2, d3] => { results := [.lit (.bool false)], args := [d1, d2, d3] }
  | _ => none }
def AttrCharsetWrongFalsely : Prop := attrCharsetRow.holds Tryd.pinned (OpenSpec.ofChange attrCharsetWrong)

/-- 'cartouchelaw.ScanTells': WHATEVER THE INPUT: true; the input reads as it did. -/
def scanTellsSpec : ChangeSpec := { name := "scanTells", fn := fun _ => fun
  | [d1, d2] => { results := [.lit (.bool true)], args := [d1, d2] }
  | _ => none }
def scanTellsRow : OpenClaim := { program := "ytbddfefcgfenfaadoor", sum := "d70bda1ad9bbfe2f2040f33aea2efcd74ce6df3d0aca4e8c34ef9d8e0918506e", func := "cartouche/cartouchelaw.ScanTells", spec := "scanTells", inPlace := ["internal/bytealg.IndexByteString", "internal/bytealg.IndexString"], unfollowed := true, recurses := true, named := ["unicode/utf8.first", "unicode/utf8.acceptRanges", "internal/bytealg.MaxLen"], apart := false, laid := [("unicode/utf8.acceptRanges", laid_unicode_utf8_acceptRanges), ("unicode/utf8.first", laid_unicode_utf8_first)] }
def ScanTellsSaid : Prop := scanTellsRow.holds Tryd.pinned (OpenSpec.ofChange scanTellsSpec)

/-- ITS FALSE NEIGHBOUR: 'it returns false'. Refute it at one input. -/
def scanTellsWrong : ChangeSpec := { name := "scanTells", fn := fun _ => fun
  | [d1, d2] => { results := [.lit (.bool false)], args := [d1, d2] }
  | _ => none }
def ScanTellsWrongFalsely : Prop := scanTellsRow.holds Tryd.pinned (OpenSpec.ofChange scanTellsWrong)

/-- 'cartouchelaw.ScanFar': WHATEVER THE INPUT: true; the input reads as it did. -/
def scanFarSpec : ChangeSpec := { name := "scanFar", fn := fun _ => fun
  | [d1, d2] => { results := [.lit (.bool true)], args := [d1, d2] }
  | _ => none }
def scanFarRow : OpenClaim := { program := "ytbddfefcgfenfaadoor", sum := "d70bda1ad9bbfe2f2040f33aea2efcd74ce6df3d0aca4e8c34ef9d8e0918506e", func := "cartouche/cartouchelaw.ScanFar", spec := "scanFar", inPlace := ["internal/bytealg.IndexByteString", "internal/bytealg.IndexString"], unfollowed := true, recurses := true, named := ["internal/bytealg.MaxLen", "unicode/utf8.first", "unicode/utf8.acceptRanges"], apart := false, laid := [("unicode/utf8.acceptRanges", laid_unicode_utf8_acceptRanges), ("unicode/utf8.first", laid_unicode_utf8_first)] }
def ScanFarSaid : Prop := scanFarRow.holds Tryd.pinned (OpenSpec.ofChange scanFarSpec)

/-- ITS FALSE NEIGHBOUR: 'it returns false'. Refute it at one input. -/
def scanFarWrong : ChangeSpec := { name := "scanFar", fn := fun _ => fun
  | [d1, d2] => { results := [.lit (.bool false)], args := [d1, d2] }
  | _ => none }
def ScanFarWrongFalsely : Prop := scanFarRow.holds Tryd.pinned (OpenSpec.ofChange scanFarWrong)

/-- 'cartouchelaw.ScanPlain': WHATEVER THE INPUT: true; the input reads as it did. -/
def scanPlainSpec : ChangeSpec := { name := "scanPlain", fn := fun _ => fun
  | [d1, d2, d3] => { results := [.lit (.bool true)], args := [d1, d2, d3] }
  | _ => none }
def scanPlainRow : OpenClaim := { program := "ytbddfefcgfenfaadoor", sum := "d70bda1ad9bbfe2f2040f33aea2efcd74ce6df3d0aca4e8c34ef9d8e0918506e", func := "cartouche/cartouchelaw.ScanPlain", spec := "scanPlain", inPlace := ["internal/bytealg.IndexByteString", "internal/bytealg.IndexString"], unfollowed := true, recurses := true, named := ["internal/bytealg.MaxLen", "unicode/utf8.first", "unicode/utf8.acceptRanges"], apart := false, laid := [("unicode/utf8.acceptRanges", laid_unicode_utf8_acceptRanges), ("unicode/utf8.first", laid_unicode_utf8_first)] }
def ScanPlainSaid : Prop := scanPlainRow.holds Tryd.pinned (OpenSpec.ofChange scanPlainSpec)

/-- ITS FALSE NEIGHBOUR: 'it returns false'. Refute it at one input. -/
def scanPlainWrong : ChangeSpec := { name := "scanPlain", fn := fun _ => fun
  | [d1, d2, d3] => { results := [.lit (.bool false)], args := [d1, d2, d3] }
  | _ => none }
def ScanPlainWrongFalsely : Prop := scanPlainRow.holds Tryd.pinned (OpenSpec.ofChange scanPlainWrong)

/-- 'cartouchelaw.EncoderStrict': WHATEVER THE INPUT: true; the input reads as it did. -/
def encoderStrictSpec : ChangeSpec := { name := "encoderStrict", fn := fun _ => fun
  | [d1, d2] => { results := [.lit (.bool true)], args := [d1, d2] }
  | _ => none }
def encoderStrictRow : OpenClaim := { program := "ytbddfefcgfenfaadoor", sum := "d70bda1ad9bbfe2f2040f33aea2efcd74ce6df3d0aca4e8c34ef9d8e0918506e", func := "cartouche/cartouchelaw.EncoderStrict", spec := "encoderStrict", unfollowed := true, recurses := true, named := ["internal/strconv.uint64pow10", "math/bits.deBruijn32tab", "math/bits.deBruijn64tab"], apart := false, laid := [("math/bits.deBruijn32tab", laid_math_bits_deBruijn32tab), ("math/bits.deBruijn64tab", laid_math_bits_deBruijn64tab), ("internal/strconv.uint64pow10", laid_internal_strconv_uint64pow10)] }
def EncoderStrictSaid : Prop := encoderStrictRow.holds Tryd.pinned (OpenSpec.ofChange encoderStrictSpec)

/-- ITS FALSE NEIGHBOUR: 'it returns false'. Refute it at one input. -/
def encoderStrictWrong : ChangeSpec := { name := "encoderStrict", fn := fun _ => fun
  | [d1, d2] => { results := [.lit (.bool false)], args := [d1, d2] }
  | _ => none }
def EncoderStrictWrongFalsely : Prop := encoderStrictRow.holds Tryd.pinned (OpenSpec.ofChange encoderStrictWrong)

/- THE SECOND FORM. 'bulk': how many values and letters a reading holds, each counted each time it is reached (what is shared counts as often as it is met; a slice's spare places count too). A statement '..UptoSaid' is the law's where the arguments, and the package variables that the reading takes, are together of bulk at most 1048576: NARROWER than '..Said'. Prove '..Said' where nothing that the law and all that it calls make is longer than what came in: it says more and counts as full. Else prove '..UptoSaid'. A law counts once. -/
mutual
def uptoBulk {H : Type} : DataW H → Nat
  | .lit (.string bytes) => bytes.length + 1
  | .lit _ => 1
  | .nil => 1
  | .ptr d => uptoBulk d + 1
  | .slice elems spare => uptoBulkAll elems + uptoBulkAll spare + 1
  | .agg parts => uptoBulkAll parts + 1
  | .iface _ d => uptoBulk d + 1
  | .map entries => uptoBulkEntries entries + 1
  | .held _ => 1
def uptoBulkAll {H : Type} : List (DataW H) → Nat
  | [] => 0
  | d :: r => uptoBulk d + uptoBulkAll r
def uptoBulkEntries {H : Type} : List (Lit × DataW H) → Nat
  | [] => 0
  | x :: r => uptoBulkEntry x + uptoBulkEntries r
def uptoBulkEntry {H : Type} : Lit × DataW H → Nat
  | (.string bytes, d) => bytes.length + uptoBulk d + 1
  | (_, d) => uptoBulk d + 1
 end
def uptoSmall : (H : Type) → List (DataW H) → Bool := fun _ ds => decide (uptoBulkAll ds ≤ 1048576)
def OpenSpec.upto (s : _root_.Go.ChangeSpec) : _root_.Go.OpenSpec := { _root_.Go.OpenSpec.ofChange s with cond := some uptoSmall }

/-- 'cartouchelaw.LabelTells', WHERE WHAT IT READS IS OF BULK AT MOST 1048576: true; the input reads as it did. -/
def labelTellsUptoRow : OpenClaim := { program := "ytbddfefcgfenfaadoor", sum := "d70bda1ad9bbfe2f2040f33aea2efcd74ce6df3d0aca4e8c34ef9d8e0918506e", func := "cartouche/cartouchelaw.LabelTells", spec := "labelTells", inPlace := ["internal/bytealg.IndexByteString", "internal/bytealg.IndexString"], unfollowed := true, recurses := true, named := ["unicode/utf8.first", "unicode/utf8.acceptRanges", "internal/bytealg.MaxLen"], apart := false, laid := [("unicode/utf8.acceptRanges", laid_unicode_utf8_acceptRanges), ("unicode/utf8.first", laid_unicode_utf8_first)], narrowed := true }
def LabelTellsUptoSaid : Prop := labelTellsUptoRow.holds Tryd.pinned (OpenSpec.upto labelTellsSpec)

/-- 'cartouchelaw.LabelNames', WHERE WHAT IT READS IS OF BULK AT MOST 1048576: true; the input reads as it did. -/
def labelNamesUptoRow : OpenClaim := { program := "ytbddfefcgfenfaadoor", sum := "d70bda1ad9bbfe2f2040f33aea2efcd74ce6df3d0aca4e8c34ef9d8e0918506e", func := "cartouche/cartouchelaw.LabelNames", spec := "labelNames", inPlace := ["internal/bytealg.IndexByteString", "internal/bytealg.IndexString"], unfollowed := true, recurses := true, named := ["unicode/utf8.first", "unicode/utf8.acceptRanges", "internal/bytealg.MaxLen"], apart := false, laid := [("unicode/utf8.acceptRanges", laid_unicode_utf8_acceptRanges), ("unicode/utf8.first", laid_unicode_utf8_first)], narrowed := true }
def LabelNamesUptoSaid : Prop := labelNamesUptoRow.holds Tryd.pinned (OpenSpec.upto labelNamesSpec)

/-- 'cartouchelaw.EncoderTells', WHERE WHAT IT READS IS OF BULK AT MOST 1048576: true; the input reads as it did. -/
def encoderTellsUptoRow : OpenClaim := { program := "ytbddfefcgfenfaadoor", sum := "d70bda1ad9bbfe2f2040f33aea2efcd74ce6df3d0aca4e8c34ef9d8e0918506e", func := "cartouche/cartouchelaw.EncoderTells", spec := "encoderTells", unfollowed := true, recurses := true, named := ["internal/strconv.uint64pow10", "math/bits.deBruijn32tab", "math/bits.deBruijn64tab"], apart := false, laid := [("math/bits.deBruijn32tab", laid_math_bits_deBruijn32tab), ("math/bits.deBruijn64tab", laid_math_bits_deBruijn64tab), ("internal/strconv.uint64pow10", laid_internal_strconv_uint64pow10)], narrowed := true }
def EncoderTellsUptoSaid : Prop := encoderTellsUptoRow.holds Tryd.pinned (OpenSpec.upto encoderTellsSpec)

/-- 'cartouchelaw.EncoderTold', WHERE WHAT IT READS IS OF BULK AT MOST 1048576: true; the input reads as it did. -/
def encoderToldUptoRow : OpenClaim := { program := "ytbddfefcgfenfaadoor", sum := "d70bda1ad9bbfe2f2040f33aea2efcd74ce6df3d0aca4e8c34ef9d8e0918506e", func := "cartouche/cartouchelaw.EncoderTold", spec := "encoderTold", unfollowed := true, recurses := true, named := ["internal/strconv.uint64pow10", "math/bits.deBruijn32tab", "math/bits.deBruijn64tab"], apart := false, laid := [("math/bits.deBruijn32tab", laid_math_bits_deBruijn32tab), ("math/bits.deBruijn64tab", laid_math_bits_deBruijn64tab), ("internal/strconv.uint64pow10", laid_internal_strconv_uint64pow10)], narrowed := true }
def EncoderToldUptoSaid : Prop := encoderToldUptoRow.holds Tryd.pinned (OpenSpec.upto encoderToldSpec)

/-- 'cartouchelaw.EncoderOut', WHERE WHAT IT READS IS OF BULK AT MOST 1048576: true; the input reads as it did. -/
def encoderOutUptoRow : OpenClaim := { program := "ytbddfefcgfenfaadoor", sum := "d70bda1ad9bbfe2f2040f33aea2efcd74ce6df3d0aca4e8c34ef9d8e0918506e", func := "cartouche/cartouchelaw.EncoderOut", spec := "encoderOut", unfollowed := true, recurses := true, named := ["internal/strconv.uint64pow10", "math/bits.deBruijn32tab", "math/bits.deBruijn64tab"], apart := false, laid := [("math/bits.deBruijn32tab", laid_math_bits_deBruijn32tab), ("math/bits.deBruijn64tab", laid_math_bits_deBruijn64tab), ("internal/strconv.uint64pow10", laid_internal_strconv_uint64pow10)], narrowed := true }
def EncoderOutUptoSaid : Prop := encoderOutUptoRow.holds Tryd.pinned (OpenSpec.upto encoderOutSpec)

/-- 'cartouchelaw.AttrTells', WHERE WHAT IT READS IS OF BULK AT MOST 1048576: true; the input reads as it did. -/
def attrTellsUptoRow : OpenClaim := { program := "ytbddfefcgfenfaadoor", sum := "d70bda1ad9bbfe2f2040f33aea2efcd74ce6df3d0aca4e8c34ef9d8e0918506e", func := "cartouche/cartouchelaw.AttrTells", spec := "attrTells", inPlace := ["internal/bytealg.IndexByteString", "internal/bytealg.IndexString"], unfollowed := true, recurses := true, named := ["internal/bytealg.MaxLen", "unicode/utf8.first", "unicode/utf8.acceptRanges"], apart := false, laid := [("unicode/utf8.acceptRanges", laid_unicode_utf8_acceptRanges), ("unicode/utf8.first", laid_unicode_utf8_first)], narrowed := true }
def AttrTellsUptoSaid : Prop := attrTellsUptoRow.holds Tryd.pinned (OpenSpec.upto attrTellsSpec)

/-- 'cartouchelaw.AttrPlain', WHERE WHAT IT READS IS OF BULK AT MOST 1048576: true; the input reads as it did. -/
def attrPlainUptoRow : OpenClaim := { program := "ytbddfefcgfenfaadoor", sum := "d70bda1ad9bbfe2f2040f33aea2efcd74ce6df3d0aca4e8c34ef9d8e0918506e", func := "cartouche/cartouchelaw.AttrPlain", spec := "attrPlain", inPlace := ["internal/bytealg.IndexByteString", "internal/bytealg.IndexString"], unfollowed := true, recurses := true, named := ["internal/bytealg.MaxLen", "unicode/utf8.first", "unicode/utf8.acceptRanges"], apart := false, laid := [("unicode/utf8.acceptRanges", laid_unicode_utf8_acceptRanges), ("unicode/utf8.first", laid_unicode_utf8_first)], narrowed := true }
def AttrPlainUptoSaid : Prop := attrPlainUptoRow.holds Tryd.pinned (OpenSpec.upto attrPlainSpec)

/-- 'cartouchelaw.AttrEach', WHERE WHAT IT READS IS OF BULK AT MOST 1048576: true; the input reads as it did. -/
def attrEachUptoRow : OpenClaim := { program := "ytbddfefcgfenfaadoor", sum := "d70bda1ad9bbfe2f2040f33aea2efcd74ce6df3d0aca4e8c34ef9d8e0918506e", func := "cartouche/cartouchelaw.AttrEach", spec := "attrEach", inPlace := ["internal/bytealg.IndexByteString", "internal/bytealg.IndexString"], unfollowed := true, recurses := true, named := ["internal/bytealg.MaxLen", "unicode/utf8.first", "unicode/utf8.acceptRanges"], apart := false, laid := [("unicode/utf8.acceptRanges", laid_unicode_utf8_acceptRanges), ("unicode/utf8.first", laid_unicode_utf8_first)], narrowed := true }
def AttrEachUptoSaid : Prop := attrEachUptoRow.holds Tryd.pinned (OpenSpec.upto attrEachSpec)

/-- 'cartouchelaw.AttrCharset', WHERE WHAT IT READS IS OF BULK AT MOST 1048576: true; the input reads as it did. -/
def attrCharsetUptoRow : OpenClaim := { program := "ytbddfefcgfenfaadoor", sum := "d70bda1ad9bbfe2f2040f33aea2efcd74ce6df3d0aca4e8c34ef9d8e0918506e", func := "cartouche/cartouchelaw.AttrCharset", spec := "attrCharset", inPlace := ["internal/bytealg.IndexByteString", "internal/bytealg.IndexString"], unfollowed := true, recurses := true, named := ["internal/bytealg.MaxLen", "unicode/utf8.first", "unicode/utf8.acceptRanges"], apart := false, laid := [("unicode/utf8.acceptRanges", laid_unicode_utf8_acceptRanges), ("unicode/utf8.first", laid_unicode_utf8_first)], narrowed := true }
def AttrCharsetUptoSaid : Prop := attrCharsetUptoRow.holds Tryd.pinned (OpenSpec.upto attrCharsetSpec)

/-- 'cartouchelaw.ScanTells', WHERE WHAT IT READS IS OF BULK AT MOST 1048576: true; the input reads as it did. -/
def scanTellsUptoRow : OpenClaim := { program := "ytbddfefcgfenfaadoor", sum := "d70bda1ad9bbfe2f2040f33aea2efcd74ce6df3d0aca4e8c34ef9d8e0918506e", func := "cartouche/cartouchelaw.ScanTells", spec := "scanTells", inPlace := ["internal/bytealg.IndexByteString", "internal/bytealg.IndexString"], unfollowed := true, recurses := true, named := ["unicode/utf8.first", "unicode/utf8.acceptRanges", "internal/bytealg.MaxLen"], apart := false, laid := [("unicode/utf8.acceptRanges", laid_unicode_utf8_acceptRanges), ("unicode/utf8.first", laid_unicode_utf8_first)], narrowed := true }
def ScanTellsUptoSaid : Prop := scanTellsUptoRow.holds Tryd.pinned (OpenSpec.upto scanTellsSpec)

/-- 'cartouchelaw.ScanFar', WHERE WHAT IT READS IS OF BULK AT MOST 1048576: true; the input reads as it did. -/
def scanFarUptoRow : OpenClaim := { program := "ytbddfefcgfenfaadoor", sum := "d70bda1ad9bbfe2f2040f33aea2efcd74ce6df3d0aca4e8c34ef9d8e0918506e", func := "cartouche/cartouchelaw.ScanFar", spec := "scanFar", inPlace := ["internal/bytealg.IndexByteString", "internal/bytealg.IndexString"], unfollowed := true, recurses := true, named := ["internal/bytealg.MaxLen", "unicode/utf8.first", "unicode/utf8.acceptRanges"], apart := false, laid := [("unicode/utf8.acceptRanges", laid_unicode_utf8_acceptRanges), ("unicode/utf8.first", laid_unicode_utf8_first)], narrowed := true }
def ScanFarUptoSaid : Prop := scanFarUptoRow.holds Tryd.pinned (OpenSpec.upto scanFarSpec)

/-- 'cartouchelaw.ScanPlain', WHERE WHAT IT READS IS OF BULK AT MOST 1048576: true; the input reads as it did. -/
def scanPlainUptoRow : OpenClaim := { program := "ytbddfefcgfenfaadoor", sum := "d70bda1ad9bbfe2f2040f33aea2efcd74ce6df3d0aca4e8c34ef9d8e0918506e", func := "cartouche/cartouchelaw.ScanPlain", spec := "scanPlain", inPlace := ["internal/bytealg.IndexByteString", "internal/bytealg.IndexString"], unfollowed := true, recurses := true, named := ["internal/bytealg.MaxLen", "unicode/utf8.first", "unicode/utf8.acceptRanges"], apart := false, laid := [("unicode/utf8.acceptRanges", laid_unicode_utf8_acceptRanges), ("unicode/utf8.first", laid_unicode_utf8_first)], narrowed := true }
def ScanPlainUptoSaid : Prop := scanPlainUptoRow.holds Tryd.pinned (OpenSpec.upto scanPlainSpec)

/-- 'cartouchelaw.EncoderStrict', WHERE WHAT IT READS IS OF BULK AT MOST 1048576: true; the input reads as it did. -/
def encoderStrictUptoRow : OpenClaim := { program := "ytbddfefcgfenfaadoor", sum := "d70bda1ad9bbfe2f2040f33aea2efcd74ce6df3d0aca4e8c34ef9d8e0918506e", func := "cartouche/cartouchelaw.EncoderStrict", spec := "encoderStrict", unfollowed := true, recurses := true, named := ["internal/strconv.uint64pow10", "math/bits.deBruijn32tab", "math/bits.deBruijn64tab"], apart := false, laid := [("math/bits.deBruijn32tab", laid_math_bits_deBruijn32tab), ("math/bits.deBruijn64tab", laid_math_bits_deBruijn64tab), ("internal/strconv.uint64pow10", laid_internal_strconv_uint64pow10)], narrowed := true }
def EncoderStrictUptoSaid : Prop := encoderStrictUptoRow.holds Tryd.pinned (OpenSpec.upto encoderStrictSpec)

end Rows
end Go.Proofs.YtbddfefcgfenfaaDoor

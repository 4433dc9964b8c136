/-
  The laws on attributes: attrBegun, AttrEach.
-/
import Derived.Test.YthaoohckgilahaaDoorAttr5
import Derived.Test.YthaoohckgilahaaDoorRAttr2
namespace Go.Proofs.YthaoohckgilahaaDoor
open Go.RowKit
set_option maxRecDepth 1000000

theorem begun_next : M.nextA ((⟨#[47, 32, 65, 32, 61, 32, 39, 66, 32, 99, 39, 32, 100, 62]⟩ : ByteArray).data.toList.drop 0) = (some ([97], [98, 32, 99]), [32, 100, 62]) := by decide +kernel
theorem begun_all : M.attrsA ((⟨#[97, 61, 49, 32, 98, 62]⟩ : ByteArray).data.toList.drop 0) = ([([97], [49]), ([98], [])], [62]) := by decide +kernel
theorem begun_charset : M.charE (⟨#[116, 101, 120, 116, 47, 104, 116, 109, 108, 59, 32, 67, 104, 97, 114, 115, 101, 116, 32, 61, 32, 34, 108, 97, 116, 105, 110, 49, 34]⟩ : ByteArray).data.toList = (4, 0) := by decide +kernel
theorem attrLit (w : World) (p q : List UInt8 × List UInt8) : AttrSl (w.alloc (.cells #[.string ⟨p.1.toArray⟩, .string ⟨p.2.toArray⟩, .string ⟨q.1.toArray⟩, .string ⟨q.2.toArray⟩] 23)) (.slice (some ⟨w.heap.size, 0, none⟩) 2 2) [p, q] := by
  refine ⟨some ⟨w.heap.size, 0, none⟩, 2, rfl, Nat.le_refl _, by unfold maxLen; omega, (fun h => by cases h), fun x hx => ⟨w.heap.size, 0, by injection hx with hx; exact hx.symm, fun i r hr => ?_⟩⟩
  match i, hr with
  | 0, hr => injection hr with hr; subst hr; exact ⟨by rw [World.cell?_alloc_new]; rfl, by rw [World.cell?_alloc_new]; rfl⟩
  | 1, hr => injection hr with hr; subst hr; exact ⟨by rw [World.cell?_alloc_new]; rfl, by rw [World.cell?_alloc_new]; rfl⟩
theorem attrBegun_any (w : World) (hL : Len w) : Calls Tryd.prog 15 #[] w fun e w' => e = .returned (.bool true) ∧ Bel w w' := by
  have h1 := nextOk_any ⟨#[47, 32, 65, 32, 61, 32, 39, 66, 32, 99, 39, 32, 100, 62]⟩ 0 (by decide) (by decide) _ _ begun_next (by decide)
  have h2 := allOk_any ⟨#[97, 61, 49, 32, 98, 62]⟩ 0 (by decide) (by decide) _ _ begun_all (by decide)
  have h3 := charset_to ⟨#[116, 101, 120, 116, 47, 104, 116, 109, 108, 59, 32, 67, 104, 97, 114, 115, 101, 116, 32, 61, 32, 34, 108, 97, 116, 105, 110, 49, 34]⟩ 4 0 begun_charset
  have H1 := Lib.hid h1
  have H2 := Lib.hid h2
  have H3 := Lib.hid h3
  clear h1 h2 h3
  go_enter Tryd.func15, Tryd.ntmps15
  go_wp2_with fail
  refine (H1.out _).mono ?_
  rintro e w1 ⟨rfl, b1⟩
  rw [show agA (some ([97], [98, 32, 99])) = .agg #[.string ⟨#[97]⟩, .string ⟨#[98, 32, 99]⟩] from rfl, show (some (([97], [98, 32, 99]) : List UInt8 × List UInt8)).isSome = true from rfl, show ((ByteArray.size ⟨#[47, 32, 65, 32, 61, 32, 39, 66, 32, 99, 39, 32, 100, 62]⟩ - List.length ([32, 100, 62] : List UInt8) : Nat) : Int) = 11 from rfl]
  go_wp2_with fail
  have hx := Box.new w1 23 [.string ⟨#[97]⟩, .string ⟨#[98, 32, 99]⟩]
  have b2 := b1.alloc (.cells #[.string ⟨#[97]⟩, .string ⟨#[98, 32, 99]⟩] 23)
  generalize (w1.alloc (.cells #[.string ⟨#[97]⟩, .string ⟨#[98, 32, 99]⟩] 23)) = w2 at *
  have hx : Box w2 w1.heap.size 23 [.string ⟨#[97]⟩, .string ⟨#[98, 32, 99]⟩] := hx
  refine (H2.out _).mono ?_
  rintro e w3 ⟨v, rfl, hown, b3⟩
  have hx := hx.bel b3
  have b4 := b2.trans b3
  have hsl := hown.sl
  rw [show ((ByteArray.size ⟨#[97, 61, 49, 32, 98, 62]⟩ - List.length ([62] : List UInt8) : Nat) : Int) = 5 from rfl]
  clear hown b3 b2 b1
  go_wp2_with fail
  refine (H3.out _ (hL.bel b4)).mono ?_
  rintro e w4 ⟨rfl, b5⟩
  have hx := hx.bel b5
  have hsl := hsl.bel b5
  have b6 := b4.trans b5
  have c0 := hx.cell 0 _ rfl
  have c1 := hx.cell 1 _ rfl
  clear b4 b5
  go_wp2_with (go_at_call 16; refine (sameAttrs_any v _ _ _ _ (hsl.bel ((Bel.refl w4).alloc _)) (attrLit w4 ([97], [49]) ([98], []))).mono ?_; rintro e w5 ⟨rfl, b7⟩)
  go_ret
  exact ⟨rfl, (b6.alloc _).trans b7⟩
end Go.Proofs.YthaoohckgilahaaDoor

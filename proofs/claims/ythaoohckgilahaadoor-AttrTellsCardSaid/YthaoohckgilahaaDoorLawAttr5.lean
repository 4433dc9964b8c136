/-
  The law AttrTells.
-/
import Derived.Test.YthaoohckgilahaaDoorLawAttr
import Derived.Test.YthaoohckgilahaaDoorRChar
import Derived.Test.YthaoohckgilahaaDoorLawKit
namespace Go.Proofs.YthaoohckgilahaaDoor
open Go.RowKit
set_option maxRecDepth 1000000

theorem nil_attrs (w : World) : AttrSl w (.slice none 0 0) [] :=
  ⟨none, 0, rfl, Nat.le_refl _, Nat.zero_le _, (fun _ => rfl), (fun x hx => by cases hx)⟩
set_option maxHeartbeats 16000000 in
theorem attrTellsTrue (s : ByteArray) (at_ : Int) (w : World) (_ : s.size ≤ reachBytes) (_hat : -9223372036854775808 ≤ at_ ∧ at_ ≤ 9223372036854775807) (hL : Len w) : Calls Tryd.prog 3 #[.string s, .int .i64 at_] w fun e w' => e = .returned (.bool true) ∧ Bel w w' := by
  rcases readyA_cases s at_ with ⟨h1, h2⟩ | ⟨h1, h2, h3⟩ | ⟨h1, h2, k, rfl, hk⟩
  · -- too long
    have H := Lib.hid h1
    have HC := Lib.hid (show M.charE s.data.toList = (0, 2) by rw [M.charE, if_pos (by rw [← Lib.size_eq]; exact h2)])
    have HL := Lib.hid (show M.long s.data.toList = 2 by rcases long_cases s with h9 | h9; exact h9.2; omega)
    clear h1
    go_enter Tryd.func3, Tryd.ntmps3
    go_wp2_with fail
    refine (nextBad_any s at_ 2 rfl H.out _).mono ?_
    rintro e w1 ⟨rfl, b1⟩
    rw [show agA none = .agg #[.string ⟨#[]⟩, .string ⟨#[]⟩] from rfl]
    go_wp2_with fail
    have hx := Box.new w1 23 [.string ⟨#[]⟩, .string ⟨#[]⟩]
    have b2 := b1.alloc (.cells #[.string ⟨#[]⟩, .string ⟨#[]⟩] 23)
    have hx : Box (w1.alloc (.cells #[.string ⟨#[]⟩, .string ⟨#[]⟩] 23)) w1.heap.size 23 [.string ⟨#[]⟩, .string ⟨#[]⟩] := hx
    generalize (w1.alloc (.cells #[.string ⟨#[]⟩, .string ⟨#[]⟩] 23)) = w2 at *
    generalize w1.heap.size = ga at *
    refine (allBad_any s at_ 2 rfl H.out _).mono ?_
    rintro e w3 ⟨rfl, b3⟩
    have hx := hx.bel b3
    have b4 := b2.trans b3
    clear b1 b2 b3
    go_wp2_with fail
    refine (charset_to s _ _ HC.out _ (hL.bel b4)).mono ?_
    rintro e w4 ⟨rfl, b5⟩
    have hx := hx.bel b5
    have b6 := b4.trans b5
    clear b4 b5
    go_wp2_with fail
    refine (long_to s _ HL.out _).mono ?_
    rintro e _ ⟨rfl, rfl⟩
    go_wp2_with fail
    have hy := Box.new w4 23 [.string ⟨#[]⟩, .string ⟨#[]⟩]
    have hb := (Bel.refl w4).alloc (.cells #[.string ⟨#[]⟩, .string ⟨#[]⟩] 23)
    have hy : Box (w4.alloc (.cells #[.string ⟨#[]⟩, .string ⟨#[]⟩] 23)) w4.heap.size 23 [.string ⟨#[]⟩, .string ⟨#[]⟩] := hy
    generalize (w4.alloc (.cells #[.string ⟨#[]⟩, .string ⟨#[]⟩] 23)) = w5 at *
    generalize w4.heap.size = gb at *
    refine (attrBegun_any _ (hL.bel (b6.trans hb))).mono ?_
    rintro e w6 ⟨rfl, b7⟩
    have hx := hx.bel (hb.trans b7)
    have hy := hy.bel b7
    have b8 := (b6.trans hb).trans b7
    have c0 := hx.cell 0 _ rfl
    have c1 := hx.cell 1 _ rfl
    have d0 := hy.cell 0 _ rfl
    have d1 := hy.cell 1 _ rfl
    clear hb b7 b6 hx hy
    go_wp2_with (go_at_call 16; refine (sameAttrs_any _ _ [] [] _ (nil_attrs _) (nil_attrs _)).mono ?_; rintro e w7 ⟨rfl, b9⟩; rw [show (([] : List (List UInt8 × List UInt8)) == []) = true from rfl])
    all_goals go_ret
    all_goals exact ⟨rfl, b8.trans b9⟩
  · rcases h3 with h3 | h3
    · skip
      have H := Lib.hid h1
      have HC := Lib.hid (show M.charE s.data.toList = (M.charA s.data.toList, 0) by rw [M.charE, if_neg (by rw [← Lib.size_eq]; omega)])
      have HL := Lib.hid (show M.long s.data.toList = 0 by rcases long_cases s with h9 | h9; omega; exact h9.2)
      clear h1
      go_enter Tryd.func3, Tryd.ntmps3
      go_wp2_with fail
      refine (nextBad_any s at_ 3 rfl H.out _).mono ?_
      rintro e w1 ⟨rfl, b1⟩
      rw [show agA none = .agg #[.string ⟨#[]⟩, .string ⟨#[]⟩] from rfl]
      go_wp2_with fail
      have hx := Box.new w1 23 [.string ⟨#[]⟩, .string ⟨#[]⟩]
      have b2 := b1.alloc (.cells #[.string ⟨#[]⟩, .string ⟨#[]⟩] 23)
      have hx : Box (w1.alloc (.cells #[.string ⟨#[]⟩, .string ⟨#[]⟩] 23)) w1.heap.size 23 [.string ⟨#[]⟩, .string ⟨#[]⟩] := hx
      generalize (w1.alloc (.cells #[.string ⟨#[]⟩, .string ⟨#[]⟩] 23)) = w2 at *
      generalize w1.heap.size = ga at *
      refine (allBad_any s at_ 3 rfl H.out _).mono ?_
      rintro e w3 ⟨rfl, b3⟩
      have hx := hx.bel b3
      have b4 := b2.trans b3
      clear b1 b2 b3
      go_wp2_with fail
      refine (charset_to s _ _ HC.out _ (hL.bel b4)).mono ?_
      rintro e w4 ⟨rfl, b5⟩
      have hx := hx.bel b5
      have b6 := b4.trans b5
      clear b4 b5
      go_wp2_with fail
      refine (long_to s _ HL.out _).mono ?_
      rintro e _ ⟨rfl, rfl⟩
      go_wp2_with fail
      have hy := Box.new w4 23 [.string ⟨#[]⟩, .string ⟨#[]⟩]
      have hb := (Bel.refl w4).alloc (.cells #[.string ⟨#[]⟩, .string ⟨#[]⟩] 23)
      have hy : Box (w4.alloc (.cells #[.string ⟨#[]⟩, .string ⟨#[]⟩] 23)) w4.heap.size 23 [.string ⟨#[]⟩, .string ⟨#[]⟩] := hy
      generalize (w4.alloc (.cells #[.string ⟨#[]⟩, .string ⟨#[]⟩] 23)) = w5 at *
      generalize w4.heap.size = gb at *
      refine (charsetOf_any s h2 _).mono ?_; rintro e w5' ⟨rfl, bq⟩; have hy := hy.bel bq; have hb := hb.trans bq; clear bq; go_wp2_with fail; refine (attrBegun_any _ (hL.bel (b6.trans hb))).mono ?_
      rintro e w6 ⟨rfl, b7⟩
      have hx := hx.bel (hb.trans b7)
      have hy := hy.bel b7
      have b8 := (b6.trans hb).trans b7
      have c0 := hx.cell 0 _ rfl
      have c1 := hx.cell 1 _ rfl
      have d0 := hy.cell 0 _ rfl
      have d1 := hy.cell 1 _ rfl
      clear hb b7 b6 hx hy
      go_wp2_with (go_at_call 16; refine (sameAttrs_any _ _ [] [] _ (nil_attrs _) (nil_attrs _)).mono ?_; rintro e w7 ⟨rfl, b9⟩; rw [show (([] : List (List UInt8 × List UInt8)) == []) = true from rfl])
      all_goals go_ret
      all_goals exact ⟨rfl, b8.trans b9⟩
    · have hn : ¬ at_ < 0 := by omega
      have H := Lib.hid h1
      have HC := Lib.hid (show M.charE s.data.toList = (M.charA s.data.toList, 0) by rw [M.charE, if_neg (by rw [← Lib.size_eq]; omega)])
      have HL := Lib.hid (show M.long s.data.toList = 0 by rcases long_cases s with h9 | h9; omega; exact h9.2)
      clear h1
      go_enter Tryd.func3, Tryd.ntmps3
      go_wp2_with fail
      refine (nextBad_any s at_ 3 rfl H.out _).mono ?_
      rintro e w1 ⟨rfl, b1⟩
      rw [show agA none = .agg #[.string ⟨#[]⟩, .string ⟨#[]⟩] from rfl]
      go_wp2_with fail
      have hx := Box.new w1 23 [.string ⟨#[]⟩, .string ⟨#[]⟩]
      have b2 := b1.alloc (.cells #[.string ⟨#[]⟩, .string ⟨#[]⟩] 23)
      have hx : Box (w1.alloc (.cells #[.string ⟨#[]⟩, .string ⟨#[]⟩] 23)) w1.heap.size 23 [.string ⟨#[]⟩, .string ⟨#[]⟩] := hx
      generalize (w1.alloc (.cells #[.string ⟨#[]⟩, .string ⟨#[]⟩] 23)) = w2 at *
      generalize w1.heap.size = ga at *
      refine (allBad_any s at_ 3 rfl H.out _).mono ?_
      rintro e w3 ⟨rfl, b3⟩
      have hx := hx.bel b3
      have b4 := b2.trans b3
      clear b1 b2 b3
      go_wp2_with fail
      refine (charset_to s _ _ HC.out _ (hL.bel b4)).mono ?_
      rintro e w4 ⟨rfl, b5⟩
      have hx := hx.bel b5
      have b6 := b4.trans b5
      clear b4 b5
      go_wp2_with fail
      refine (long_to s _ HL.out _).mono ?_
      rintro e _ ⟨rfl, rfl⟩
      go_wp2_with fail
      have hy := Box.new w4 23 [.string ⟨#[]⟩, .string ⟨#[]⟩]
      have hb := (Bel.refl w4).alloc (.cells #[.string ⟨#[]⟩, .string ⟨#[]⟩] 23)
      have hy : Box (w4.alloc (.cells #[.string ⟨#[]⟩, .string ⟨#[]⟩] 23)) w4.heap.size 23 [.string ⟨#[]⟩, .string ⟨#[]⟩] := hy
      generalize (w4.alloc (.cells #[.string ⟨#[]⟩, .string ⟨#[]⟩] 23)) = w5 at *
      generalize w4.heap.size = gb at *
      refine (charsetOf_any s h2 _).mono ?_; rintro e w5' ⟨rfl, bq⟩; have hy := hy.bel bq; have hb := hb.trans bq; clear bq; go_wp2_with fail; refine (attrBegun_any _ (hL.bel (b6.trans hb))).mono ?_
      rintro e w6 ⟨rfl, b7⟩
      have hx := hx.bel (hb.trans b7)
      have hy := hy.bel b7
      have b8 := (b6.trans hb).trans b7
      have c0 := hx.cell 0 _ rfl
      have c1 := hx.cell 1 _ rfl
      have d0 := hy.cell 0 _ rfl
      have d1 := hy.cell 1 _ rfl
      clear hb b7 b6 hx hy
      go_wp2_with (go_at_call 16; refine (sameAttrs_any _ _ [] [] _ (nil_attrs _) (nil_attrs _)).mono ?_; rintro e w7 ⟨rfl, b9⟩; rw [show (([] : List (List UInt8 × List UInt8)) == []) = true from rfl])
      all_goals go_ret
      all_goals exact ⟨rfl, b8.trans b9⟩
  · obtain ⟨o, r, hn⟩ : ∃ o r, M.nextA (s.data.toList.drop k) = (o, r) := ⟨_, _, rfl⟩
    obtain ⟨xs, r2, hA⟩ : ∃ xs r, M.attrsA (s.data.toList.drop k) = (xs, r) := ⟨_, _, rfl⟩
    have nx := nextOk_any s k hk h2 o r hn h1
    have rx := attrAt_any s k hk h2 o r hn
    have nall := allOk_any s k hk h2 xs r2 hA h1
    have rall := attrsAt_any s k hk h2 xs r2 hA
    obtain ⟨q1, q2, hq⟩ : ∃ q1 q2 : ByteArray, agA o = .agg #[.string q1, .string q2] := by cases o <;> exact ⟨_, _, rfl⟩
    rw [hq] at nx rx
    obtain ⟨n1, hn1⟩ : ∃ n1 : Nat, n1 = s.size - r.length := ⟨_, rfl⟩
    obtain ⟨n2, hn2⟩ : ∃ n2 : Nat, n2 = s.size - r2.length := ⟨_, rfl⟩
    obtain ⟨bo, hbo⟩ : ∃ bo : Bool, o.isSome = bo := ⟨_, rfl⟩
    rw [← hn1, hbo] at nx rx
    rw [← hn2] at nall rall
    have NX := Lib.hid nx
    have RX := Lib.hid rx
    have NALL := Lib.hid nall
    have RALL := Lib.hid rall
    have HC := Lib.hid (show M.charE s.data.toList = (M.charA s.data.toList, 0) by rw [M.charE, if_neg (by rw [← Lib.size_eq]; omega)])
    have HL := Lib.hid (show M.long s.data.toList = 0 by rcases long_cases s with h9 | h9; omega; exact h9.2)
    clear h1 nx rx nall rall hn hA hq hn1 hn2 hbo
    go_enter Tryd.func3, Tryd.ntmps3
    go_wp2_with fail
    refine (NX.out _).mono ?_
    rintro e w1 ⟨rfl, b1⟩
    go_wp2_with fail
    have hx := Box.new w1 23 [.string q1, .string q2]
    have b2 := b1.alloc (.cells #[.string q1, .string q2] 23)
    have hx : Box (w1.alloc (.cells #[.string q1, .string q2] 23)) w1.heap.size 23 [.string q1, .string q2] := hx
    generalize (w1.alloc (.cells #[.string q1, .string q2] 23)) = w2 at *
    generalize w1.heap.size = ga at *
    refine (NALL.out _).mono ?_
    rintro e w3 ⟨v, rfl, hown, b3⟩
    have hsl := hown.sl
    have hx := hx.bel b3
    have b4 := b2.trans b3
    clear b1 b2 b3 hown
    go_wp2_with fail
    refine (charset_to s _ _ HC.out _ (hL.bel b4)).mono ?_
    rintro e w4 ⟨rfl, b5⟩
    have hx := hx.bel b5
    have hsl := hsl.bel b5
    have b6 := b4.trans b5
    clear b4 b5
    go_wp2_with fail
    refine (long_to s _ HL.out _).mono ?_
    rintro e _ ⟨rfl, rfl⟩
    go_wp2_with fail
    have hy := Box.new w4 23 [.string ⟨#[]⟩, .string ⟨#[]⟩]
    have hb := (Bel.refl w4).alloc (.cells #[.string ⟨#[]⟩, .string ⟨#[]⟩] 23)
    have hy : Box (w4.alloc (.cells #[.string ⟨#[]⟩, .string ⟨#[]⟩] 23)) w4.heap.size 23 [.string ⟨#[]⟩, .string ⟨#[]⟩] := hy
    obtain ⟨gb, hgb⟩ : ∃ gb, w4.heap.size = gb := ⟨_, rfl⟩
    rw [hgb] at hy
    try rw [hgb]
    generalize (w4.alloc (.cells #[.string ⟨#[]⟩, .string ⟨#[]⟩] 23)) = w5 at *
    have HGB := Lib.hid hgb
    clear hgb
    refine (charsetOf_any s h2 _).mono ?_
    rintro e w5' ⟨rfl, bq⟩
    have hy := hy.bel bq
    have hb := hb.trans bq
    clear bq
    go_wp2_with fail
    refine (RX.out _).mono ?_
    rintro e w5'' ⟨rfl, bq⟩
    have hy := hy.bel bq
    have hb := hb.trans bq
    clear bq
    have y0 := hy.cell 0 _ rfl
    have y1 := hy.cell 1 _ rfl
    have f0 := hy.frozen 0
    have f1 := hy.frozen 1
    go_wp2_with fail
    have hy : Box ((w5''.setCell ⟨gb, 0, none⟩ (.string q1)).setCell ⟨gb, 1, none⟩ (.string q2)) gb 23 [.string q1, .string q2] := (hy.set 0 (.string q1)).set 1 (.string q2)
    have hb : Bel w4 ((w5''.setCell ⟨gb, 0, none⟩ (.string q1)).setCell ⟨gb, 1, none⟩ (.string q2)) := (hb.setCell (p := ⟨gb, 0, none⟩) (Nat.le_of_eq HGB.out) _).setCell (p := ⟨gb, 1, none⟩) (Nat.le_of_eq HGB.out) _
    generalize ((w5''.setCell ⟨gb, 0, none⟩ (.string q1)).setCell ⟨gb, 1, none⟩ (.string q2)) = w6 at *
    refine (RALL.out _).mono ?_
    rintro e w7 ⟨v2, rfl, hown2, bq⟩
    have hsl2 := hown2.sl
    have hy := hy.bel bq
    have hb := hb.trans bq
    clear bq hown2
    go_wp2_with fail
    refine (attrBegun_any _ (hL.bel (b6.trans hb))).mono ?_
    rintro e w8 ⟨rfl, bq⟩
    have hy := hy.bel bq
    have hb := hb.trans bq
    have hsl2 := hsl2.bel bq
    have hx := hx.bel hb
    have hsl := hsl.bel hb
    have c0 := hx.cell 0 _ rfl
    have c1 := hx.cell 1 _ rfl
    have d0 := hy.cell 0 _ rfl
    have d1 := hy.cell 1 _ rfl
    have b8 := b6.trans hb
    clear bq hb hx hy b6
    go_wp2_with (go_at_call 16; refine (sameAttrs_any _ _ xs xs _ hsl hsl2).mono ?_; rintro e w9 ⟨rfl, b9⟩; rw [beq_self_eq_true xs])
    all_goals go_ret
    all_goals exact ⟨rfl, b8.trans b9⟩
end Go.Proofs.YthaoohckgilahaaDoor

/-
  The law FrontAgain.
-/
import Derived.Test.YteingkjdemlhgaaGreatDoorG13
import Derived.Test.YteingkjdemlhgaaGreatDoorLawText
namespace Go.Proofs.YteingkjdemlhgaaGreatDoor
open Go.RowKit
set_option maxRecDepth 1000000
set_option maxHeartbeats 4000000

theorem feedW_sl (nm b : ByteArray) (xs : List Int) (hn : nm.size ≤ 3000) (hb : b.size ≤ 3000) (hx : (M.wholeM nm.data.toList b.data.toList).1 = xs) (w : World) (hL : Len w) :
    Calls Tryz.prog 13 #[.agg #[.string nm, .int .i64 0, .int .i64 0, .string ⟨#[]⟩, .int .i64 0, .string ⟨#[]⟩, .int .i64 0, .bool false, .bool false], .string b, .bool true] w fun e w' => ∃ A c, e = .returned (.tuple #[.slice A xs.length c, .agg #[.string nm, .int .i64 0, .int .i64 0, .string ⟨#[]⟩, .int .i64 0, .string ⟨#[]⟩, .int .i64 0, .bool false, .bool false], .int .i64 0]) ∧ Own w.heap.size 3 w' (.slice A xs.length c) (xs.map (Value.int .i64)) ∧ Bel w w' := by
  have h := M.feed_whole nm.data.toList b.data.toList (by rw [← Lib.size_eq]; exact hn) (by rw [← Lib.size_eq]; exact hb)
  rw [hx] at h
  have := feedF_sl nm 0 0 ⟨#[]⟩ 0 ⟨#[]⟩ 0 false false b true xs nm.data.toList 0 0 [] 0 [] 0 false false 0 h w hL
  rw [str_eq] at this
  exact this
theorem frontAgain_no (nm s t : ByteArray) (w : World) (hn : 3000 < nm.size) (htab : Tab w) (hL : Len w) : Calls Tryz.prog 3 #[.string nm, .string s, .string t] w fun e w' => e = .returned (.bool true) ∧ Bel w w' := by
  have HN := Lib.hid hn
  clear hn
  go_enter Tryz.func3, Tryz.ntmps3
  go_wp2_with fail
  refine (begin_no nm HN.out _).mono ?_
  rintro e w1 ⟨rfl, b1⟩
  go_wp2_with fail
  have hF := Box.new w1 25 [.string ⟨#[]⟩, .int .i64 0, .int .i64 0, .string ⟨#[]⟩, .int .i64 0, .string ⟨#[]⟩, .int .i64 0, .bool false, .bool false]
  have b1 := b1.alloc (.cells ([.string ⟨#[]⟩, .int .i64 0, .int .i64 0, .string ⟨#[]⟩, .int .i64 0, .string ⟨#[]⟩, .int .i64 0, .bool false, .bool false]).toArray 25)
  refine (frontBegun_any _ (hL.bel b1)).mono ?_
  rintro e w2 ⟨rfl, b2⟩
  have hF := hF.bel b2
  have b2 := b1.trans b2
  go_wp2_with fail
  refine (textBegun_any _ (hL.bel b2) (htab.bel b2)).mono ?_
  rintro e w3 ⟨rfl, b3⟩
  have hF := hF.bel b3
  have b3 := b2.trans b3
  have fc0 := hF.cell 0 _ rfl; have fc1 := hF.cell 1 _ rfl; have fc2 := hF.cell 2 _ rfl; have fc3 := hF.cell 3 _ rfl; have fc4 := hF.cell 4 _ rfl; have fc5 := hF.cell 5 _ rfl; have fc6 := hF.cell 6 _ rfl; have fc7 := hF.cell 7 _ rfl; have fc8 := hF.cell 8 _ rfl
  go_wp2_with fail
  go_ret
  exact ⟨by first | rfl | simp, b3⟩
theorem frontAgain_s (nm s t : ByteArray) (w : World) (HN : Hid (nm.size ≤ 3000)) (hs : 3000 < s.size) (htab : Tab w) (hL : Len w) : Calls Tryz.prog 3 #[.string nm, .string s, .string t] w fun e w' => e = .returned (.bool true) ∧ Bel w w' := by
  go_enter Tryz.func3, Tryz.ntmps3
  go_wp2_with fail
  refine (begin_yes nm HN.out _).mono ?_
  rintro e w1 ⟨rfl, b1⟩
  go_wp2_with fail
  have hF := Box.new w1 25 [.string nm, .int .i64 0, .int .i64 0, .string ⟨#[]⟩, .int .i64 0, .string ⟨#[]⟩, .int .i64 0, .bool false, .bool false]
  have b1 := b1.alloc (.cells ([.string nm, .int .i64 0, .int .i64 0, .string ⟨#[]⟩, .int .i64 0, .string ⟨#[]⟩, .int .i64 0, .bool false, .bool false]).toArray 25)
  refine (frontBegun_any _ (hL.bel b1)).mono ?_
  rintro e w2 ⟨rfl, b2⟩
  have hF := hF.bel b2
  have b2 := b1.trans b2
  go_wp2_with fail
  refine (textBegun_any _ (hL.bel b2) (htab.bel b2)).mono ?_
  rintro e w3 ⟨rfl, b3⟩
  have hF := hF.bel b3
  have b3 := b2.trans b3
  have fc0 := hF.cell 0 _ rfl; have fc1 := hF.cell 1 _ rfl; have fc2 := hF.cell 2 _ rfl; have fc3 := hF.cell 3 _ rfl; have fc4 := hF.cell 4 _ rfl; have fc5 := hF.cell 5 _ rfl; have fc6 := hF.cell 6 _ rfl; have fc7 := hF.cell 7 _ rfl; have fc8 := hF.cell 8 _ rfl
  go_wp2_with fail
  go_ret
  exact ⟨by first | rfl | simp, b3⟩
theorem frontAgain_t (nm s t : ByteArray) (w : World) (HN : Hid (nm.size ≤ 3000)) (hs : s.size ≤ 3000) (ht : 3000 < t.size) (htab : Tab w) (hL : Len w) : Calls Tryz.prog 3 #[.string nm, .string s, .string t] w fun e w' => e = .returned (.bool true) ∧ Bel w w' := by
  go_enter Tryz.func3, Tryz.ntmps3
  go_wp2_with fail
  refine (begin_yes nm HN.out _).mono ?_
  rintro e w1 ⟨rfl, b1⟩
  go_wp2_with fail
  have hF := Box.new w1 25 [.string nm, .int .i64 0, .int .i64 0, .string ⟨#[]⟩, .int .i64 0, .string ⟨#[]⟩, .int .i64 0, .bool false, .bool false]
  have b1 := b1.alloc (.cells ([.string nm, .int .i64 0, .int .i64 0, .string ⟨#[]⟩, .int .i64 0, .string ⟨#[]⟩, .int .i64 0, .bool false, .bool false]).toArray 25)
  refine (frontBegun_any _ (hL.bel b1)).mono ?_
  rintro e w2 ⟨rfl, b2⟩
  have hF := hF.bel b2
  have b2 := b1.trans b2
  go_wp2_with fail
  refine (textBegun_any _ (hL.bel b2) (htab.bel b2)).mono ?_
  rintro e w3 ⟨rfl, b3⟩
  have hF := hF.bel b3
  have b3 := b2.trans b3
  have fc0 := hF.cell 0 _ rfl; have fc1 := hF.cell 1 _ rfl; have fc2 := hF.cell 2 _ rfl; have fc3 := hF.cell 3 _ rfl; have fc4 := hF.cell 4 _ rfl; have fc5 := hF.cell 5 _ rfl; have fc6 := hF.cell 6 _ rfl; have fc7 := hF.cell 7 _ rfl; have fc8 := hF.cell 8 _ rfl
  go_wp2_with fail
  go_ret
  exact ⟨by first | rfl | simp, b3⟩
theorem frontAgain_yes (nm s t : ByteArray) (w : World) (HN : Hid (nm.size ≤ 3000)) (hs : s.size ≤ 3000) (ht : t.size ≤ 3000) (htab : Tab w) (hL : Len w) (xs ys : List Int) (n1 y1 n2 y2 : Int) (HX : Hid (M.wholeM nm.data.toList s.data.toList = (xs, n1, y1))) (HY : Hid (M.wholeM nm.data.toList t.data.toList = (ys, n2, y2)))
    (HC : Hid (M.decT nm.data.toList s.data.toList = (xs, n1, y1, 0))) (HD : Hid (M.decT nm.data.toList t.data.toList = (ys, n2, y2, 0))) : Calls Tryz.prog 3 #[.string nm, .string s, .string t] w fun e w' => e = .returned (.bool true) ∧ Bel w w' := by
  go_enter Tryz.func3, Tryz.ntmps3
  go_wp2_with fail
  refine (begin_yes nm HN.out _).mono ?_
  rintro e w1 ⟨rfl, b1⟩
  go_wp2_with fail
  have hF := Box.new w1 25 [.string nm, .int .i64 0, .int .i64 0, .string ⟨#[]⟩, .int .i64 0, .string ⟨#[]⟩, .int .i64 0, .bool false, .bool false]
  have b1 := b1.alloc (.cells ([.string nm, .int .i64 0, .int .i64 0, .string ⟨#[]⟩, .int .i64 0, .string ⟨#[]⟩, .int .i64 0, .bool false, .bool false]).toArray 25)
  refine (frontBegun_any _ (hL.bel b1)).mono ?_
  rintro e w2 ⟨rfl, b2⟩
  have hF := hF.bel b2
  have b2 := b1.trans b2
  go_wp2_with fail
  refine (textBegun_any _ (hL.bel b2) (htab.bel b2)).mono ?_
  rintro e w3 ⟨rfl, b3⟩
  have hF := hF.bel b3
  have b3 := b2.trans b3
  have fc0 := hF.cell 0 _ rfl; have fc1 := hF.cell 1 _ rfl; have fc2 := hF.cell 2 _ rfl; have fc3 := hF.cell 3 _ rfl; have fc4 := hF.cell 4 _ rfl; have fc5 := hF.cell 5 _ rfl; have fc6 := hF.cell 6 _ rfl; have fc7 := hF.cell 7 _ rfl; have fc8 := hF.cell 8 _ rfl
  go_wp2_with fail
  refine (feedW_sl nm s xs HN.out hs (by rw [HX.out]) _ (hL.bel b3)).mono ?_
  rintro e w4 ⟨A4, c4, rfl, o4, b4⟩
  have q4 := b4.alloc (.cells #[.string nm, .int .i64 0, .int .i64 0, .string ⟨#[]⟩, .int .i64 0, .string ⟨#[]⟩, .int .i64 0, .bool false, .bool false] 25)
  have hF := hF.bel q4
  have hX := Box.new w4 25 [.string nm, .int .i64 0, .int .i64 0, .string ⟨#[]⟩, .int .i64 0, .string ⟨#[]⟩, .int .i64 0, .bool false, .bool false]
  have i4 := o4.ints.bel ((Bel.refl w4).alloc (.cells #[.string nm, .int .i64 0, .int .i64 0, .string ⟨#[]⟩, .int .i64 0, .string ⟨#[]⟩, .int .i64 0, .bool false, .bool false] 25))
  have hb := b3.trans q4
  clear o4 b4 q4 b3 b2 b1
  have hFl := hF.lt
  have fc0 := hF.cell 0 _ rfl; have fc1 := hF.cell 1 _ rfl; have fc2 := hF.cell 2 _ rfl; have fc3 := hF.cell 3 _ rfl; have fc4 := hF.cell 4 _ rfl; have fc5 := hF.cell 5 _ rfl; have fc6 := hF.cell 6 _ rfl; have fc7 := hF.cell 7 _ rfl; have fc8 := hF.cell 8 _ rfl
  have xc0 := hX.cell 0 _ rfl; have xc1 := hX.cell 1 _ rfl; have xc2 := hX.cell 2 _ rfl; have xc3 := hX.cell 3 _ rfl; have xc4 := hX.cell 4 _ rfl; have xc5 := hX.cell 5 _ rfl; have xc6 := hX.cell 6 _ rfl; have xc7 := hX.cell 7 _ rfl; have xc8 := hX.cell 8 _ rfl
  go_wp2_with fail
  refine (feedW_sl nm t ys HN.out ht (by rw [HY.out]) _ (hL.bel hb)).mono ?_
  rintro e w5 ⟨A5, c5, rfl, o5, b5⟩
  have q5 := b5.alloc (.cells #[.string nm, .int .i64 0, .int .i64 0, .string ⟨#[]⟩, .int .i64 0, .string ⟨#[]⟩, .int .i64 0, .bool false, .bool false] 25)
  have hF := hF.bel q5
  have hX := hX.bel q5
  have hY := Box.new w5 25 [.string nm, .int .i64 0, .int .i64 0, .string ⟨#[]⟩, .int .i64 0, .string ⟨#[]⟩, .int .i64 0, .bool false, .bool false]
  have i4 := i4.bel q5
  have i5 := o5.ints.bel ((Bel.refl w5).alloc (.cells #[.string nm, .int .i64 0, .int .i64 0, .string ⟨#[]⟩, .int .i64 0, .string ⟨#[]⟩, .int .i64 0, .bool false, .bool false] 25))
  have hb := hb.trans q5
  clear o5 b5 q5
  have hFl := hF.lt
  have hXl := hX.lt
  have fc0 := hF.cell 0 _ rfl; have fc1 := hF.cell 1 _ rfl; have fc2 := hF.cell 2 _ rfl; have fc3 := hF.cell 3 _ rfl; have fc4 := hF.cell 4 _ rfl; have fc5 := hF.cell 5 _ rfl; have fc6 := hF.cell 6 _ rfl; have fc7 := hF.cell 7 _ rfl; have fc8 := hF.cell 8 _ rfl
  have xc0 := hX.cell 0 _ rfl; have xc1 := hX.cell 1 _ rfl; have xc2 := hX.cell 2 _ rfl; have xc3 := hX.cell 3 _ rfl; have xc4 := hX.cell 4 _ rfl; have xc5 := hX.cell 5 _ rfl; have xc6 := hX.cell 6 _ rfl; have xc7 := hX.cell 7 _ rfl; have xc8 := hX.cell 8 _ rfl
  have yc0 := hY.cell 0 _ rfl; have yc1 := hY.cell 1 _ rfl; have yc2 := hY.cell 2 _ rfl; have yc3 := hY.cell 3 _ rfl; have yc4 := hY.cell 4 _ rfl; have yc5 := hY.cell 5 _ rfl; have yc6 := hY.cell 6 _ rfl; have yc7 := hY.cell 7 _ rfl; have yc8 := hY.cell 8 _ rfl
  go_wp2_with fail
  refine (feedW_sl nm ⟨#[]⟩ [] HN.out (by decide) (M.whole_nil _) _ (hL.bel hb)).mono ?_
  rintro e w6 ⟨A6, c6, rfl, o6, b6⟩
  have q6 := b6.alloc (.cells #[.string nm, .int .i64 0, .int .i64 0, .string ⟨#[]⟩, .int .i64 0, .string ⟨#[]⟩, .int .i64 0, .bool false, .bool false] 25)
  have hF := hF.bel q6
  have hX := hX.bel q6
  have hY := hY.bel q6
  have hZ := Box.new w6 25 [.string nm, .int .i64 0, .int .i64 0, .string ⟨#[]⟩, .int .i64 0, .string ⟨#[]⟩, .int .i64 0, .bool false, .bool false]
  have i4 := i4.bel q6
  have i5 := i5.bel q6
  have hb := hb.trans q6
  clear o6 b6 q6
  go_wp2_with fail
  refine (decodeT_sl nm s _ _ _ _ HC.out _ (hL.bel hb)).mono ?_
  rintro e w7 ⟨A7, c7, rfl, o7, b7⟩
  have hF := hF.bel b7
  have hX := hX.bel b7
  have hY := hY.bel b7
  have hZ := hZ.bel b7
  have i4 := i4.bel b7
  have i5 := i5.bel b7
  have i7 := o7.ints
  have hb := hb.trans b7
  clear o7 b7
  go_wp2_with fail
  refine (decodeT_sl nm t _ _ _ _ HD.out _ (hL.bel hb)).mono ?_
  rintro e w8 ⟨A8, c8, rfl, o8, b8⟩
  have hF := hF.bel b8
  have hX := hX.bel b8
  have hY := hY.bel b8
  have hZ := hZ.bel b8
  have i4 := i4.bel b8
  have i5 := i5.bel b8
  have i7 := i7.bel b8
  have i8 := o8.ints
  have hb := hb.trans b8
  clear o8 b8
  have hFl := hF.lt
  have hXl := hX.lt
  have hYl := hY.lt
  have hZl := hZ.lt
  have fc0 := hF.cell 0 _ rfl; have fc1 := hF.cell 1 _ rfl; have fc2 := hF.cell 2 _ rfl; have fc3 := hF.cell 3 _ rfl; have fc4 := hF.cell 4 _ rfl; have fc5 := hF.cell 5 _ rfl; have fc6 := hF.cell 6 _ rfl; have fc7 := hF.cell 7 _ rfl; have fc8 := hF.cell 8 _ rfl
  have xc0 := hX.cell 0 _ rfl; have xc1 := hX.cell 1 _ rfl; have xc2 := hX.cell 2 _ rfl; have xc3 := hX.cell 3 _ rfl; have xc4 := hX.cell 4 _ rfl; have xc5 := hX.cell 5 _ rfl; have xc6 := hX.cell 6 _ rfl; have xc7 := hX.cell 7 _ rfl; have xc8 := hX.cell 8 _ rfl
  have yc0 := hY.cell 0 _ rfl; have yc1 := hY.cell 1 _ rfl; have yc2 := hY.cell 2 _ rfl; have yc3 := hY.cell 3 _ rfl; have yc4 := hY.cell 4 _ rfl; have yc5 := hY.cell 5 _ rfl; have yc6 := hY.cell 6 _ rfl; have yc7 := hY.cell 7 _ rfl; have yc8 := hY.cell 8 _ rfl
  have zc0 := hZ.cell 0 _ rfl; have zc1 := hZ.cell 1 _ rfl; have zc2 := hZ.cell 2 _ rfl; have zc3 := hZ.cell 3 _ rfl; have zc4 := hZ.cell 4 _ rfl; have zc5 := hZ.cell 5 _ rfl; have zc6 := hZ.cell 6 _ rfl; have zc7 := hZ.cell 7 _ rfl; have zc8 := hZ.cell 8 _ rfl
  go_wp2_with fail
  refine (sameInts_yes _ _ _ _ _ i4 i7 rfl).mono ?_
  rintro e w9 ⟨rfl, b9⟩
  go_wp2_with fail
  refine (sameInts_yes _ _ _ _ _ (i5.bel b9) (i8.bel b9) rfl).mono ?_
  rintro e w10 ⟨rfl, b10⟩
  go_wp2_with fail
  go_ret
  exact ⟨by first | rfl | simp, hb.trans (b9.trans b10)⟩
theorem frontAgainTrue (nm s t : ByteArray) (w : World) (_ : nm.size ≤ reachBytes) (_ : s.size ≤ reachBytes) (_ : t.size ≤ reachBytes) (htab : Tab w) (hL : Len w) : Calls Tryz.prog 3 #[.string nm, .string s, .string t] w fun e w' => e = .returned (.bool true) ∧ Bel w w' := by
  by_cases hn : 3000 < nm.size
  · exact frontAgain_no nm s t w hn htab hL
  · by_cases hs : 3000 < s.size
    · exact frontAgain_s nm s t w (Lib.hid (by omega)) hs htab hL
    · by_cases ht : 3000 < t.size
      · exact frontAgain_t nm s t w (Lib.hid (by omega)) (by omega) ht htab hL
      · obtain ⟨xs, n1, y1, hx⟩ : ∃ xs n y, M.wholeM nm.data.toList s.data.toList = (xs, n, y) := ⟨_, _, _, rfl⟩
        obtain ⟨ys, n2, y2, hy⟩ : ∃ xs n y, M.wholeM nm.data.toList t.data.toList = (xs, n, y) := ⟨_, _, _, rfl⟩
        exact frontAgain_yes nm s t w (Lib.hid (by omega)) (by omega) (by omega) htab hL xs ys n1 y1 n2 y2 (Lib.hid hx) (Lib.hid hy) (Lib.hid (by rw [M.decT, ← Lib.size_eq, ← Lib.size_eq, if_neg (by omega), hx])) (Lib.hid (by rw [M.decT, ← Lib.size_eq, ← Lib.size_eq, if_neg (by omega), hy]))
end Go.Proofs.YteingkjdemlhgaaGreatDoor

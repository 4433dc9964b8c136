/-
  The law FrontPieces. (Printed by genpieces.py.)
-/
import Derived.Test.YteingkjdemlhgaaGreatDoorG13
import Derived.Test.YteingkjdemlhgaaGreatDoorLawText
import Derived.Test.YteingkjdemlhgaaGreatDoorG2
import Derived.Deep.Cut
import Derived.Deep.CutRange
namespace Go.Proofs.YteingkjdemlhgaaGreatDoor
open Go.RowKit
set_option maxRecDepth 1000000

theorem threeF (s : ByteArray) (i j : Nat) : s.data.toList = (s.extract 0 i).data.toList ++ (s.extract i (i + j)).data.toList ++ (s.extract (i + j) s.size).data.toList := by
  rw [List.append_assoc, Lib.extract_data, Lib.extract_data, drop_str, List.drop_zero, Nat.sub_zero, Nat.add_sub_cancel_left]
  conv => lhs; rw [← List.take_append_drop i s.data.toList]
  congr 1
  conv => lhs; rw [← List.take_append_drop j (s.data.toList.drop i)]
  rw [List.drop_drop]
theorem pieceF (s : ByteArray) (i j : Nat) (h : s.size ≤ 3000) : (s.extract i j).data.toList.length ≤ 3000 := by
  rw [Lib.extract_data]
  have h2 : (s.data.toList.drop i).length ≤ s.data.toList.length := by rw [List.length_drop]; omega
  have h3 := List.length_take_le' (j - i) (s.data.toList.drop i)
  rw [← Lib.size_eq] at h2
  omega
theorem way_form (nm a : List UInt8) : ∃ en wy wt se rs sg fr st, M.onWay nm a = ⟨nm, en, wy, wt, ⟨se, rs, sg, fr, st⟩⟩ := by
  unfold M.onWay
  split
  · exact ⟨_, _, _, _, _, _, _, _, rfl⟩
  · obtain ⟨⟨e1, r1, g1, f1, p1⟩, h⟩ : ∃ d, (M.rawM (M.opn (M.chosen nm a).1) (a.drop (M.chosen nm a).2.2.toNat) false).2 = d := ⟨_, rfl⟩
    rw [h]
    exact ⟨_, _, _, _, _, _, _, _, rfl⟩
theorem feedV_sl (nm : ByteArray) (en wy : Int) (wt : List UInt8) (se : Int) (rs : List UInt8) (sg : Int) (fr st : Bool) (b : ByteArray) (last : Bool) (xs : List Int) (en2 wy2 : Int) (wt2 : List UInt8) (se2 : Int) (rs2 : List UInt8) (sg2 : Int) (fr2 st2 : Bool)
    (hf : M.feedFE ⟨nm.data.toList, en, wy, wt, ⟨se, rs, sg, fr, st⟩⟩ b.data.toList last = (xs, ⟨nm.data.toList, en2, wy2, wt2, ⟨se2, rs2, sg2, fr2, st2⟩⟩, 0)) (w : World) (hL : Len w) :
    Calls Tryz.prog 13 #[.agg #[.string nm, .int .i64 en, .int .i64 wy, .string ⟨wt.toArray⟩, .int .i64 se, .string ⟨rs.toArray⟩, .int .i64 sg, .bool fr, .bool st], .string b, .bool last] w fun e w' => ∃ A c, e = .returned (.tuple #[.slice A xs.length c, .agg #[.string nm, .int .i64 en2, .int .i64 wy2, .string ⟨wt2.toArray⟩, .int .i64 se2, .string ⟨rs2.toArray⟩, .int .i64 sg2, .bool fr2, .bool st2], .int .i64 0]) ∧ Own w.heap.size 3 w' (.slice A xs.length c) (xs.map (Value.int .i64)) ∧ Bel w w' := by
  have := feedF_sl nm en wy ⟨wt.toArray⟩ se ⟨rs.toArray⟩ sg fr st b last xs nm.data.toList en2 wy2 wt2 se2 rs2 sg2 fr2 st2 0 hf w hL
  rw [str_eq] at this
  exact this
/-- What three pieces say, in plain terms. -/
theorem piecesF (nm a b c : List UInt8) (hn : nm.length ≤ 3000) (ht : (a ++ b ++ c).length ≤ 3000) (n y : Int) (xs : List Int) (hw : M.wholeM nm (a ++ b ++ c) = (xs, n, y)) :
    ∃ X1 X2 X3 en1 wy1 wt1 se1 rs1 sg1 fr1 st1 en2 wy2 wt2 se2 rs2 sg2 fr2 st2, M.feedFE ⟨nm, 0, 0, [], ⟨0, [], 0, false, false⟩⟩ a false = (X1, ⟨nm, en1, wy1, wt1, ⟨se1, rs1, sg1, fr1, st1⟩⟩, 0) ∧
      M.feedFE ⟨nm, en1, wy1, wt1, ⟨se1, rs1, sg1, fr1, st1⟩⟩ b false = (X2, ⟨nm, en2, wy2, wt2, ⟨se2, rs2, sg2, fr2, st2⟩⟩, 0) ∧ M.feedFE ⟨nm, en2, wy2, wt2, ⟨se2, rs2, sg2, fr2, st2⟩⟩ c true = (X3, ⟨nm, 0, 0, [], ⟨0, [], 0, false, false⟩⟩, 0) ∧
      xs = X1 ++ X2 ++ X3 ∧ M.checkF ⟨nm, en1, wy1, wt1, ⟨se1, rs1, sg1, fr1, st1⟩⟩ = 0 ∧ M.checkF ⟨nm, en2, wy2, wt2, ⟨se2, rs2, sg2, fr2, st2⟩⟩ = 0 ∧ (wy1 = 0 ∨ (wy1 = y ∧ en1 = n)) ∧ (wy2 = 0 ∨ (wy2 = y ∧ en2 = n)) := by
  have la : a.length ≤ 3000 := by simp only [List.length_append] at ht; omega
  have lb : b.length ≤ 3000 := by simp only [List.length_append] at ht; omega
  have lc : c.length ≤ 3000 := by simp only [List.length_append] at ht; omega
  have lab : (a ++ b).length ≤ 3000 := by simp only [List.length_append] at ht ⊢; omega
  have q1 := M.feed_way nm [] a hn (Nat.zero_le _) la
  have q2 := M.feed_way nm a b hn la lb
  have q3 := M.feed_last nm (a ++ b) c hn lab lc
  have q4 := M.feed_pieces nm a b c
  have k1 := M.check_way nm a hn la
  have k2 := M.check_way nm (a ++ b) hn lab
  have y1 := M.way_why nm a (b ++ c)
  have y2 := M.way_why nm (a ++ b) c
  rw [← List.append_assoc] at y1
  have hy : (M.chosen nm (a ++ b ++ c)).2.1 = y ∧ (M.chosen nm (a ++ b ++ c)).1 = n := by
    unfold M.wholeM at hw
    simp only [Prod.mk.injEq] at hw
    exact ⟨hw.2.2, hw.2.1⟩
  rw [hy.1, hy.2] at y1 y2
  rw [hw] at q4
  rw [M.onWay_nil] at q1 q4
  rw [List.nil_append] at q1
  obtain ⟨en1, wy1, wt1, se1, rs1, sg1, fr1, st1, e1⟩ := way_form nm a
  obtain ⟨en2, wy2, wt2, se2, rs2, sg2, fr2, st2, e2⟩ := way_form nm (a ++ b)
  rw [e1] at q1 q2 q4 k1 y1
  rw [e2] at q2 q3 q4 k2 y2
  exact ⟨_, _, _, en1, wy1, wt1, se1, rs1, sg1, fr1, st1, en2, wy2, wt2, se2, rs2, sg2, fr2, st2, q1, q2, q3, q4.symm, k1, k2, y1, y2⟩
set_option maxHeartbeats 4000000 in
theorem pieces_bad (nm s : ByteArray) (cut more : Int) (w : World) (htab : Tab w) (hL : Len w) (HD : Hid (M.decT nm.data.toList s.data.toList = ([], 0, 0, 2))) : Calls Tryz.prog 9 #[.string nm, .string s, .int .i64 cut, .int .i64 more] w fun e w' => e = .returned (.bool true) ∧ Bel w w' := by
  go_enter Tryz.func9, Tryz.ntmps9
  go_wp2_with fail
  refine (frontBegun_any _ hL).mono ?_
  rintro e w1 ⟨rfl, b1⟩
  go_wp2_with fail
  refine (textBegun_any _ (hL.bel b1) (htab.bel b1)).mono ?_
  rintro e w2 ⟨rfl, b2⟩
  have b2 := b1.trans b2
  go_wp2_with fail
  refine (decodeT_sl nm s _ _ _ _ HD.out _ (hL.bel b2)).mono ?_
  rintro e w3 ⟨A1, c1, rfl, o1, b3⟩
  have hb3 := b2.trans b3
  go_wp2_with fail
  go_ret
  exact ⟨by first | rfl | simp, hb3⟩
set_option maxHeartbeats 4000000 in
theorem pieces_c0 (nm s : ByteArray) (cut more : Int) (w : World) (htab : Tab w) (hL : Len w) (xs : List Int) (n y : Int) (HD : Hid (M.decT nm.data.toList s.data.toList = (xs, n, y, 0))) (h1 : cut < 0) : Calls Tryz.prog 9 #[.string nm, .string s, .int .i64 cut, .int .i64 more] w fun e w' => e = .returned (.bool true) ∧ Bel w w' := by
  go_enter Tryz.func9, Tryz.ntmps9
  go_wp2_with fail
  refine (frontBegun_any _ hL).mono ?_
  rintro e w1 ⟨rfl, b1⟩
  go_wp2_with fail
  refine (textBegun_any _ (hL.bel b1) (htab.bel b1)).mono ?_
  rintro e w2 ⟨rfl, b2⟩
  have b2 := b1.trans b2
  go_wp2_with fail
  refine (decodeT_sl nm s _ _ _ _ HD.out _ (hL.bel b2)).mono ?_
  rintro e w3 ⟨A1, c1, rfl, o1, b3⟩
  have hb3 := b2.trans b3
  go_wp2_with fail
  go_ret
  exact ⟨by first | rfl | simp, hb3⟩
set_option maxHeartbeats 4000000 in
theorem pieces_m0 (nm s : ByteArray) (cut more : Int) (w : World) (htab : Tab w) (hL : Len w) (xs : List Int) (n y : Int) (HD : Hid (M.decT nm.data.toList s.data.toList = (xs, n, y, 0))) (h0 : 0 ≤ cut) (h1 : more < 0) : Calls Tryz.prog 9 #[.string nm, .string s, .int .i64 cut, .int .i64 more] w fun e w' => e = .returned (.bool true) ∧ Bel w w' := by
  go_enter Tryz.func9, Tryz.ntmps9
  go_wp2_with fail
  refine (frontBegun_any _ hL).mono ?_
  rintro e w1 ⟨rfl, b1⟩
  go_wp2_with fail
  refine (textBegun_any _ (hL.bel b1) (htab.bel b1)).mono ?_
  rintro e w2 ⟨rfl, b2⟩
  have b2 := b1.trans b2
  go_wp2_with fail
  refine (decodeT_sl nm s _ _ _ _ HD.out _ (hL.bel b2)).mono ?_
  rintro e w3 ⟨A1, c1, rfl, o1, b3⟩
  have hb3 := b2.trans b3
  go_wp2_with fail
  go_ret
  exact ⟨by first | rfl | simp, hb3⟩
set_option maxHeartbeats 4000000 in
theorem pieces_c1 (nm s : ByteArray) (cut more : Int) (w : World) (htab : Tab w) (hL : Len w) (xs : List Int) (n y : Int) (HD : Hid (M.decT nm.data.toList s.data.toList = (xs, n, y, 0))) (h0 : 0 ≤ cut) (h1 : 0 ≤ more) (h2 : (s.size : Int) < cut) : Calls Tryz.prog 9 #[.string nm, .string s, .int .i64 cut, .int .i64 more] w fun e w' => e = .returned (.bool true) ∧ Bel w w' := by
  go_enter Tryz.func9, Tryz.ntmps9
  go_wp2_with fail
  refine (frontBegun_any _ hL).mono ?_
  rintro e w1 ⟨rfl, b1⟩
  go_wp2_with fail
  refine (textBegun_any _ (hL.bel b1) (htab.bel b1)).mono ?_
  rintro e w2 ⟨rfl, b2⟩
  have b2 := b1.trans b2
  go_wp2_with fail
  refine (decodeT_sl nm s _ _ _ _ HD.out _ (hL.bel b2)).mono ?_
  rintro e w3 ⟨A1, c1, rfl, o1, b3⟩
  have hb3 := b2.trans b3
  go_wp2_with fail
  go_ret
  exact ⟨by first | rfl | simp, hb3⟩
set_option maxHeartbeats 4000000 in
theorem pieces_m1 (nm s : ByteArray) (cut more : Int) (w : World) (htab : Tab w) (hL : Len w) (hs : s.size ≤ 3000) (xs : List Int) (n y : Int) (HD : Hid (M.decT nm.data.toList s.data.toList = (xs, n, y, 0))) (h0 : 0 ≤ cut) (h1 : 0 ≤ more) (h2 : cut ≤ (s.size : Int)) (h3 : (s.size : Int) - cut < more) : Calls Tryz.prog 9 #[.string nm, .string s, .int .i64 cut, .int .i64 more] w fun e w' => e = .returned (.bool true) ∧ Bel w w' := by
  go_enter Tryz.func9, Tryz.ntmps9
  go_wp2_with fail
  refine (frontBegun_any _ hL).mono ?_
  rintro e w1 ⟨rfl, b1⟩
  go_wp2_with fail
  refine (textBegun_any _ (hL.bel b1) (htab.bel b1)).mono ?_
  rintro e w2 ⟨rfl, b2⟩
  have b2 := b1.trans b2
  go_wp2_with fail
  refine (decodeT_sl nm s _ _ _ _ HD.out _ (hL.bel b2)).mono ?_
  rintro e w3 ⟨A1, c1, rfl, o1, b3⟩
  have hb3 := b2.trans b3
  go_wp2_with fail
  go_ret
  exact ⟨by first | rfl | simp, hb3⟩
set_option maxHeartbeats 16000000 in
theorem pieces_yes (nm s : ByteArray) (i j : Nat) (w : World) (htab : Tab w) (hL : Len w) (hnm : Hid (nm.size ≤ 3000)) (hs3 : s.size ≤ 3000) (h3b : i ≤ s.size) (h4b : i + j ≤ s.size) (n y : Int) (X1 X2 X3 : List Int) (hl1 : X1.length ≤ 3004) (hl2 : X2.length ≤ 3004) (hl3 : X3.length ≤ 3004)
    (en1 wy1 : Int) (wt1 : List UInt8) (se1 : Int) (rs1 : List UInt8) (sg1 : Int) (fr1 st1 : Bool) (en2 wy2 : Int) (wt2 : List UInt8) (se2 : Int) (rs2 : List UInt8) (sg2 : Int) (fr2 st2 : Bool)
    (HD : Hid (M.decT nm.data.toList s.data.toList = (X1 ++ X2 ++ X3, n, y, 0)))
    (Q1 : Hid (M.feedFE ⟨nm.data.toList, 0, 0, [], ⟨0, [], 0, false, false⟩⟩ (s.extract 0 i).data.toList false = (X1, ⟨nm.data.toList, en1, wy1, wt1, ⟨se1, rs1, sg1, fr1, st1⟩⟩, 0)))
    (Q2 : Hid (M.feedFE ⟨nm.data.toList, en1, wy1, wt1, ⟨se1, rs1, sg1, fr1, st1⟩⟩ (s.extract i (i + j)).data.toList false = (X2, ⟨nm.data.toList, en2, wy2, wt2, ⟨se2, rs2, sg2, fr2, st2⟩⟩, 0)))
    (Q3 : Hid (M.feedFE ⟨nm.data.toList, en2, wy2, wt2, ⟨se2, rs2, sg2, fr2, st2⟩⟩ (s.extract (i + j) s.size).data.toList true = (X3, ⟨nm.data.toList, 0, 0, [], ⟨0, [], 0, false, false⟩⟩, 0)))
    (K1 : Hid (M.checkF ⟨nm.data.toList, en1, wy1, wt1, ⟨se1, rs1, sg1, fr1, st1⟩⟩ = 0)) (K2 : Hid (M.checkF ⟨nm.data.toList, en2, wy2, wt2, ⟨se2, rs2, sg2, fr2, st2⟩⟩ = 0))
    (Y1 : Hid (wy1 = 0 ∨ (wy1 = y ∧ en1 = n))) (Y2 : Hid (wy2 = 0 ∨ (wy2 = y ∧ en2 = n))) : Calls Tryz.prog 9 #[.string nm, .string s, .int .i64 i, .int .i64 j] w fun e w' => e = .returned (.bool true) ∧ Bel w w' := by
  have h4c : (j : Int) ≤ (s.size : Int) - (i : Int) := by omega
  have za : (i : Int) + (j : Int) ≤ (s.size : Int) := by omega
  have zb : (0 : Int) ≤ (i : Int) + (j : Int) := by omega
  have zc : (i : Int) ≤ (i : Int) + (j : Int) := by omega
  have zd : ((i : Int) + (j : Int)).toNat = i + j := by omega
  have ze : (i : Int) ≤ (s.size : Int) := by omega
  have zf : IntKind.i64.wrap ((i : Int) + (j : Int)) = (i : Int) + (j : Int) := by rw [IntKind.wrap_i64]; omega
  go_enter Tryz.func9, Tryz.ntmps9
  go_wp2_with fail
  refine (frontBegun_any _ hL).mono ?_
  rintro e w1 ⟨rfl, b1⟩
  go_wp2_with fail
  refine (textBegun_any _ (hL.bel b1) (htab.bel b1)).mono ?_
  rintro e w2 ⟨rfl, b2⟩
  have b2 := b1.trans b2
  go_wp2_with fail
  refine (decodeT_sl nm s _ _ _ _ HD.out _ (hL.bel b2)).mono ?_
  rintro e w3 ⟨A1, c1, rfl, o1, b3⟩
  have hb3 := b2.trans b3
  go_wp2_with fail
  refine (begin_yes nm hnm.out _).mono ?_
  rintro e w4 ⟨rfl, b4⟩
  have o13 := o1.ints.bel b4
  have hb4 := hb3.trans b4
  clear o1 b1 b2 b3 b4 hb3
  go_wp2_with fail
  have hX := Box.new w4 25 [.string nm, .int .i64 0, .int .i64 0, .string ⟨#[]⟩, .int .i64 0, .string ⟨#[]⟩, .int .i64 0, .bool false, .bool false]
  have hP : Bel w (w4.alloc (.cells #[.string nm, .int .i64 0, .int .i64 0, .string ⟨#[]⟩, .int .i64 0, .string ⟨#[]⟩, .int .i64 0, .bool false, .bool false] 25)) := hb4.alloc _
  have i1 : IntSl (w4.alloc (.cells #[.string nm, .int .i64 0, .int .i64 0, .string ⟨#[]⟩, .int .i64 0, .string ⟨#[]⟩, .int .i64 0, .bool false, .bool false] 25)) (.slice A1 (X1 ++ X2 ++ X3).length c1) (X1 ++ X2 ++ X3) := o13.bel ((Bel.refl _).alloc _)
  clear o13 hb4
  generalize w4.alloc (.cells #[.string nm, .int .i64 0, .int .i64 0, .string ⟨#[]⟩, .int .i64 0, .string ⟨#[]⟩, .int .i64 0, .bool false, .bool false] 25) = P at *
  generalize w4.heap.size = x at *
  have hxl := hX.lt
  have sc0 := hX.cell 0 _ rfl; have sc1 := hX.cell 1 _ rfl; have sc2 := hX.cell 2 _ rfl; have sc3 := hX.cell 3 _ rfl; have sc4 := hX.cell 4 _ rfl; have sc5 := hX.cell 5 _ rfl; have sc6 := hX.cell 6 _ rfl; have sc7 := hX.cell 7 _ rfl; have sc8 := hX.cell 8 _ rfl
  go_cut [14, 15, 16] from 76 to 84 (fun va vp ve wx => ∃ (A : Option Addr) (c q : Nat), va = .slice A X1.length c ∧ vp = .pointer (some ⟨q, 0, none⟩) ∧ ve = .int .i64 0 ∧ Box wx q 25 [.string nm, .int .i64 en1, .int .i64 wy1, .string ⟨wt1.toArray⟩, .int .i64 se1, .string ⟨rs1.toArray⟩, .int .i64 sg1, .bool fr1, .bool st1] ∧ Bel P wx ∧ IntSl wx (.slice A X1.length c) X1)
  case first =>
    go_region_with ((first | (go_at_call 13; refine (feedV_sl nm 0 0 [] 0 [] 0 false false (s.extract 0 i) false _ _ _ _ _ _ _ _ _ Q1.out _ (hL.bel (hP.trans (by repeat (first | exact Bel.refl _ | refine Bel.drewN ?_ _ | refine Bel.drew ?_ | refine Bel.alloc ?_ _ | refine Bel.trans ?_ (by assumption) | refine Bel.setCell ?_ (by simp; omega) _))))).mono ?_; rintro e w4 ⟨A4, c4, rfl, o4, b4⟩; have hX4 := Box.bel (Box.bel hX (by repeat (first | exact Bel.refl _ | refine Bel.drewN ?_ _ | refine Bel.drew ?_ | refine Bel.alloc ?_ _ | refine Bel.trans ?_ (by assumption) | refine Bel.setCell ?_ (by simp; omega) _))) b4; have tc0 := hX4.cell 0 _ rfl; have tc1 := hX4.cell 1 _ rfl; have tc2 := hX4.cell 2 _ rfl; have tc3 := hX4.cell 3 _ rfl; have tc4 := hX4.cell 4 _ rfl; have tc5 := hX4.cell 5 _ rfl; have tc6 := hX4.cell 6 _ rfl; have tc7 := hX4.cell 7 _ rfl; have tc8 := hX4.cell 8 _ rfl; try (have hZ := Box.bel (w := (P.alloc (.cells #[.string ⟨#[]⟩, .int .i64 0, .int .i64 0, .string ⟨#[]⟩, .int .i64 0, .string ⟨#[]⟩, .int .i64 0, .bool false, .bool false] 25)).drew) (Box.new P 25 [.string ⟨#[]⟩, .int .i64 0, .int .i64 0, .string ⟨#[]⟩, .int .i64 0, .string ⟨#[]⟩, .int .i64 0, .bool false, .bool false]) b4; have zc0 := hZ.cell 0 _ rfl; have zc1 := hZ.cell 1 _ rfl; have zc2 := hZ.cell 2 _ rfl; have zc3 := hZ.cell 3 _ rfl; have zc4 := hZ.cell 4 _ rfl; have zc5 := hZ.cell 5 _ rfl; have zc6 := hZ.cell 6 _ rfl; have zc7 := hZ.cell 7 _ rfl; have zc8 := hZ.cell 8 _ rfl; have zf0 := hZ.frozen 0; have zf1 := hZ.frozen 1; have zf2 := hZ.frozen 2; have zf3 := hZ.frozen 3; have zf4 := hZ.frozen 4; have zf5 := hZ.frozen 5; have zf6 := hZ.frozen 6; have zf7 := hZ.frozen 7; have zf8 := hZ.frozen 8))))
    all_goals first
      | (have hA := (((((((((hZ).set 0 (.string nm)).set 1 (.int .i64 en1)).set 2 (.int .i64 wy1)).set 3 (.string ⟨wt1.toArray⟩)).set 4 (.int .i64 se1)).set 5 (.string ⟨rs1.toArray⟩)).set 6 (.int .i64 sg1)).set 7 (.bool fr1)).set 8 (.bool st1)
         have hBW := ((((((((((Bel.trans (Bel.drew ((Bel.refl P).alloc _)) b4)).setCell (p := ⟨P.heap.size, 0, none⟩) (Nat.le_refl _) (.string nm)).setCell (p := ⟨P.heap.size, 1, none⟩) (Nat.le_refl _) (.int .i64 en1)).setCell (p := ⟨P.heap.size, 2, none⟩) (Nat.le_refl _) (.int .i64 wy1)).setCell (p := ⟨P.heap.size, 3, none⟩) (Nat.le_refl _) (.string ⟨wt1.toArray⟩)).setCell (p := ⟨P.heap.size, 4, none⟩) (Nat.le_refl _) (.int .i64 se1)).setCell (p := ⟨P.heap.size, 5, none⟩) (Nat.le_refl _) (.string ⟨rs1.toArray⟩)).setCell (p := ⟨P.heap.size, 6, none⟩) (Nat.le_refl _) (.int .i64 sg1)).setCell (p := ⟨P.heap.size, 7, none⟩) (Nat.le_refl _) (.bool fr1)).setCell (p := ⟨P.heap.size, 8, none⟩) (Nat.le_refl _) (.bool st1)
         have hI := ((((((((((o4).setCell (p := ⟨P.heap.size, 0, none⟩) (by simp) (.string nm)).setCell (p := ⟨P.heap.size, 1, none⟩) (by simp) (.int .i64 en1)).setCell (p := ⟨P.heap.size, 2, none⟩) (by simp) (.int .i64 wy1)).setCell (p := ⟨P.heap.size, 3, none⟩) (by simp) (.string ⟨wt1.toArray⟩)).setCell (p := ⟨P.heap.size, 4, none⟩) (by simp) (.int .i64 se1)).setCell (p := ⟨P.heap.size, 5, none⟩) (by simp) (.string ⟨rs1.toArray⟩)).setCell (p := ⟨P.heap.size, 6, none⟩) (by simp) (.int .i64 sg1)).setCell (p := ⟨P.heap.size, 7, none⟩) (by simp) (.bool fr1)).setCell (p := ⟨P.heap.size, 8, none⟩) (by simp) (.bool st1)).ints
         clear zc0 zf0 zc1 zf1 zc2 zf2 zc3 zf3 zc4 zf4 zc5 zf5 zc6 zf6 zc7 zf7 zc8 zf8 hZ tc0 tc1 tc2 tc3 tc4 tc5 tc6 tc7 tc8 hX4 o4 b4
         generalize (((((((((w4).setCell ⟨P.heap.size, 0, none⟩ (.string nm)).setCell ⟨P.heap.size, 1, none⟩ (.int .i64 en1)).setCell ⟨P.heap.size, 2, none⟩ (.int .i64 wy1)).setCell ⟨P.heap.size, 3, none⟩ (.string ⟨wt1.toArray⟩)).setCell ⟨P.heap.size, 4, none⟩ (.int .i64 se1)).setCell ⟨P.heap.size, 5, none⟩ (.string ⟨rs1.toArray⟩)).setCell ⟨P.heap.size, 6, none⟩ (.int .i64 sg1)).setCell ⟨P.heap.size, 7, none⟩ (.bool fr1)).setCell ⟨P.heap.size, 8, none⟩ (.bool st1) = W at *
         generalize P.heap.size = q at *)
      | (have hA := Box.new w4 25 [.string nm, .int .i64 en1, .int .i64 wy1, .string ⟨wt1.toArray⟩, .int .i64 se1, .string ⟨rs1.toArray⟩, .int .i64 sg1, .bool fr1, .bool st1]
         have hBW := (Bel.trans (Bel.drew (Bel.refl P)) b4).alloc (.cells #[.string nm, .int .i64 en1, .int .i64 wy1, .string ⟨wt1.toArray⟩, .int .i64 se1, .string ⟨rs1.toArray⟩, .int .i64 sg1, .bool fr1, .bool st1] 25)
         have hI := (o4.alloc (.cells #[.string nm, .int .i64 en1, .int .i64 wy1, .string ⟨wt1.toArray⟩, .int .i64 se1, .string ⟨rs1.toArray⟩, .int .i64 sg1, .bool fr1, .bool st1] 25)).ints
         clear tc0 tc1 tc2 tc3 tc4 tc5 tc6 tc7 tc8 hX4 o4 b4
         generalize w4.alloc (.cells #[.string nm, .int .i64 en1, .int .i64 wy1, .string ⟨wt1.toArray⟩, .int .i64 se1, .string ⟨rs1.toArray⟩, .int .i64 sg1, .bool fr1, .bool st1] 25) = W at *
         generalize w4.heap.size = q at *)
    all_goals
      try go_wp2_with fail
      go_meet
      exact ⟨A4, c4, q, rfl, rfl, rfl, hA, hBW, hI⟩
  case rest =>
    obtain ⟨A4, c4, x2, rfl, rfl, rfl, hY, hBW, iA⟩ := hcut
    have hX := Box.bel hX hBW
    have hP := Bel.trans hP hBW
    have i1 := IntSl.bel i1 hBW
    clear hBW sc0 sc1 sc2 sc3 sc4 sc5 sc6 sc7 sc8 hxl
    rename World => P2
    have hxl := hY.lt
    have sc0 := hY.cell 0 _ rfl; have sc1 := hY.cell 1 _ rfl; have sc2 := hY.cell 2 _ rfl; have sc3 := hY.cell 3 _ rfl; have sc4 := hY.cell 4 _ rfl; have sc5 := hY.cell 5 _ rfl; have sc6 := hY.cell 6 _ rfl; have sc7 := hY.cell 7 _ rfl; have sc8 := hY.cell 8 _ rfl
    go_wp2_with fail
    go_cut [17, 18, 19] from 85 to 96 (fun va vp ve wx => ∃ (A : Option Addr) (c q : Nat), va = .slice A X2.length c ∧ vp = .pointer (some ⟨q, 0, none⟩) ∧ ve = .int .i64 0 ∧ Box wx q 25 [.string nm, .int .i64 en2, .int .i64 wy2, .string ⟨wt2.toArray⟩, .int .i64 se2, .string ⟨rs2.toArray⟩, .int .i64 sg2, .bool fr2, .bool st2] ∧ Bel P2 wx ∧ IntSl wx (.slice A X2.length c) X2)
    case first =>
      go_region_with ((first | (go_at_call 13; refine (feedV_sl nm en1 wy1 wt1 se1 rs1 sg1 fr1 st1 (s.extract i (i + j)) false _ _ _ _ _ _ _ _ _ Q2.out _ (hL.bel (hP.trans (by repeat (first | exact Bel.refl _ | refine Bel.drewN ?_ _ | refine Bel.drew ?_ | refine Bel.alloc ?_ _ | refine Bel.trans ?_ (by assumption) | refine Bel.setCell ?_ (by simp; omega) _))))).mono ?_; rintro e w5 ⟨A5, c5, rfl, o5, b5⟩; have hX4 := Box.bel (Box.bel hY (by repeat (first | exact Bel.refl _ | refine Bel.drewN ?_ _ | refine Bel.drew ?_ | refine Bel.alloc ?_ _ | refine Bel.trans ?_ (by assumption) | refine Bel.setCell ?_ (by simp; omega) _))) b5; have tc0 := hX4.cell 0 _ rfl; have tc1 := hX4.cell 1 _ rfl; have tc2 := hX4.cell 2 _ rfl; have tc3 := hX4.cell 3 _ rfl; have tc4 := hX4.cell 4 _ rfl; have tc5 := hX4.cell 5 _ rfl; have tc6 := hX4.cell 6 _ rfl; have tc7 := hX4.cell 7 _ rfl; have tc8 := hX4.cell 8 _ rfl; try (have hZ := Box.bel (w := (P2.alloc (.cells #[.string ⟨#[]⟩, .int .i64 0, .int .i64 0, .string ⟨#[]⟩, .int .i64 0, .string ⟨#[]⟩, .int .i64 0, .bool false, .bool false] 25)).drew) (Box.new P2 25 [.string ⟨#[]⟩, .int .i64 0, .int .i64 0, .string ⟨#[]⟩, .int .i64 0, .string ⟨#[]⟩, .int .i64 0, .bool false, .bool false]) b5; have zc0 := hZ.cell 0 _ rfl; have zc1 := hZ.cell 1 _ rfl; have zc2 := hZ.cell 2 _ rfl; have zc3 := hZ.cell 3 _ rfl; have zc4 := hZ.cell 4 _ rfl; have zc5 := hZ.cell 5 _ rfl; have zc6 := hZ.cell 6 _ rfl; have zc7 := hZ.cell 7 _ rfl; have zc8 := hZ.cell 8 _ rfl; have zf0 := hZ.frozen 0; have zf1 := hZ.frozen 1; have zf2 := hZ.frozen 2; have zf3 := hZ.frozen 3; have zf4 := hZ.frozen 4; have zf5 := hZ.frozen 5; have zf6 := hZ.frozen 6; have zf7 := hZ.frozen 7; have zf8 := hZ.frozen 8))))
      all_goals first
        | (have hA := (((((((((hZ).set 0 (.string nm)).set 1 (.int .i64 en2)).set 2 (.int .i64 wy2)).set 3 (.string ⟨wt2.toArray⟩)).set 4 (.int .i64 se2)).set 5 (.string ⟨rs2.toArray⟩)).set 6 (.int .i64 sg2)).set 7 (.bool fr2)).set 8 (.bool st2)
           have hBW := ((((((((((Bel.trans (Bel.drew ((Bel.refl P2).alloc _)) b5)).setCell (p := ⟨P2.heap.size, 0, none⟩) (Nat.le_refl _) (.string nm)).setCell (p := ⟨P2.heap.size, 1, none⟩) (Nat.le_refl _) (.int .i64 en2)).setCell (p := ⟨P2.heap.size, 2, none⟩) (Nat.le_refl _) (.int .i64 wy2)).setCell (p := ⟨P2.heap.size, 3, none⟩) (Nat.le_refl _) (.string ⟨wt2.toArray⟩)).setCell (p := ⟨P2.heap.size, 4, none⟩) (Nat.le_refl _) (.int .i64 se2)).setCell (p := ⟨P2.heap.size, 5, none⟩) (Nat.le_refl _) (.string ⟨rs2.toArray⟩)).setCell (p := ⟨P2.heap.size, 6, none⟩) (Nat.le_refl _) (.int .i64 sg2)).setCell (p := ⟨P2.heap.size, 7, none⟩) (Nat.le_refl _) (.bool fr2)).setCell (p := ⟨P2.heap.size, 8, none⟩) (Nat.le_refl _) (.bool st2)
           have hI := ((((((((((o5).setCell (p := ⟨P2.heap.size, 0, none⟩) (by simp) (.string nm)).setCell (p := ⟨P2.heap.size, 1, none⟩) (by simp) (.int .i64 en2)).setCell (p := ⟨P2.heap.size, 2, none⟩) (by simp) (.int .i64 wy2)).setCell (p := ⟨P2.heap.size, 3, none⟩) (by simp) (.string ⟨wt2.toArray⟩)).setCell (p := ⟨P2.heap.size, 4, none⟩) (by simp) (.int .i64 se2)).setCell (p := ⟨P2.heap.size, 5, none⟩) (by simp) (.string ⟨rs2.toArray⟩)).setCell (p := ⟨P2.heap.size, 6, none⟩) (by simp) (.int .i64 sg2)).setCell (p := ⟨P2.heap.size, 7, none⟩) (by simp) (.bool fr2)).setCell (p := ⟨P2.heap.size, 8, none⟩) (by simp) (.bool st2)).ints
           clear zc0 zf0 zc1 zf1 zc2 zf2 zc3 zf3 zc4 zf4 zc5 zf5 zc6 zf6 zc7 zf7 zc8 zf8 hZ tc0 tc1 tc2 tc3 tc4 tc5 tc6 tc7 tc8 hX4 o5 b5
           generalize (((((((((w5).setCell ⟨P2.heap.size, 0, none⟩ (.string nm)).setCell ⟨P2.heap.size, 1, none⟩ (.int .i64 en2)).setCell ⟨P2.heap.size, 2, none⟩ (.int .i64 wy2)).setCell ⟨P2.heap.size, 3, none⟩ (.string ⟨wt2.toArray⟩)).setCell ⟨P2.heap.size, 4, none⟩ (.int .i64 se2)).setCell ⟨P2.heap.size, 5, none⟩ (.string ⟨rs2.toArray⟩)).setCell ⟨P2.heap.size, 6, none⟩ (.int .i64 sg2)).setCell ⟨P2.heap.size, 7, none⟩ (.bool fr2)).setCell ⟨P2.heap.size, 8, none⟩ (.bool st2) = W at *
           generalize P2.heap.size = q at *)
        | (have hA := Box.new w5 25 [.string nm, .int .i64 en2, .int .i64 wy2, .string ⟨wt2.toArray⟩, .int .i64 se2, .string ⟨rs2.toArray⟩, .int .i64 sg2, .bool fr2, .bool st2]
           have hBW := (Bel.trans (Bel.drew (Bel.refl P2)) b5).alloc (.cells #[.string nm, .int .i64 en2, .int .i64 wy2, .string ⟨wt2.toArray⟩, .int .i64 se2, .string ⟨rs2.toArray⟩, .int .i64 sg2, .bool fr2, .bool st2] 25)
           have hI := (o5.alloc (.cells #[.string nm, .int .i64 en2, .int .i64 wy2, .string ⟨wt2.toArray⟩, .int .i64 se2, .string ⟨rs2.toArray⟩, .int .i64 sg2, .bool fr2, .bool st2] 25)).ints
           clear tc0 tc1 tc2 tc3 tc4 tc5 tc6 tc7 tc8 hX4 o5 b5
           generalize w5.alloc (.cells #[.string nm, .int .i64 en2, .int .i64 wy2, .string ⟨wt2.toArray⟩, .int .i64 se2, .string ⟨rs2.toArray⟩, .int .i64 sg2, .bool fr2, .bool st2] 25) = W at *
           generalize w5.heap.size = q at *)
      all_goals
        try go_wp2_with fail
        go_meet
        exact ⟨A5, c5, q, rfl, rfl, rfl, hA, hBW, hI⟩
    case rest =>
      obtain ⟨A5, c5, x3, rfl, rfl, rfl, hZ3, hBW, iB⟩ := hcut
      have hX := Box.bel hX hBW
      have hY := Box.bel hY hBW
      have hP := Bel.trans hP hBW
      have i1 := IntSl.bel i1 hBW
      have iA := IntSl.bel iA hBW
      clear hBW sc0 sc1 sc2 sc3 sc4 sc5 sc6 sc7 sc8 hxl
      rename World => P3
      have hxl := hZ3.lt
      have sc0 := hZ3.cell 0 _ rfl; have sc1 := hZ3.cell 1 _ rfl; have sc2 := hZ3.cell 2 _ rfl; have sc3 := hZ3.cell 3 _ rfl; have sc4 := hZ3.cell 4 _ rfl; have sc5 := hZ3.cell 5 _ rfl; have sc6 := hZ3.cell 6 _ rfl; have sc7 := hZ3.cell 7 _ rfl; have sc8 := hZ3.cell 8 _ rfl
      go_wp2_with fail
      go_cut [20, 21, 22] from 97 to 107 (fun va vp ve wx => ∃ (A : Option Addr) (c q : Nat), va = .slice A X3.length c ∧ vp = .pointer (some ⟨q, 0, none⟩) ∧ ve = .int .i64 0 ∧ Box wx q 25 [.string nm, .int .i64 0, .int .i64 0, .string ⟨#[]⟩, .int .i64 0, .string ⟨#[]⟩, .int .i64 0, .bool false, .bool false] ∧ Bel P3 wx ∧ IntSl wx (.slice A X3.length c) X3)
      case first =>
        go_region_with ((first | (go_at_call 13; refine (feedV_sl nm en2 wy2 wt2 se2 rs2 sg2 fr2 st2 (s.extract (i + j) s.size) true _ _ _ _ _ _ _ _ _ Q3.out _ (hL.bel (hP.trans (by repeat (first | exact Bel.refl _ | refine Bel.drewN ?_ _ | refine Bel.drew ?_ | refine Bel.alloc ?_ _ | refine Bel.trans ?_ (by assumption) | refine Bel.setCell ?_ (by simp; omega) _))))).mono ?_; rintro e w6 ⟨A6, c6, rfl, o6, b6⟩; have hX4 := Box.bel (Box.bel hZ3 (by repeat (first | exact Bel.refl _ | refine Bel.drewN ?_ _ | refine Bel.drew ?_ | refine Bel.alloc ?_ _ | refine Bel.trans ?_ (by assumption) | refine Bel.setCell ?_ (by simp; omega) _))) b6; have tc0 := hX4.cell 0 _ rfl; have tc1 := hX4.cell 1 _ rfl; have tc2 := hX4.cell 2 _ rfl; have tc3 := hX4.cell 3 _ rfl; have tc4 := hX4.cell 4 _ rfl; have tc5 := hX4.cell 5 _ rfl; have tc6 := hX4.cell 6 _ rfl; have tc7 := hX4.cell 7 _ rfl; have tc8 := hX4.cell 8 _ rfl; try (have hZ := Box.bel (w := (P3.alloc (.cells #[.string ⟨#[]⟩, .int .i64 0, .int .i64 0, .string ⟨#[]⟩, .int .i64 0, .string ⟨#[]⟩, .int .i64 0, .bool false, .bool false] 25)).drew) (Box.new P3 25 [.string ⟨#[]⟩, .int .i64 0, .int .i64 0, .string ⟨#[]⟩, .int .i64 0, .string ⟨#[]⟩, .int .i64 0, .bool false, .bool false]) b6; have zc0 := hZ.cell 0 _ rfl; have zc1 := hZ.cell 1 _ rfl; have zc2 := hZ.cell 2 _ rfl; have zc3 := hZ.cell 3 _ rfl; have zc4 := hZ.cell 4 _ rfl; have zc5 := hZ.cell 5 _ rfl; have zc6 := hZ.cell 6 _ rfl; have zc7 := hZ.cell 7 _ rfl; have zc8 := hZ.cell 8 _ rfl; have zf0 := hZ.frozen 0; have zf1 := hZ.frozen 1; have zf2 := hZ.frozen 2; have zf3 := hZ.frozen 3; have zf4 := hZ.frozen 4; have zf5 := hZ.frozen 5; have zf6 := hZ.frozen 6; have zf7 := hZ.frozen 7; have zf8 := hZ.frozen 8))))
        all_goals first
          | (have hA := (((((((((hZ).set 0 (.string nm)).set 1 (.int .i64 0)).set 2 (.int .i64 0)).set 3 (.string ⟨#[]⟩)).set 4 (.int .i64 0)).set 5 (.string ⟨#[]⟩)).set 6 (.int .i64 0)).set 7 (.bool false)).set 8 (.bool false)
             have hBW := ((((((((((Bel.trans (Bel.drew ((Bel.refl P3).alloc _)) b6)).setCell (p := ⟨P3.heap.size, 0, none⟩) (Nat.le_refl _) (.string nm)).setCell (p := ⟨P3.heap.size, 1, none⟩) (Nat.le_refl _) (.int .i64 0)).setCell (p := ⟨P3.heap.size, 2, none⟩) (Nat.le_refl _) (.int .i64 0)).setCell (p := ⟨P3.heap.size, 3, none⟩) (Nat.le_refl _) (.string ⟨#[]⟩)).setCell (p := ⟨P3.heap.size, 4, none⟩) (Nat.le_refl _) (.int .i64 0)).setCell (p := ⟨P3.heap.size, 5, none⟩) (Nat.le_refl _) (.string ⟨#[]⟩)).setCell (p := ⟨P3.heap.size, 6, none⟩) (Nat.le_refl _) (.int .i64 0)).setCell (p := ⟨P3.heap.size, 7, none⟩) (Nat.le_refl _) (.bool false)).setCell (p := ⟨P3.heap.size, 8, none⟩) (Nat.le_refl _) (.bool false)
             have hI := ((((((((((o6).setCell (p := ⟨P3.heap.size, 0, none⟩) (by simp) (.string nm)).setCell (p := ⟨P3.heap.size, 1, none⟩) (by simp) (.int .i64 0)).setCell (p := ⟨P3.heap.size, 2, none⟩) (by simp) (.int .i64 0)).setCell (p := ⟨P3.heap.size, 3, none⟩) (by simp) (.string ⟨#[]⟩)).setCell (p := ⟨P3.heap.size, 4, none⟩) (by simp) (.int .i64 0)).setCell (p := ⟨P3.heap.size, 5, none⟩) (by simp) (.string ⟨#[]⟩)).setCell (p := ⟨P3.heap.size, 6, none⟩) (by simp) (.int .i64 0)).setCell (p := ⟨P3.heap.size, 7, none⟩) (by simp) (.bool false)).setCell (p := ⟨P3.heap.size, 8, none⟩) (by simp) (.bool false)).ints
             clear zc0 zf0 zc1 zf1 zc2 zf2 zc3 zf3 zc4 zf4 zc5 zf5 zc6 zf6 zc7 zf7 zc8 zf8 hZ tc0 tc1 tc2 tc3 tc4 tc5 tc6 tc7 tc8 hX4 o6 b6
             generalize (((((((((w6).setCell ⟨P3.heap.size, 0, none⟩ (.string nm)).setCell ⟨P3.heap.size, 1, none⟩ (.int .i64 0)).setCell ⟨P3.heap.size, 2, none⟩ (.int .i64 0)).setCell ⟨P3.heap.size, 3, none⟩ (.string ⟨#[]⟩)).setCell ⟨P3.heap.size, 4, none⟩ (.int .i64 0)).setCell ⟨P3.heap.size, 5, none⟩ (.string ⟨#[]⟩)).setCell ⟨P3.heap.size, 6, none⟩ (.int .i64 0)).setCell ⟨P3.heap.size, 7, none⟩ (.bool false)).setCell ⟨P3.heap.size, 8, none⟩ (.bool false) = W at *
             generalize P3.heap.size = q at *)
          | (have hA := Box.new w6 25 [.string nm, .int .i64 0, .int .i64 0, .string ⟨#[]⟩, .int .i64 0, .string ⟨#[]⟩, .int .i64 0, .bool false, .bool false]
             have hBW := (Bel.trans (Bel.drew (Bel.refl P3)) b6).alloc (.cells #[.string nm, .int .i64 0, .int .i64 0, .string ⟨#[]⟩, .int .i64 0, .string ⟨#[]⟩, .int .i64 0, .bool false, .bool false] 25)
             have hI := (o6.alloc (.cells #[.string nm, .int .i64 0, .int .i64 0, .string ⟨#[]⟩, .int .i64 0, .string ⟨#[]⟩, .int .i64 0, .bool false, .bool false] 25)).ints
             clear tc0 tc1 tc2 tc3 tc4 tc5 tc6 tc7 tc8 hX4 o6 b6
             generalize w6.alloc (.cells #[.string nm, .int .i64 0, .int .i64 0, .string ⟨#[]⟩, .int .i64 0, .string ⟨#[]⟩, .int .i64 0, .bool false, .bool false] 25) = W at *
             generalize w6.heap.size = q at *)
        all_goals
          try go_wp2_with fail
          go_meet
          exact ⟨A6, c6, q, rfl, rfl, rfl, hA, hBW, hI⟩
      case rest =>
        obtain ⟨A6, c6, x4, rfl, rfl, rfl, hV, hBW, iC⟩ := hcut
        have hX := Box.bel hX hBW
        have hY := Box.bel hY hBW
        have hZ3 := Box.bel hZ3 hBW
        have hP := Bel.trans hP hBW
        have i1 := IntSl.bel i1 hBW
        have iA := IntSl.bel iA hBW
        have iB := IntSl.bel iB hBW
        clear hBW sc0 sc1 sc2 sc3 sc4 sc5 sc6 sc7 sc8 hxl
        rename World => P4
        have xc0 := hX.cell 0 _ rfl; have xc1 := hX.cell 1 _ rfl; have xc2 := hX.cell 2 _ rfl; have xc3 := hX.cell 3 _ rfl; have xc4 := hX.cell 4 _ rfl; have xc5 := hX.cell 5 _ rfl; have xc6 := hX.cell 6 _ rfl; have xc7 := hX.cell 7 _ rfl; have xc8 := hX.cell 8 _ rfl
        have yc0 := hY.cell 0 _ rfl; have yc1 := hY.cell 1 _ rfl; have yc2 := hY.cell 2 _ rfl; have yc3 := hY.cell 3 _ rfl; have yc4 := hY.cell 4 _ rfl; have yc5 := hY.cell 5 _ rfl; have yc6 := hY.cell 6 _ rfl; have yc7 := hY.cell 7 _ rfl; have yc8 := hY.cell 8 _ rfl
        have zc0 := hZ3.cell 0 _ rfl; have zc1 := hZ3.cell 1 _ rfl; have zc2 := hZ3.cell 2 _ rfl; have zc3 := hZ3.cell 3 _ rfl; have zc4 := hZ3.cell 4 _ rfl; have zc5 := hZ3.cell 5 _ rfl; have zc6 := hZ3.cell 6 _ rfl; have zc7 := hZ3.cell 7 _ rfl; have zc8 := hZ3.cell 8 _ rfl
        have vc0 := hV.cell 0 _ rfl; have vc1 := hV.cell 1 _ rfl; have vc2 := hV.cell 2 _ rfl; have vc3 := hV.cell 3 _ rfl; have vc4 := hV.cell 4 _ rfl; have vc5 := hV.cell 5 _ rfl; have vc6 := hV.cell 6 _ rfl; have vc7 := hV.cell 7 _ rfl; have vc8 := hV.cell 8 _ rfl
        go_wp2_with fail
        clear hX hY hZ3 hV Q1 Q2 Q3 xc0 yc0 zc0 vc0 xc1 yc1 zc1 vc1 xc2 yc2 zc2 vc2 xc3 yc3 zc3 vc3 xc4 yc4 zc4 vc4 xc5 yc5 zc5 vc5 xc6 yc6 zc6 vc6 xc7 yc7 zc7 vc7 xc8 yc8 zc8 vc8
        have hG := Box.new P4 25 [.string nm, .int .i64 en1, .int .i64 wy1, .string ⟨wt1.toArray⟩, .int .i64 se1, .string ⟨rs1.toArray⟩, .int .i64 sg1, .bool fr1, .bool st1, .string nm, .int .i64 en2, .int .i64 wy2, .string ⟨wt2.toArray⟩, .int .i64 se2, .string ⟨rs2.toArray⟩, .int .i64 sg2, .bool fr2, .bool st2]
        have hBG : Bel P4 (P4.alloc (.cells #[.string nm, .int .i64 en1, .int .i64 wy1, .string ⟨wt1.toArray⟩, .int .i64 se1, .string ⟨rs1.toArray⟩, .int .i64 sg1, .bool fr1, .bool st1, .string nm, .int .i64 en2, .int .i64 wy2, .string ⟨wt2.toArray⟩, .int .i64 se2, .string ⟨rs2.toArray⟩, .int .i64 sg2, .bool fr2, .bool st2] 25)) := (Bel.refl P4).alloc _
        generalize P4.alloc (.cells #[.string nm, .int .i64 en1, .int .i64 wy1, .string ⟨wt1.toArray⟩, .int .i64 se1, .string ⟨rs1.toArray⟩, .int .i64 sg1, .bool fr1, .bool st1, .string nm, .int .i64 en2, .int .i64 wy2, .string ⟨wt2.toArray⟩, .int .i64 se2, .string ⟨rs2.toArray⟩, .int .i64 sg2, .bool fr2, .bool st2] 25) = P5 at *
        generalize P4.heap.size = g5 at *
        go_loopw [24] (fun i wr => ∃ k : Int, (k = 0 ∨ k = 1 ∨ k = 2) ∧ i = .int .i64 k ∧ Bel P5 wr) (fun i _ => 2 - (intOf i).toNat)
        case atStart => exact ⟨0, .inl rfl, rfl, Bel.refl _⟩
        case round =>
          obtain ⟨k, hk, rfl, hb⟩ := hrel
          have hG := hG.bel hb
          rcases hk with rfl | rfl | rfl
          · skip
            have gc0 := hG.cell 0 _ rfl; have gc1 := hG.cell 1 _ rfl; have gc2 := hG.cell 2 _ rfl; have gc3 := hG.cell 3 _ rfl; have gc4 := hG.cell 4 _ rfl; have gc5 := hG.cell 5 _ rfl; have gc6 := hG.cell 6 _ rfl; have gc7 := hG.cell 7 _ rfl; have gc8 := hG.cell 8 _ rfl
            go_wp2_with fail
            refine (checkFr_to nm en1 wy1 ⟨wt1.toArray⟩ se1 ⟨rs1.toArray⟩ sg1 fr1 st1 0 K1.out _).mono ?_
            rintro e w9 ⟨rfl, b9⟩
            have hG := Box.bel hG b9
            have gc0 := hG.cell 0 _ rfl; have gc1 := hG.cell 1 _ rfl; have gc2 := hG.cell 2 _ rfl; have gc3 := hG.cell 3 _ rfl; have gc4 := hG.cell 4 _ rfl; have gc5 := hG.cell 5 _ rfl; have gc6 := hG.cell 6 _ rfl; have gc7 := hG.cell 7 _ rfl; have gc8 := hG.cell 8 _ rfl
            by_cases h0 : wy1 = 0
            · have g0 : (wy1 != 0) = false := by simp [h0]
              clear h0
              go_wp2_with fail
              go_roundw
              case rel => exact ⟨1, by decide, by first | rfl | go_num, hb.trans b9⟩
              case measure => first | decide | simp [intOf]
            · have hy : wy1 = y ∧ en1 = n := Y1.out.resolve_left h0
              have g0 : (wy1 != 0) = true := by simpa using h0
              have g1 : (wy1 != y) = false := by simp [hy.1]
              have g2 : (en1 != n) = false := by simp [hy.2]
              clear h0 hy
              go_wp2_with fail
              go_roundw
              case rel => exact ⟨1, by decide, by first | rfl | go_num, hb.trans b9⟩
              case measure => first | decide | simp [intOf]
          · skip
            have gc0 := hG.cell 9 _ rfl; have gc1 := hG.cell 10 _ rfl; have gc2 := hG.cell 11 _ rfl; have gc3 := hG.cell 12 _ rfl; have gc4 := hG.cell 13 _ rfl; have gc5 := hG.cell 14 _ rfl; have gc6 := hG.cell 15 _ rfl; have gc7 := hG.cell 16 _ rfl; have gc8 := hG.cell 17 _ rfl
            go_wp2_with fail
            refine (checkFr_to nm en2 wy2 ⟨wt2.toArray⟩ se2 ⟨rs2.toArray⟩ sg2 fr2 st2 0 K2.out _).mono ?_
            rintro e w9 ⟨rfl, b9⟩
            have hG := Box.bel hG b9
            have gc0 := hG.cell 9 _ rfl; have gc1 := hG.cell 10 _ rfl; have gc2 := hG.cell 11 _ rfl; have gc3 := hG.cell 12 _ rfl; have gc4 := hG.cell 13 _ rfl; have gc5 := hG.cell 14 _ rfl; have gc6 := hG.cell 15 _ rfl; have gc7 := hG.cell 16 _ rfl; have gc8 := hG.cell 17 _ rfl
            by_cases h0 : wy2 = 0
            · have g0 : (wy2 != 0) = false := by simp [h0]
              clear h0
              go_wp2_with fail
              go_roundw
              case rel => exact ⟨2, by decide, by first | rfl | go_num, hb.trans b9⟩
              case measure => first | decide | simp [intOf]
            · have hy : wy2 = y ∧ en2 = n := Y2.out.resolve_left h0
              have g0 : (wy2 != 0) = true := by simpa using h0
              have g1 : (wy2 != y) = false := by simp [hy.1]
              have g2 : (en2 != n) = false := by simp [hy.2]
              clear h0 hy
              go_wp2_with fail
              go_roundw
              case rel => exact ⟨2, by decide, by first | rfl | go_num, hb.trans b9⟩
              case measure => first | decide | simp [intOf]
          · have hP5 := Bel.trans hBG hb
            have iA := IntSl.bel iA hP5
            have iB := IntSl.bel iB hP5
            have iC := IntSl.bel iC hP5
            have i1 := IntSl.bel i1 hP5
            have hP := Bel.trans hP hP5
            clear hG hb hBG hP5 K1 K2 Y1 Y2
            go_wp2_with (first
              | (at_builtin; refine wpList_appInts (.tmp 167) (.tmp 168) 30 rfl elemInt (by decide) wr.heap.size _ _ (Own.empty _ _ (Nat.le_refl _)) _ X1 (iA.bel ((Bel.refl wr).alloc _)) (by simp; omega) (by simp) rfl rfl rfl ?_; intro v7 w7 o7 b7; have hb7 : Bel wr w7 := ((Bel.refl wr).alloc _).upto b7 (by simp))
              | (at_builtin; refine wpList_appInts (.tmp 169) (.tmp 170) 30 rfl elemInt (by decide) wr.heap.size _ _ o7 _ X2 (iB.bel hb7) (by simp; omega) hb7.size rfl rfl rfl ?_; intro v8 w8 o8 b8; have hb8 : Bel wr w8 := hb7.upto b8 (Nat.le_refl _))
              | (at_builtin; refine wpList_appInts (.tmp 171) (.tmp 172) 30 rfl elemInt (by decide) wr.heap.size _ _ o8 _ X3 (iC.bel hb8) (by simp; omega) hb8.size rfl rfl rfl ?_; intro v9 w9 o9 b9; have hb9 : Bel wr w9 := hb8.upto b9 (Nat.le_refl _)))
            have i9 : IntSl w9 v9 (X1 ++ X2 ++ X3) := Own.ints (by simpa using o9)
            have i1b := i1.bel hb9
            rw [List.length_append, List.length_append, Nat.add_assoc] at i1b
            refine (sameInts_yes _ _ _ _ _ i9 i1b rfl).mono ?_
            rintro e wa ⟨rfl, ba⟩
            go_wp2_with fail
            go_ret
            exact ⟨rfl, hP.trans (hb9.trans ba)⟩
theorem frontPiecesTrue (nm s : ByteArray) (cut more : Int) (w : World) (_ : nm.size ≤ reachBytes) (_ : s.size ≤ reachBytes) (_ : -9223372036854775808 ≤ cut ∧ cut ≤ 9223372036854775807) (_ : -9223372036854775808 ≤ more ∧ more ≤ 9223372036854775807) (htab : Tab w) (hL : Len w) : Calls Tryz.prog 9 #[.string nm, .string s, .int .i64 cut, .int .i64 more] w fun e w' => e = .returned (.bool true) ∧ Bel w w' := by
  by_cases hl : 3000 < nm.size ∨ 3000 < s.size
  · exact pieces_bad nm s cut more w htab hL (Lib.hid (by rw [M.decT, ← Lib.size_eq, ← Lib.size_eq, if_pos hl]))
  · obtain ⟨xs, n, y, hw⟩ : ∃ xs n y, M.wholeM nm.data.toList s.data.toList = (xs, n, y) := ⟨_, _, _, rfl⟩
    have hd : M.decT nm.data.toList s.data.toList = (xs, n, y, 0) := by rw [M.decT, ← Lib.size_eq, ← Lib.size_eq, if_neg hl, hw]
    by_cases h1 : cut < 0
    · exact pieces_c0 nm s cut more w htab hL xs n y (Lib.hid hd) h1
    · by_cases h2 : more < 0
      · exact pieces_m0 nm s cut more w htab hL xs n y (Lib.hid hd) (by omega) h2
      · by_cases h3 : (s.size : Int) < cut
        · exact pieces_c1 nm s cut more w htab hL xs n y (Lib.hid hd) (by omega) (by omega) h3
        · by_cases h4 : (s.size : Int) - cut < more
          · exact pieces_m1 nm s cut more w htab hL (by omega) xs n y (Lib.hid hd) (by omega) (by omega) (by omega) h4
          · obtain ⟨i, rfl⟩ := Int.eq_ofNat_of_zero_le (show 0 ≤ cut by omega)
            obtain ⟨j, rfl⟩ := Int.eq_ofNat_of_zero_le (show 0 ≤ more by omega)
            have ht := threeF s i j
            have hlen : s.data.toList.length ≤ 3000 := by rw [← Lib.size_eq]; omega
            have hxl := M.allE_len (M.chosen nm.data.toList s.data.toList).1 (s.data.toList.drop (M.chosen nm.data.toList s.data.toList).2.2.toNat)
            have hxs : xs.length ≤ 3000 := by
              have : xs = (M.wholeM nm.data.toList s.data.toList).1 := by rw [hw]
              rw [this]
              unfold M.wholeM
              rw [List.length_drop] at hxl
              simp only; omega
            have hlen2 := hlen
            rw [ht] at hw hlen2
            obtain ⟨X1, X2, X3, en1, wy1, wt1, se1, rs1, sg1, fr1, st1, en2, wy2, wt2, se2, rs2, sg2, fr2, st2, q1, q2, q3, q4, k1, k2, y1, y2⟩ := piecesF nm.data.toList _ _ _ (by rw [← Lib.size_eq]; omega) hlen2 n y xs hw
            subst q4
            rw [List.length_append, List.length_append] at hxs
            exact pieces_yes nm s i j w htab hL (Lib.hid (by omega)) (by omega) (by omega) (by omega) n y X1 X2 X3 (by omega) (by omega) (by omega) en1 wy1 wt1 se1 rs1 sg1 fr1 st1 en2 wy2 wt2 se2 rs2 sg2 fr2 st2 (Lib.hid hd) (Lib.hid q1) (Lib.hid q2) (Lib.hid q3) (Lib.hid k1) (Lib.hid k2) (Lib.hid y1) (Lib.hid y2)
end Go.Proofs.YteingkjdemlhgaaGreatDoor

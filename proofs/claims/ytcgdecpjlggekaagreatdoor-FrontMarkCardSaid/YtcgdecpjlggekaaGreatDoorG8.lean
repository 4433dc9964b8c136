/-
  Texts of the proof, laid together: LawFront, LawMark, RLong, RLabel, LawLabel, RAttr2, LawAttr, LawScan, LawFrontMark. No condition of its own.
-/
import Derived.Test.YtcgdecpjlggekaaGreatDoorG7
import Derived.Test.YtcgdecpjlggekaaGreatDoorG5
import Derived.Test.YtcgdecpjlggekaaGreatDoorG2
import Derived.Deep.RegionWith
import Derived.Test.YtcgdecpjlggekaaGreatDoorG1
import Derived.Test.YtcgdecpjlggekaaGreatDoorG3
import Derived.Laws.StructEq
import Derived.Test.YtcgdecpjlggekaaGreatDoorG4

/-
  What must be in any case, of fronts.
-/
namespace Go.Proofs.YtcgdecpjlggekaaGreatDoor
open Go.RowKit
set_option maxRecDepth 1000000

theorem IntSl.litAt (w : World) (t : TypeId) (ys : List Int) (g : Nat) (hg : w.heap.size = g) (h : ys.length ≤ 1000000) : IntSl (w.alloc (.cells (ys.map (Value.int .i64)).toArray t)) (.slice (some ⟨g, 0, none⟩) ys.length ys.length) ys := by
  subst hg
  exact IntSl.lit w t ys h
theorem feedF_sl (lb : ByteArray) (en wy : Int) (wt : ByteArray) (se : Int) (rs : ByteArray) (sg : Int) (fr st : Bool) (b : ByteArray) (last : Bool) (xs : List Int) (l2 : List UInt8) (en2 wy2 : Int) (wt2 : List UInt8) (se2 : Int) (rs2 : List UInt8) (sg2 : Int) (fr2 st2 : Bool) (k : Int)
    (hf : M.feedFE ⟨lb.data.toList, en, wy, wt.data.toList, ⟨se, rs.data.toList, sg, fr, st⟩⟩ b.data.toList last = (xs, ⟨l2, en2, wy2, wt2, ⟨se2, rs2, sg2, fr2, st2⟩⟩, k)) (w : World) (hL : Len w) :
    Calls Tryz.prog 7 #[.agg #[.string lb, .int .i64 en, .int .i64 wy, .string wt, .int .i64 se, .string rs, .int .i64 sg, .bool fr, .bool st], .string b, .bool last] w fun e w' => ∃ A c, e = .returned (.tuple #[.slice A xs.length c, .agg #[.string ⟨l2.toArray⟩, .int .i64 en2, .int .i64 wy2, .string ⟨wt2.toArray⟩, .int .i64 se2, .string ⟨rs2.toArray⟩, .int .i64 sg2, .bool fr2, .bool st2], .int .i64 k]) ∧ Own w.heap.size 3 w' (.slice A xs.length c) (xs.map (Value.int .i64)) ∧ Bel w w' := by
  refine (feedF_to lb en wy wt se rs sg fr st b last xs _ k hf w hL).mono ?_
  rintro e w' ⟨v, rfl, ho, hb⟩
  obtain ⟨A, c, hv, _⟩ := ho.form
  rw [List.length_map] at hv
  subst hv
  exact ⟨A, c, rfl, ho, hb⟩
set_option maxHeartbeats 4000000 in
theorem frontBegun_any (w : World) (hL : Len w) : Calls Tryz.prog 12 #[] w fun e w' => e = .returned (.bool true) ∧ Bel w w' := by
  have f1 := Lib.hid M.fb1
  have f2 := Lib.hid M.fb2
  have f3 := Lib.hid M.fb3
  have f4 := Lib.hid M.fb4
  have f5 := Lib.hid M.fb5
  go_enter Tryz.func12, Tryz.ntmps12
  go_wp2_with fail
  refine (choose_to _ _ _ _ _ _ f1.out _ hL).mono ?_
  rintro e w1 ⟨rfl, b1⟩
  go_wp2_with fail
  refine (begin_yes _ (by decide) _).mono ?_
  rintro e w2 ⟨rfl, b2⟩
  go_wp2_with fail
  have hF := Box.new w2 25 [.string ⟨#[117, 116, 102, 45, 56]⟩, .int .i64 0, .int .i64 0, .string ⟨#[]⟩, .int .i64 0, .string ⟨#[]⟩, .int .i64 0, .bool false, .bool false]
  have b2 := (b1.trans b2).alloc (.cells #[.string ⟨#[117, 116, 102, 45, 56]⟩, .int .i64 0, .int .i64 0, .string ⟨#[]⟩, .int .i64 0, .string ⟨#[]⟩, .int .i64 0, .bool false, .bool false] 25)
  have fc0 := hF.cell 0 _ rfl; have fc1 := hF.cell 1 _ rfl; have fc2 := hF.cell 2 _ rfl; have fc3 := hF.cell 3 _ rfl; have fc4 := hF.cell 4 _ rfl; have fc5 := hF.cell 5 _ rfl; have fc6 := hF.cell 6 _ rfl; have fc7 := hF.cell 7 _ rfl; have fc8 := hF.cell 8 _ rfl
  go_wp2_with fail
  refine (feedF_sl ⟨#[117, 116, 102, 45, 56]⟩ 0 0 ⟨#[]⟩ 0 ⟨#[]⟩ 0 false false ⟨#[97, 98]⟩ false [] [117, 116, 102, 45, 56] 0 0 [97, 98] 0 [] 0 false false 0 f2.out _ (hL.bel b2)).mono ?_
  rintro e w3 ⟨A3, c3, rfl, o3, b3⟩
  have hF := hF.bel b3
  have hFl := hF.lt
  have hX := Box.new w3 25 [.string ⟨#[117, 116, 102, 45, 56]⟩, .int .i64 0, .int .i64 0, .string ⟨#[97, 98]⟩, .int .i64 0, .string ⟨#[]⟩, .int .i64 0, .bool false, .bool false]
  have b3 := (b2.trans b3).alloc (.cells #[.string ⟨#[117, 116, 102, 45, 56]⟩, .int .i64 0, .int .i64 0, .string ⟨#[97, 98]⟩, .int .i64 0, .string ⟨#[]⟩, .int .i64 0, .bool false, .bool false] 25)
  have fc0 := hF.cell 0 _ rfl; have fc1 := hF.cell 1 _ rfl; have fc2 := hF.cell 2 _ rfl; have fc3 := hF.cell 3 _ rfl; have fc4 := hF.cell 4 _ rfl; have fc5 := hF.cell 5 _ rfl; have fc6 := hF.cell 6 _ rfl; have fc7 := hF.cell 7 _ rfl; have fc8 := hF.cell 8 _ rfl
  have xc0 := hX.cell 0 _ rfl; have xc1 := hX.cell 1 _ rfl; have xc2 := hX.cell 2 _ rfl; have xc3 := hX.cell 3 _ rfl; have xc4 := hX.cell 4 _ rfl; have xc5 := hX.cell 5 _ rfl; have xc6 := hX.cell 6 _ rfl; have xc7 := hX.cell 7 _ rfl; have xc8 := hX.cell 8 _ rfl
  go_wp2_with fail
  refine (feedF_sl ⟨#[117, 116, 102, 45, 56]⟩ 0 0 ⟨#[97, 98]⟩ 0 ⟨#[]⟩ 0 false false ⟨#[99, 226]⟩ false [97, 98, 99] [117, 116, 102, 45, 56] 1 2 [] 1 [226] 0 false false 0 f3.out _ (hL.bel b3)).mono ?_
  rintro e w4 ⟨A4, c4, rfl, o4, b4⟩
  have hF := Box.bel (Box.bel hF (by repeat (first | exact Bel.refl _ | refine Bel.drewN ?_ _ | refine Bel.drew ?_ | refine Bel.alloc ?_ _ | refine Bel.trans ?_ (by assumption) | refine Bel.setCell ?_ (by simp; omega) _))) b4
  have hX := Box.bel hX b4
  have hFl := hF.lt
  have hXl := hX.lt
  have hY := Box.new w4 25 [.string ⟨#[117, 116, 102, 45, 56]⟩, .int .i64 1, .int .i64 2, .string ⟨#[]⟩, .int .i64 1, .string ⟨#[226]⟩, .int .i64 0, .bool false, .bool false]
  have b4 := (b3.trans b4).alloc (.cells #[.string ⟨#[117, 116, 102, 45, 56]⟩, .int .i64 1, .int .i64 2, .string ⟨#[]⟩, .int .i64 1, .string ⟨#[226]⟩, .int .i64 0, .bool false, .bool false] 25)
  have fc0 := hF.cell 0 _ rfl; have fc1 := hF.cell 1 _ rfl; have fc2 := hF.cell 2 _ rfl; have fc3 := hF.cell 3 _ rfl; have fc4 := hF.cell 4 _ rfl; have fc5 := hF.cell 5 _ rfl; have fc6 := hF.cell 6 _ rfl; have fc7 := hF.cell 7 _ rfl; have fc8 := hF.cell 8 _ rfl
  have xc0 := hX.cell 0 _ rfl; have xc1 := hX.cell 1 _ rfl; have xc2 := hX.cell 2 _ rfl; have xc3 := hX.cell 3 _ rfl; have xc4 := hX.cell 4 _ rfl; have xc5 := hX.cell 5 _ rfl; have xc6 := hX.cell 6 _ rfl; have xc7 := hX.cell 7 _ rfl; have xc8 := hX.cell 8 _ rfl
  have yc0 := hY.cell 0 _ rfl; have yc1 := hY.cell 1 _ rfl; have yc2 := hY.cell 2 _ rfl; have yc3 := hY.cell 3 _ rfl; have yc4 := hY.cell 4 _ rfl; have yc5 := hY.cell 5 _ rfl; have yc6 := hY.cell 6 _ rfl; have yc7 := hY.cell 7 _ rfl; have yc8 := hY.cell 8 _ rfl
  go_wp2_with fail
  refine (feedF_sl ⟨#[117, 116, 102, 45, 56]⟩ 1 2 ⟨#[]⟩ 1 ⟨#[226]⟩ 0 false false ⟨#[]⟩ true [65533] [117, 116, 102, 45, 56] 0 0 [] 0 [] 0 false false 0 f4.out _ (hL.bel b4)).mono ?_
  rintro e w5 ⟨A5, c5, rfl, o5, b5⟩
  have hF := Box.bel (Box.bel hF (by repeat (first | exact Bel.refl _ | refine Bel.drewN ?_ _ | refine Bel.drew ?_ | refine Bel.alloc ?_ _ | refine Bel.trans ?_ (by assumption) | refine Bel.setCell ?_ (by simp; omega) _))) b5
  have hX := Box.bel (Box.bel hX (by repeat (first | exact Bel.refl _ | refine Bel.drewN ?_ _ | refine Bel.drew ?_ | refine Bel.alloc ?_ _ | refine Bel.trans ?_ (by assumption) | refine Bel.setCell ?_ (by simp; omega) _))) b5
  have hY := Box.bel hY b5
  have hFl := hF.lt
  have hXl := hX.lt
  have hYl := hY.lt
  have hZ := Box.new w5 25 [.string ⟨#[117, 116, 102, 45, 56]⟩, .int .i64 0, .int .i64 0, .string ⟨#[]⟩, .int .i64 0, .string ⟨#[]⟩, .int .i64 0, .bool false, .bool false]
  have i4 := IntSl.bel (IntSl.bel o4.ints ((Bel.refl _).alloc (.cells #[.string ⟨#[117, 116, 102, 45, 56]⟩, .int .i64 1, .int .i64 2, .string ⟨#[]⟩, .int .i64 1, .string ⟨#[226]⟩, .int .i64 0, .bool false, .bool false] 25))) b5
  have b5 := (b4.trans b5).alloc (.cells #[.string ⟨#[117, 116, 102, 45, 56]⟩, .int .i64 0, .int .i64 0, .string ⟨#[]⟩, .int .i64 0, .string ⟨#[]⟩, .int .i64 0, .bool false, .bool false] 25)
  have fc0 := hF.cell 0 _ rfl; have fc1 := hF.cell 1 _ rfl; have fc2 := hF.cell 2 _ rfl; have fc3 := hF.cell 3 _ rfl; have fc4 := hF.cell 4 _ rfl; have fc5 := hF.cell 5 _ rfl; have fc6 := hF.cell 6 _ rfl; have fc7 := hF.cell 7 _ rfl; have fc8 := hF.cell 8 _ rfl
  have xc0 := hX.cell 0 _ rfl; have xc1 := hX.cell 1 _ rfl; have xc2 := hX.cell 2 _ rfl; have xc3 := hX.cell 3 _ rfl; have xc4 := hX.cell 4 _ rfl; have xc5 := hX.cell 5 _ rfl; have xc6 := hX.cell 6 _ rfl; have xc7 := hX.cell 7 _ rfl; have xc8 := hX.cell 8 _ rfl
  have yc0 := hY.cell 0 _ rfl; have yc1 := hY.cell 1 _ rfl; have yc2 := hY.cell 2 _ rfl; have yc3 := hY.cell 3 _ rfl; have yc4 := hY.cell 4 _ rfl; have yc5 := hY.cell 5 _ rfl; have yc6 := hY.cell 6 _ rfl; have yc7 := hY.cell 7 _ rfl; have yc8 := hY.cell 8 _ rfl
  have zc0 := hZ.cell 0 _ rfl; have zc1 := hZ.cell 1 _ rfl; have zc2 := hZ.cell 2 _ rfl; have zc3 := hZ.cell 3 _ rfl; have zc4 := hZ.cell 4 _ rfl; have zc5 := hZ.cell 5 _ rfl; have zc6 := hZ.cell 6 _ rfl; have zc7 := hZ.cell 7 _ rfl; have zc8 := hZ.cell 8 _ rfl
  go_wp2_with fail
  have il : IntSl ((w5.alloc (.cells #[.string ⟨#[117, 116, 102, 45, 56]⟩, .int .i64 0, .int .i64 0, .string ⟨#[]⟩, .int .i64 0, .string ⟨#[]⟩, .int .i64 0, .bool false, .bool false] 25)).alloc (.cells #[.int .i64 97, .int .i64 98, .int .i64 99] 3)) (.slice (some ⟨w5.heap.size + 1, 0, none⟩) 3 3) [97, 98, 99] := IntSl.litAt (w5.alloc (.cells #[.string ⟨#[117, 116, 102, 45, 56]⟩, .int .i64 0, .int .i64 0, .string ⟨#[]⟩, .int .i64 0, .string ⟨#[]⟩, .int .i64 0, .bool false, .bool false] 25)) 3 [97, 98, 99] (w5.heap.size + 1) (by simp) (by decide)
  have i4 := IntSl.bel i4 (((Bel.refl w5).alloc (.cells #[.string ⟨#[117, 116, 102, 45, 56]⟩, .int .i64 0, .int .i64 0, .string ⟨#[]⟩, .int .i64 0, .string ⟨#[]⟩, .int .i64 0, .bool false, .bool false] 25)).alloc (.cells #[.int .i64 97, .int .i64 98, .int .i64 99] 3))
  refine (sameInts_yes _ _ _ _ _ i4 il rfl).mono ?_
  rintro e w6 ⟨rfl, b6⟩
  have b56 : Bel (w5.alloc (.cells #[.string ⟨#[117, 116, 102, 45, 56]⟩, .int .i64 0, .int .i64 0, .string ⟨#[]⟩, .int .i64 0, .string ⟨#[]⟩, .int .i64 0, .bool false, .bool false] 25)) w6 := ((Bel.refl _).alloc _).trans b6
  have c56 : Bel w5 w6 := ((Bel.refl w5).alloc _).trans b56
  have hF := hF.bel c56
  have hX := hX.bel c56
  have hY := hY.bel c56
  have hZ := hZ.bel b56
  have i5 := o5.ints.bel c56
  have b6 := b5.trans b56
  have hFl := hF.lt
  have hXl := hX.lt
  have hYl := hY.lt
  have hZl := hZ.lt
  have fc0 := hF.cell 0 _ rfl; have fc1 := hF.cell 1 _ rfl; have fc2 := hF.cell 2 _ rfl; have fc3 := hF.cell 3 _ rfl; have fc4 := hF.cell 4 _ rfl; have fc5 := hF.cell 5 _ rfl; have fc6 := hF.cell 6 _ rfl; have fc7 := hF.cell 7 _ rfl; have fc8 := hF.cell 8 _ rfl
  have xc0 := hX.cell 0 _ rfl; have xc1 := hX.cell 1 _ rfl; have xc2 := hX.cell 2 _ rfl; have xc3 := hX.cell 3 _ rfl; have xc4 := hX.cell 4 _ rfl; have xc5 := hX.cell 5 _ rfl; have xc6 := hX.cell 6 _ rfl; have xc7 := hX.cell 7 _ rfl; have xc8 := hX.cell 8 _ rfl
  have yc0 := hY.cell 0 _ rfl; have yc1 := hY.cell 1 _ rfl; have yc2 := hY.cell 2 _ rfl; have yc3 := hY.cell 3 _ rfl; have yc4 := hY.cell 4 _ rfl; have yc5 := hY.cell 5 _ rfl; have yc6 := hY.cell 6 _ rfl; have yc7 := hY.cell 7 _ rfl; have yc8 := hY.cell 8 _ rfl
  have zc0 := hZ.cell 0 _ rfl; have zc1 := hZ.cell 1 _ rfl; have zc2 := hZ.cell 2 _ rfl; have zc3 := hZ.cell 3 _ rfl; have zc4 := hZ.cell 4 _ rfl; have zc5 := hZ.cell 5 _ rfl; have zc6 := hZ.cell 6 _ rfl; have zc7 := hZ.cell 7 _ rfl; have zc8 := hZ.cell 8 _ rfl
  clear b56 c56 i4 il o3 o4 o5
  go_wp2_with fail
  have il2 := IntSl.lit w6 3 [65533] (by decide)
  have i5 := i5.bel ((Bel.refl w6).alloc (.cells #[.int .i64 65533] 3))
  refine (sameInts_yes _ _ _ _ _ i5 il2 rfl).mono ?_
  rintro e w7 ⟨rfl, b7⟩
  have c67 : Bel w6 w7 := ((Bel.refl w6).alloc _).trans b7
  have hF := hF.bel c67
  have hX := hX.bel c67
  have hY := hY.bel c67
  have hZ := hZ.bel c67
  have b7 := b6.trans c67
  have fc0 := hF.cell 0 _ rfl; have fc1 := hF.cell 1 _ rfl; have fc2 := hF.cell 2 _ rfl; have fc3 := hF.cell 3 _ rfl; have fc4 := hF.cell 4 _ rfl; have fc5 := hF.cell 5 _ rfl; have fc6 := hF.cell 6 _ rfl; have fc7 := hF.cell 7 _ rfl; have fc8 := hF.cell 8 _ rfl
  have xc0 := hX.cell 0 _ rfl; have xc1 := hX.cell 1 _ rfl; have xc2 := hX.cell 2 _ rfl; have xc3 := hX.cell 3 _ rfl; have xc4 := hX.cell 4 _ rfl; have xc5 := hX.cell 5 _ rfl; have xc6 := hX.cell 6 _ rfl; have xc7 := hX.cell 7 _ rfl; have xc8 := hX.cell 8 _ rfl
  have yc0 := hY.cell 0 _ rfl; have yc1 := hY.cell 1 _ rfl; have yc2 := hY.cell 2 _ rfl; have yc3 := hY.cell 3 _ rfl; have yc4 := hY.cell 4 _ rfl; have yc5 := hY.cell 5 _ rfl; have yc6 := hY.cell 6 _ rfl; have yc7 := hY.cell 7 _ rfl; have yc8 := hY.cell 8 _ rfl
  have zc0 := hZ.cell 0 _ rfl; have zc1 := hZ.cell 1 _ rfl; have zc2 := hZ.cell 2 _ rfl; have zc3 := hZ.cell 3 _ rfl; have zc4 := hZ.cell 4 _ rfl; have zc5 := hZ.cell 5 _ rfl; have zc6 := hZ.cell 6 _ rfl; have zc7 := hZ.cell 7 _ rfl; have zc8 := hZ.cell 8 _ rfl
  go_wp2_with fail
  refine (checkFr_to ⟨#[117, 116, 102, 45, 56]⟩ 1 2 ⟨#[]⟩ 1 ⟨#[226]⟩ 0 false false 0 f5.out _).mono ?_
  rintro e w8 ⟨rfl, b8⟩
  go_wp2_with fail
  go_ret
  exact ⟨rfl, b7.trans b8⟩
end Go.Proofs.YtcgdecpjlggekaaGreatDoor

/-
  The walks of the laws on marks.
-/
namespace Go.Proofs.YtcgdecpjlggekaaGreatDoor
open Go.RowKit

theorem markBegun_any (w : World) : Calls Tryz.prog 15 #[] w fun e w' => e = .returned (.bool true) ∧ Bel w w' := by
  have f1 : (M.sniff [239, 187, 191, 97]).1 = 1 := by decide
  have f2 : (M.sniff [239, 187, 191, 97]).2 = 3 := by decide
  have f3 : (M.sniff [254, 255]).1 = 3 := by decide
  have f4 : (M.put 2 [120]).1 = [255, 254, 120] := by decide
  have f5 : (M.put 2 [120]).2 = 0 := by decide
  have f6 : M.may [239] = true := by decide
  have f7 : M.may [97] = false := by decide
  go_enter Tryz.func15, Tryz.ntmps15
  go_wp2_with (first | (go_at_call 18; refine (sniff_any _ _).mono ?_; rintro e w' ⟨rfl, hb⟩) | (go_at_call 33; refine (put_any _ _ _ (by decide)).mono ?_; rintro e w' ⟨rfl, hb⟩) | (go_at_call 34; refine (may_any _ _).mono ?_; rintro e w' ⟨rfl, hb⟩))
  go_ret
  exact ⟨rfl, (by repeat (first | exact Bel.refl _ | refine Bel.drewN ?_ _ | refine Bel.drew ?_ | refine Bel.alloc ?_ _ | refine Bel.trans ?_ (by assumption) | refine Bel.setCell ?_ (by simp; omega) _))⟩

theorem sniff_to (s : ByteArray) (n k : Int) (h : M.sniff s.data.toList = (n, k)) (w : World) : Calls Tryz.prog 18 #[.string s] w fun e w' => e = .returned (.tuple #[.int .i64 n, .int .i64 k]) ∧ Bel w w' := by
  have := sniff_any s w; rw [h] at this; exact this
theorem may_to (s : ByteArray) (b : Bool) (h : M.may s.data.toList = b) (w : World) : Calls Tryz.prog 34 #[.string s] w fun e w' => e = .returned (.bool b) ∧ Bel w w' := by
  have := may_any s w; rw [h] at this; exact this
theorem put_to (n : Int) (s : ByteArray) (t : List UInt8) (e : Int) (h : M.put n s.data.toList = (t, e)) (hs : s.size ≤ 9223372036854775800) (w : World) : Calls Tryz.prog 33 #[.int .i64 n, .string s] w fun e' w' => e' = .returned (.tuple #[.string ⟨t.toArray⟩, .int .i64 e]) ∧ Bel w w' := by
  have := put_any n s w hs; rw [h] at this; exact this

end Go.Proofs.YtcgdecpjlggekaaGreatDoor

/-
  Small answers: is a number between two, is it an encoding, is a text too long.
-/
namespace Go.Proofs.YtcgdecpjlggekaaGreatDoor
open Go.RowKit

theorem between_any (n a b : Int) (w : World) : Calls Tryz.prog 24 #[.int .i64 n, .int .i64 a, .int .i64 b] w fun e w' => e = .returned (.bool (decide (a ≤ n ∧ n ≤ b))) ∧ w = w' := by
  by_cases h : a ≤ n <;> by_cases h2 : n ≤ b
  all_goals
    go_enter Tryz.func24, Tryz.ntmps24
    go_wp2
    go_ret
    refine ⟨?_, rfl⟩
    simp
    omega
theorem isEncoding_any (n : Int) (w : World) : Calls Tryz.prog 45 #[.int .i64 n] w fun e w' => e = .returned (.bool (M.isEnc n)) ∧ w = w' := by
  have H := Lib.hid (show decide (1 ≤ n ∧ n ≤ 7) = M.isEnc n from rfl)
  go_enter Tryz.func45, Tryz.ntmps45
  go_wp2_with (go_at_call 24; refine (between_any _ _ _ _).mono ?_; rintro e w' ⟨rfl, rfl⟩)
  go_ret
  refine ⟨?_, rfl⟩
  rw [← H.out]
  exact ret_bool (by simp)
theorem tooLong_any (s : ByteArray) (w : World) : Calls Tryz.prog 8 #[.string s] w fun e w' => e = .returned (.int .i64 (M.long s.data.toList)) ∧ w = w' := by
  by_cases h : 3000 < s.size
  · have H := Lib.hid (show M.long s.data.toList = 2 by rw [M.long, if_pos (by rw [← Lib.size_eq]; exact h)])
    go_enter Tryz.func8, Tryz.ntmps8
    go_wp2
    go_ret
    exact ⟨by rw [H.out]; rfl, rfl⟩
  · have H := Lib.hid (show M.long s.data.toList = 0 by rw [M.long, if_neg (by rw [← Lib.size_eq]; exact h)])
    go_enter Tryz.func8, Tryz.ntmps8
    go_wp2
    go_ret
    exact ⟨by rw [H.out]; rfl, rfl⟩
end Go.Proofs.YtcgdecpjlggekaaGreatDoor

/-
  The document's answers on labels: TrimOf, FoldOf, FindOf, NameOf.
-/
namespace Go.Proofs.YtcgdecpjlggekaaGreatDoor
open Go.RowKit
set_option maxRecDepth 1000000

theorem trimL_cons (c : UInt8) (l : List UInt8) (h : M.white c = true) : M.trimL (c :: l) = M.trimL l := by
  rw [M.trimL, List.dropWhile_cons, if_pos h]; rfl
theorem trimR_snoc (c : UInt8) (l : List UInt8) (h : M.white c = true) : M.trimR (l ++ [c]) = M.trimR l := by
  rw [M.trimR, List.reverse_append, List.reverse_cons, List.reverse_nil, List.nil_append, List.singleton_append, List.dropWhile_cons, if_pos h]; rfl
theorem trimR_stop (c : UInt8) (l : List UInt8) (h : M.white c = false) : M.trimR (l ++ [c]) = l ++ [c] := by
  rw [M.trimR, List.reverse_append, List.reverse_cons, List.reverse_nil, List.nil_append, List.singleton_append, List.dropWhile_cons, if_neg (by rw [h]; decide), List.reverse_cons, List.reverse_reverse]
theorem take_str (s : ByteArray) (k : Nat) : (s.extract 0 k).data.toList = s.data.toList.take k := by
  rw [Lib.extract_data, List.drop_zero, Nat.sub_zero]
theorem snoc_of (u : ByteArray) (h : 0 < u.size) : u.data.toList = u.data.toList.take (u.size - 1) ++ [u[u.size - 1]] := by
  have e : u.size - 1 + 1 = u.data.toList.length := by rw [← Lib.size_eq]; omega
  have := List.take_add_one (l := u.data.toList) (i := u.size - 1)
  rw [e, List.take_length, byte_at u (u.size - 1) (by omega)] at this
  exact this
theorem M.trim_lr (l : List UInt8) : M.trim l = M.trimR (M.trimL l) := rfl
theorem trimOf_any (s : ByteArray) (w : World) (hs : s.size ≤ 68719476735) : Calls Tryz.prog 50 #[.string s] w fun e w' => e = .returned (.string ⟨(M.trim s.data.toList).toArray⟩) ∧ w = w' := by
  go_enter Tryz.func50, Tryz.ntmps50
  go_wp2_with fail
  go_loop [0] (fun v => ∃ t : ByteArray, v = .string t ∧ t.size ≤ s.size ∧ Hid (M.trimL t.data.toList = M.trimL s.data.toList)) (fun v => strLen v)
  case atStart => exact ⟨s, rfl, Nat.le_refl _, Lib.hid rfl⟩
  case round =>
    obtain ⟨t, rfl, ht, HT⟩ := hrel
    by_cases hlt : 0 < t.size
    · have HB := Lib.hid (byte_at t 0 hlt)
      have HS := Lib.hid (drop_size t 1)
      have HD := Lib.hid (drop_str t 1)
      cases hw : M.white t[0] with
      | true =>
        have HW := Lib.hid hw
        clear hw
        go_wp2_with (go_at_call 53; refine (isWhite_any _ _).mono ?_; rintro e w' ⟨rfl, rfl⟩; rw [HW.out])
        go_round
        case rel =>
          refine ⟨_, rfl, by rw [HS.out]; omega, Lib.hid ?_⟩
          rw [← HT.out, HD.out]
          cases hl : t.data.toList with
          | nil => rw [hl] at HB; cases HB.out
          | cons c l =>
            have h2 := HB.out
            rw [hl] at h2
            injection h2 with h2
            rw [trimL_cons c l (by rw [h2]; exact HW.out)]; rfl
        case measure => simp only [strLen, HS.out]; omega
      | false =>
        have HE := Lib.hid (show t.data.toList = M.trimL s.data.toList by
          rw [← HT.out, M.trimL_of_head]
          intro c hc
          have h2 := HB.out
          rw [List.head?_eq_getElem?, h2] at hc
          injection hc with hc
          rw [← hc]; exact hw)
        have HW := Lib.hid hw
        clear hw
        go_wp2_with (go_at_call 53; refine (isWhite_any _ _).mono ?_; rintro e w' ⟨rfl, rfl⟩; rw [HW.out])
        clear HB HS HD HT HW
        go_loop [0] (fun v => ∃ u : ByteArray, v = .string u ∧ u.size ≤ t.size ∧ Hid (M.trimR u.data.toList = M.trimR t.data.toList)) (fun v => strLen v)
        case atStart => exact ⟨t, rfl, Nat.le_refl _, Lib.hid rfl⟩
        case round =>
          obtain ⟨u, rfl, hu, HT⟩ := hrel
          by_cases hlt2 : 0 < u.size
          · have HB := Lib.hid (byte_at u (u.size - 1) (by omega))
            have hlast : ((u.size : Int) - 1).toNat = u.size - 1 := by omega
            cases hw : M.white (u[u.size - 1]'(by omega)) with
            | true =>
              have HW := Lib.hid hw
              clear hw
              go_wp2_with (go_at_call 53; refine (isWhite_any _ _).mono ?_; rintro e w' ⟨rfl, rfl⟩; rw [HW.out])
              go_round
              case rel =>
                refine ⟨_, rfl, ?_, Lib.hid ?_⟩
                · rw [Lib.size_eq, take_str, List.length_take, ← Lib.size_eq]; omega
                · rw [← HT.out, take_str]
                  have e := snoc_of u hlt2
                  conv => rhs; rw [e]
                  rw [trimR_snoc _ _ HW.out]
              case measure => simp only [strLen]; rw [Lib.size_eq, take_str, List.length_take, ← Lib.size_eq]; omega
            | false =>
              have HW := Lib.hid hw
              clear hw
              go_wp2_with (go_at_call 53; refine (isWhite_any _ _).mono ?_; rintro e w' ⟨rfl, rfl⟩; rw [HW.out])
              go_ret
              refine ⟨?_, rfl⟩
              rw [M.trim_lr, ← HE.out, ← HT.out]
              have e := snoc_of u hlt2
              rw [e, trimR_stop _ _ HW.out, ← e, str_eq]; rfl
          · have hz : u.data.toList = [] := by
              rw [← List.length_eq_zero_iff, ← Lib.size_eq]; omega
            have HZ := Lib.hid hz
            clear hz
            go_wp2_with fail
            go_ret
            refine ⟨?_, rfl⟩
            rw [M.trim_lr, ← HE.out, ← HT.out, HZ.out]
            have e : u = ⟨(M.trimR []).toArray⟩ := by rw [← str_eq u, HZ.out]; rfl
            rw [← e]; rfl
    · have hz : t.data.toList = [] := by
        rw [← List.length_eq_zero_iff, ← Lib.size_eq]; omega
      have HZ := Lib.hid hz
      clear hz
      go_wp2_with fail
      refine wp_loop_rounds 2 ?_
      rw [rounds_succ]
      go_wp2_with fail
      go_ret
      refine ⟨?_, rfl⟩
      rw [M.trim_lr, ← HT.out, HZ.out]
      have e : t = ⟨(M.trimR (M.trimL [])).toArray⟩ := by rw [← str_eq t, HZ.out]; rfl
      rw [← e]; rfl
theorem foldOf_any (s : ByteArray) (w : World) (hs : s.size ≤ 68719476735) : Calls Tryz.prog 49 #[.string s] w fun e w' => e = .returned (.string ⟨(M.fold s.data.toList).toArray⟩) ∧ Bel w w' := by
  have HL := Lib.hid (show (M.fold s.data.toList).length = s.size by rw [M.fold_len, ← Lib.size_eq])
  go_enter Tryz.func49, Tryz.ntmps49
  go_wp2_with fail
  go_loopw [3, 4] (fun v i wr => ∃ k : Nat, k ≤ s.size ∧ i = .int .i64 k ∧ Own w.heap.size 5 wr v (((M.fold s.data.toList).take k).map byteVal) ∧ Bel w wr) (fun _ i _ => s.size - (intOf i).toNat)
  case atStart => exact ⟨0, by omega, rfl, Own.nil _ _ _, Bel.refl _⟩
  case round =>
    obtain ⟨k, hk, rfl, hown, hb⟩ := hrel
    by_cases hlt : k < s.size
    · have HT := Lib.hid (take_snoc byteVal (M.fold s.data.toList) k (M.fold1 s[k]) (by unfold M.fold; rw [List.getElem?_map, byte_at s k hlt]; rfl))
      have hlen : ((M.fold s.data.toList).take k).length ≤ k := List.length_take_le _ _
      have hc0 : s[k].toNat < 256 := s[k].toNat_lt
      by_cases h1 : 65 ≤ s[k].toNat ∧ s[k].toNat ≤ 90
      · have HF := Lib.hid (show byteVal (M.fold1 s[k]) = .int .u8 ((s[k].toNat : Int) + 32) by
          rw [byteVal, M.fold1, if_pos h1, M.add32 s[k] h1]; rfl)
        have e1 : decide ((65 : Int) ≤ (s[k].toNat : Int) ∧ (s[k].toNat : Int) ≤ 90) = true := by rw [decide_eq_true_eq]; omega
        have h2 := h1.2
        go_wp2_with (first | (go_at_call 24; refine (between_any _ _ _ _).mono ?_; rintro e w' ⟨rfl, rfl⟩; rw [e1]) | (at_builtin; refine wpList_app rfl (.tmp 20) (.tmp 22) 111 rfl elemByte (by decide) w.heap.size _ _ _ rfl rfl hown rfl (by simp; omega) (by first | exact Nat.le_refl _ | assumption | (have := hb.size; omega)) ?_; intro v' w1 hown' hb1))
        go_roundw
        case rel => exact ⟨k + 1, by omega, by go_num, by rw [HT.out, HF.out]; exact hown', hb.upto hb1 (Nat.le_refl _)⟩
        case measure => simp [intOf]; omega
      · have HF := Lib.hid (show byteVal (M.fold1 s[k]) = .int .u8 (s[k].toNat : Int) by
          rw [byteVal, M.fold1, if_neg h1])
        have e1 : decide ((65 : Int) ≤ (s[k].toNat : Int) ∧ (s[k].toNat : Int) ≤ 90) = false := by rw [decide_eq_false_iff_not]; omega
        go_wp2_with (first | (go_at_call 24; refine (between_any _ _ _ _).mono ?_; rintro e w' ⟨rfl, rfl⟩; rw [e1]) | (at_builtin; refine wpList_app rfl (.tmp 20) (.tmp 22) 111 rfl elemByte (by decide) w.heap.size _ _ _ rfl rfl hown rfl (by simp; omega) (by first | exact Nat.le_refl _ | assumption | (have := hb.size; omega)) ?_; intro v' w1 hown' hb1))
        go_roundw
        case rel => exact ⟨k + 1, by omega, by go_num, by rw [HT.out, HF.out]; exact hown', hb.upto hb1 (Nat.le_refl _)⟩
        case measure => simp [intOf]; omega
    · obtain rfl : k = s.size := by omega
      have HT := Lib.hid (show (M.fold s.data.toList).take s.size = M.fold s.data.toList by rw [← HL.out, List.take_length])
      rw [HT.out] at hown
      go_wp2_with ((with_reducible show wpList _ _ _ _ _ _); refine wpList_toString rfl (.tmp 24) _ _ 5 rfl Tryz.underlying111 Tryz.underlying5 Tryz.underlying9 w.heap.size _ _ rfl hown ?_)
      go_ret
      exact ⟨rfl, hb⟩
theorem findOf_any (s : ByteArray) (w : World) (hs : s.size ≤ 68719476735) : Calls Tryz.prog 28 #[.string s] w fun e w' => e = .returned (.int .i64 (M.find s.data.toList)) ∧ Bel w w' := by
  have HF := Lib.hid (M.find_first (M.fold (M.trim s.data.toList)))
  have HN := Lib.hid (M.find_none (M.fold (M.trim s.data.toList)))
  have HL := Lib.hid (M.trim_len s.data.toList)
  have HS := Lib.hid (Lib.size_eq s)
  go_enter Tryz.func28, Tryz.ntmps28
  go_wp2_with (first | (go_at_call 51; refine (labels_any _).mono ?_; rintro e w' ⟨rfl, hc, b3, hg1⟩) | (go_at_call 50; refine (trimOf_any s _ (by omega)).mono ?_; rintro e w' ⟨rfl, rfl⟩) | (go_at_call 49; refine (foldOf_any _ _ (by rw [size_str]; have := HL.out; rw [← HS.out] at this; omega)).mono ?_; rintro e wA ⟨rfl, b1⟩))
  obtain ⟨z, hz⟩ : ∃ z : ByteArray, z = ⟨(M.fold (M.trim s.data.toList)).toArray⟩ := ⟨_, rfl⟩
  rw [← hz]
  have HZ := Lib.hid hz
  clear hz
  have HC := Lib.hid hc
  clear hc
  go_loop [4] (fun i => ∃ k : Nat, k ≤ 22 ∧ i = .int .i64 k ∧ Hid (∀ j, j < k → ((M.labelAt j).1 == M.fold (M.trim s.data.toList)) = false)) (fun i => 22 - (intOf i).toNat)
  case atStart => exact ⟨0, by omega, rfl, Lib.hid (fun j hj => by omega)⟩
  case round =>
    obtain ⟨k, hk, rfl, HNO⟩ := hrel
    by_cases hlt : k < 22
    · obtain ⟨c1, c2⟩ := HC.out k hlt
      rw [Nat.zero_add] at c1 c2
      have HA := Lib.hid (show ((⟨(M.labelAt k).1.toArray⟩ : ByteArray).toList == z.toList) = ((M.labelAt k).1 == M.fold (M.trim s.data.toList)) by
        rw [Lib.toList_data, HZ.out, Lib.toList_data])
      generalize (⟨(M.labelAt k).1.toArray⟩ : ByteArray) = a at c1 HA
      cases hq : ((M.labelAt k).1 == M.fold (M.trim s.data.toList)) with
      | true =>
        have ha : (a.toList == z.toList) = true := by rw [HA.out, hq]
        have HE := Lib.hid (HF.out k hlt hq HNO.out)
        clear hq
        go_wp2_with fail
        go_ret
        exact ⟨by rw [M.find, HE.out]; rfl, b1.trans b3⟩
      | false =>
        have ha : (a.toList == z.toList) = false := by rw [HA.out, hq]
        have HR := Lib.hid (show ∀ j, j < k + 1 → ((M.labelAt j).1 == M.fold (M.trim s.data.toList)) = false by
          intro j hj
          by_cases e : j = k
          · subst e; exact hq
          · exact HNO.out j (by omega))
        clear hq
        go_wp2_with fail
        go_round
        case rel => exact ⟨k + 1, by omega, by go_num, HR⟩
        case measure => simp [intOf]; omega
    · obtain rfl : k = 22 := by omega
      have HE := Lib.hid (HN.out HNO.out)
      go_wp2_with fail
      go_ret
      exact ⟨by rw [M.find, HE.out]; rfl, b1.trans b3⟩
end Go.Proofs.YtcgdecpjlggekaaGreatDoor

/-
  The laws on labels: labelBegun, LabelTells.
-/
namespace Go.Proofs.YtcgdecpjlggekaaGreatDoor
open Go.RowKit
set_option maxRecDepth 1000000

theorem labelBegun_any (w : World) : Calls Tryz.prog 16 #[] w fun e w' => e = .returned (.bool true) ∧ Bel w w' := by
  have h1 := trim_to ⟨#[9, 32, 97, 32, 98, 32, 10]⟩ [97, 32, 98] 0 (by decide +kernel) (by decide)
  have h2 := fold_to ⟨#[65, 196, 122]⟩ [97, 196, 122] 0 (by decide +kernel) (by decide)
  have h3 := find_to ⟨#[32, 76, 97, 116, 105, 110, 49, 13]⟩ 4 0 (by decide +kernel) (by decide)
  have h4 := name_to 3 [117, 116, 102, 45, 49, 54, 98, 101] 0 (by decide +kernel)
  have h5 := name_to 0 [] 6 (by decide +kernel)
  go_enter Tryz.func16, Tryz.ntmps16
  go_wp2_with fail
  refine (h1 _).mono ?_
  rintro e w1 ⟨rfl, b1⟩
  go_wp2_with fail
  refine (h2 _).mono ?_
  rintro e w2 ⟨rfl, b2⟩
  go_wp2_with fail
  refine (h3 _).mono ?_
  rintro e w3 ⟨rfl, b3⟩
  go_wp2_with fail
  refine (h4 _).mono ?_
  rintro e w4 ⟨rfl, b4⟩
  go_wp2_with fail
  refine (h5 _).mono ?_
  rintro e w5 ⟨rfl, b5⟩
  go_wp2_with fail
  go_ret
  exact ⟨rfl, (((b1.trans b2).trans b3).trans b4).trans b5⟩
end Go.Proofs.YtcgdecpjlggekaaGreatDoor

/-
  The document's answers on attributes: SameAttrs.
-/
namespace Go.Proofs.YtcgdecpjlggekaaGreatDoor
open Go.RowKit
set_option maxRecDepth 1000000

end Go.Proofs.YtcgdecpjlggekaaGreatDoor

/-
  The laws on attributes: attrBegun, AttrEach.
-/
namespace Go.Proofs.YtcgdecpjlggekaaGreatDoor
open Go.RowKit
set_option maxRecDepth 1000000

end Go.Proofs.YtcgdecpjlggekaaGreatDoor

/-
  The law ScanFar; what must be in any case of scans.
-/
namespace Go.Proofs.YtcgdecpjlggekaaGreatDoor
open Go.RowKit
set_option maxRecDepth 1000000
set_option maxHeartbeats 2000000

theorem attrLit1 (w : World) (p : List UInt8 × List UInt8) : AttrSl (w.alloc (.cells #[.string ⟨p.1.toArray⟩, .string ⟨p.2.toArray⟩] 66)) (.slice (some ⟨w.heap.size, 0, none⟩) 1 1) [p] := by
  refine ⟨some ⟨w.heap.size, 0, none⟩, 1, rfl, Nat.le_refl _, by unfold maxLen; omega, (fun h => by cases h), fun x hx _ => ⟨w.heap.size, 0, by injection hx with hx; exact hx.symm, fun i r hr => ?_⟩⟩
  match i, hr with
  | 0, hr => injection hr with hr; subst hr; exact ⟨by rw [World.cell?_alloc_new]; rfl, by rw [World.cell?_alloc_new]; rfl⟩
theorem begun_scan : M.scanE (⟨#[60, 33, 45, 45, 62, 60, 109, 101, 116, 97, 32, 99, 104, 97, 114, 115, 101, 116, 61, 120, 45, 117, 115, 101, 114, 45, 100, 101, 102, 105, 110, 101, 100, 62]⟩ : ByteArray).data.toList = (4, 0) := by decide +kernel
theorem begun_meta : M.metaE [([99, 104, 97, 114, 115, 101, 116], [117, 116, 102, 45, 49, 54])] = (1, 0) := by decide +kernel
theorem scanBegun_any (w : World) (hL : Len w) : Calls Tryz.prog 17 #[] w fun e w' => e = .returned (.bool true) ∧ Bel w w' := by
  go_enter Tryz.func17, Tryz.ntmps17
  go_wp2_with fail
  refine (scan_to _ 4 0 (by decide +kernel) _ hL).mono ?_
  rintro e w1 ⟨rfl, b1⟩
  go_wp2_with fail
  refine (metaS_to _ _ _ _ begun_meta _ (attrLit1 w1 ([99, 104, 97, 114, 115, 101, 116], [117, 116, 102, 45, 49, 54])) (hL.bel (b1.alloc _))).mono ?_
  rintro e w2 ⟨rfl, b2⟩
  have b2 := (b1.alloc _).trans b2
  go_wp2_with fail
  refine (scan_to _ _ _ begun_scan _ (hL.bel b2)).mono ?_
  rintro e w3 ⟨rfl, b3⟩
  go_wp2_with fail
  go_ret
  exact ⟨rfl, b2.trans b3⟩
end Go.Proofs.YtcgdecpjlggekaaGreatDoor

/-
  The law FrontMark.
-/
namespace Go.Proofs.YtcgdecpjlggekaaGreatDoor
open Go.RowKit
set_option maxRecDepth 1000000
set_option maxHeartbeats 4000000

theorem sniffM_to (s : ByteArray) (n k : Int) (h : M.sniff s.data.toList = (n, k)) (w : World) : Calls Tryz.prog 18 #[.string s] w fun e w' => e = .returned (.tuple #[.int .i64 n, .int .i64 k]) ∧ Bel w w' := by
  have := sniff_any s w; rw [h] at this; exact this
theorem frontMarkTrue (nm s : ByteArray) (w : World) (hn : nm.size ≤ reachBytes) (_ : s.size ≤ reachBytes) (hL : Len w) : Calls Tryz.prog 4 #[.string nm, .string s] w fun e w' => e = .returned (.bool true) ∧ Bel w w' := by
  simp only [reachBytes] at hn
  by_cases hl : 3000 < nm.size ∨ 3000 < s.size
  · have HC := Lib.hid (show M.chooseE nm.data.toList s.data.toList = (0, 0, 0, 2) by rw [M.chooseE, ← Lib.size_eq, ← Lib.size_eq, if_pos hl])
    clear hl
    go_enter Tryz.func4, Tryz.ntmps4
    go_wp2_with fail
    refine (choose_to nm s _ _ _ _ HC.out _ hL).mono ?_
    rintro e w1 ⟨rfl, b1⟩
    go_wp2_with fail
    refine (frontBegun_any _ (hL.bel b1)).mono ?_
    rintro e w2 ⟨rfl, b2⟩
    have b2 := b1.trans b2
    go_wp2_with fail
    refine (markBegun_any _).mono ?_
    rintro e w3 ⟨rfl, b3⟩
    have b3 := b2.trans b3
    go_wp2_with fail
    refine (labelBegun_any _).mono ?_
    rintro e w4 ⟨rfl, b4⟩
    have b4 := b3.trans b4
    go_wp2_with fail
    refine (scanBegun_any _ (hL.bel b4)).mono ?_
    rintro e w5 ⟨rfl, b5⟩
    have b5 := b4.trans b5
    go_wp2_with fail
    go_ret
    exact ⟨by first | rfl | simp, b5⟩
  · have hln : ¬ 3000 < nm.size := fun h => hl (.inl h)
    have hls : ¬ 3000 < s.size := fun h => hl (.inr h)
    obtain ⟨a, b, hsn⟩ : ∃ a b, M.sniff s.data.toList = (a, b) := ⟨_, _, rfl⟩
    have HSN := Lib.hid hsn
    obtain ⟨f, hf⟩ : ∃ f, M.find nm.data.toList = f := ⟨_, rfl⟩
    have HF := Lib.hid (show M.findE nm.data.toList = (f, 0) by rw [M.findE, ← Lib.size_eq, if_neg hln, hf])
    obtain ⟨m, hm⟩ : ∃ m, M.scanA s.data.toList = m := ⟨_, rfl⟩
    have HM := Lib.hid (show M.scanE s.data.toList = (m, 0) by rw [M.scanE, ← Lib.size_eq, if_neg hls, hm])
    have hc : M.chooseE nm.data.toList s.data.toList = (if a ≠ 0 then (a, 1, b, 0) else if f ≠ 0 then (f, 2, 0, 0) else if m ≠ 0 then (m, 3, 0, 0) else (4, 4, 0, 0)) := by
      rw [M.chooseE, ← Lib.size_eq, ← Lib.size_eq, if_neg hl, M.chosen, hsn, hf, hm]
      simp only
      split
      · rfl
      · split
        · rfl
        · split
          · rfl
          · rfl
    clear hsn hf hm hl
    by_cases h1 : a = 0
    · rw [if_neg (by simp [h1])] at hc
      subst h1
      by_cases h2 : f = 0
      · rw [if_neg (by simp [h2])] at hc
        subst h2
        by_cases h3 : m = 0
        · rw [if_neg (by simp [h3])] at hc
          subst h3
          have HC := Lib.hid hc
          clear hc hln hls
          skip
          go_enter Tryz.func4, Tryz.ntmps4
          go_wp2_with fail
          refine (choose_to nm s _ _ _ _ HC.out _ hL).mono ?_
          rintro e w1 ⟨rfl, b1⟩
          go_wp2_with fail
          refine (frontBegun_any _ (hL.bel b1)).mono ?_
          rintro e w2 ⟨rfl, b2⟩
          have b2 := b1.trans b2
          go_wp2_with fail
          refine (markBegun_any _).mono ?_
          rintro e w3 ⟨rfl, b3⟩
          have b3 := b2.trans b3
          go_wp2_with fail
          refine (labelBegun_any _).mono ?_
          rintro e w4 ⟨rfl, b4⟩
          have b4 := b3.trans b4
          go_wp2_with fail
          refine (scanBegun_any _ (hL.bel b4)).mono ?_
          rintro e w5 ⟨rfl, b5⟩
          have b5 := b4.trans b5
          go_wp2_with fail
          refine (sniffM_to s _ _ HSN.out _).mono ?_
          rintro e w6 ⟨rfl, b6⟩
          have b6 := b5.trans b6
          go_wp2_with fail
          refine (find_to nm _ _ HF.out (by omega) _).mono ?_
          rintro e w7 ⟨rfl, b7⟩
          have b7 := b6.trans b7
          go_wp2_with fail
          refine (scan_to s _ _ HM.out _ (hL.bel b7)).mono ?_
          rintro e w8 ⟨rfl, b8⟩
          have b8 := b7.trans b8
          go_wp2_with fail
          go_ret
          exact ⟨by simp, b8⟩
        · rw [if_pos h3] at hc
          have HC := Lib.hid hc
          have g3 : (m != 0) = true := by simpa using h3
          clear hc hln hls h3
          skip
          go_enter Tryz.func4, Tryz.ntmps4
          go_wp2_with fail
          refine (choose_to nm s _ _ _ _ HC.out _ hL).mono ?_
          rintro e w1 ⟨rfl, b1⟩
          go_wp2_with fail
          refine (frontBegun_any _ (hL.bel b1)).mono ?_
          rintro e w2 ⟨rfl, b2⟩
          have b2 := b1.trans b2
          go_wp2_with fail
          refine (markBegun_any _).mono ?_
          rintro e w3 ⟨rfl, b3⟩
          have b3 := b2.trans b3
          go_wp2_with fail
          refine (labelBegun_any _).mono ?_
          rintro e w4 ⟨rfl, b4⟩
          have b4 := b3.trans b4
          go_wp2_with fail
          refine (scanBegun_any _ (hL.bel b4)).mono ?_
          rintro e w5 ⟨rfl, b5⟩
          have b5 := b4.trans b5
          go_wp2_with fail
          refine (sniffM_to s _ _ HSN.out _).mono ?_
          rintro e w6 ⟨rfl, b6⟩
          have b6 := b5.trans b6
          go_wp2_with fail
          refine (find_to nm _ _ HF.out (by omega) _).mono ?_
          rintro e w7 ⟨rfl, b7⟩
          have b7 := b6.trans b7
          go_wp2_with fail
          refine (scan_to s _ _ HM.out _ (hL.bel b7)).mono ?_
          rintro e w8 ⟨rfl, b8⟩
          have b8 := b7.trans b8
          go_wp2_with fail
          go_ret
          exact ⟨by simp, b8⟩
      · rw [if_pos h2] at hc
        have HC := Lib.hid hc
        have g2 : (f != 0) = true := by simpa using h2
        clear hc hln hls h2
        skip
        go_enter Tryz.func4, Tryz.ntmps4
        go_wp2_with fail
        refine (choose_to nm s _ _ _ _ HC.out _ hL).mono ?_
        rintro e w1 ⟨rfl, b1⟩
        go_wp2_with fail
        refine (frontBegun_any _ (hL.bel b1)).mono ?_
        rintro e w2 ⟨rfl, b2⟩
        have b2 := b1.trans b2
        go_wp2_with fail
        refine (markBegun_any _).mono ?_
        rintro e w3 ⟨rfl, b3⟩
        have b3 := b2.trans b3
        go_wp2_with fail
        refine (labelBegun_any _).mono ?_
        rintro e w4 ⟨rfl, b4⟩
        have b4 := b3.trans b4
        go_wp2_with fail
        refine (scanBegun_any _ (hL.bel b4)).mono ?_
        rintro e w5 ⟨rfl, b5⟩
        have b5 := b4.trans b5
        go_wp2_with fail
        refine (sniffM_to s _ _ HSN.out _).mono ?_
        rintro e w6 ⟨rfl, b6⟩
        have b6 := b5.trans b6
        go_wp2_with fail
        refine (find_to nm _ _ HF.out (by omega) _).mono ?_
        rintro e w7 ⟨rfl, b7⟩
        have b7 := b6.trans b7
        go_wp2_with fail
        refine (scan_to s _ _ HM.out _ (hL.bel b7)).mono ?_
        rintro e w8 ⟨rfl, b8⟩
        have b8 := b7.trans b8
        go_wp2_with fail
        go_ret
        exact ⟨by simp, b8⟩
    · rw [if_pos h1] at hc
      have HC := Lib.hid hc
      have g1 : (a != 0) = true := by simpa using h1
      clear hc hln hls h1
      skip
      go_enter Tryz.func4, Tryz.ntmps4
      go_wp2_with fail
      refine (choose_to nm s _ _ _ _ HC.out _ hL).mono ?_
      rintro e w1 ⟨rfl, b1⟩
      go_wp2_with fail
      refine (frontBegun_any _ (hL.bel b1)).mono ?_
      rintro e w2 ⟨rfl, b2⟩
      have b2 := b1.trans b2
      go_wp2_with fail
      refine (markBegun_any _).mono ?_
      rintro e w3 ⟨rfl, b3⟩
      have b3 := b2.trans b3
      go_wp2_with fail
      refine (labelBegun_any _).mono ?_
      rintro e w4 ⟨rfl, b4⟩
      have b4 := b3.trans b4
      go_wp2_with fail
      refine (scanBegun_any _ (hL.bel b4)).mono ?_
      rintro e w5 ⟨rfl, b5⟩
      have b5 := b4.trans b5
      go_wp2_with fail
      refine (sniffM_to s _ _ HSN.out _).mono ?_
      rintro e w6 ⟨rfl, b6⟩
      have b6 := b5.trans b6
      go_wp2_with fail
      refine (find_to nm _ _ HF.out (by omega) _).mono ?_
      rintro e w7 ⟨rfl, b7⟩
      have b7 := b6.trans b7
      go_wp2_with fail
      refine (scan_to s _ _ HM.out _ (hL.bel b7)).mono ?_
      rintro e w8 ⟨rfl, b8⟩
      have b8 := b7.trans b8
      go_wp2_with fail
      go_ret
      exact ⟨by simp, b8⟩
end Go.Proofs.YtcgdecpjlggekaaGreatDoor

/-
  Texts of the proof, laid together: LawFront, LawMark, RLong, RLabel, LawLabel, RAttr2, LawAttr, LawScan, LawFrontMark, RAttr, RAttr3. No condition of its own.
-/
import Derived.Test.YtcgdecpjlggekaaGreatDoorG7
import Derived.Test.YtcgdecpjlggekaaGreatDoorG5
import Derived.Test.YtcgdecpjlggekaaGreatDoorG2
import Derived.Deep.RegionWith
import Derived.Test.YtcgdecpjlggekaaGreatDoorG1
import Derived.Test.YtcgdecpjlggekaaGreatDoorG3
import Derived.Laws.StructEq
import Derived.Test.YtcgdecpjlggekaaGreatDoorG4
import Derived.Deep.CutBlock
import Derived.Deep.Cut
import Derived.Deep.CutRange

/-
  What must be in any case, of fronts.
-/
namespace Go.Proofs.YtcgdecpjlggekaaGreatDoor
open Go.RowKit
set_option maxRecDepth 1000000

theorem IntSl.litAt (w : World) (t : TypeId) (ys : List Int) (g : Nat) (hg : w.heap.size = g) (h : ys.length ≤ 1000000) : IntSl (w.alloc (.cells (ys.map (Value.int .i64)).toArray t)) (.slice (some ⟨g, 0, none⟩) ys.length ys.length) ys := by
  subst hg
  exact IntSl.lit w t ys h
theorem feedF_sl (lb : ByteArray) (en wy : Int) (wt : ByteArray) (se : Int) (rs : ByteArray) (sg : Int) (fr st : Bool) (b : ByteArray) (last : Bool) (xs : List Int) (l2 : List UInt8) (en2 wy2 : Int) (wt2 : List UInt8) (se2 : Int) (rs2 : List UInt8) (sg2 : Int) (fr2 st2 : Bool) (k : Int)
    (hf : M.feedFE ⟨lb.data.toList, en, wy, wt.data.toList, ⟨se, rs.data.toList, sg, fr, st⟩⟩ b.data.toList last = (xs, ⟨l2, en2, wy2, wt2, ⟨se2, rs2, sg2, fr2, st2⟩⟩, k)) (w : World) (hL : Len w) :
    Calls Tryz.prog 7 #[.agg #[.string lb, .int .i64 en, .int .i64 wy, .string wt, .int .i64 se, .string rs, .int .i64 sg, .bool fr, .bool st], .string b, .bool last] w fun e w' => ∃ A c, e = .returned (.tuple #[.slice A xs.length c, .agg #[.string ⟨l2.toArray⟩, .int .i64 en2, .int .i64 wy2, .string ⟨wt2.toArray⟩, .int .i64 se2, .string ⟨rs2.toArray⟩, .int .i64 sg2, .bool fr2, .bool st2], .int .i64 k]) ∧ Own w.heap.size 3 w' (.slice A xs.length c) (xs.map (Value.int .i64)) ∧ Bel w w' := by
  refine (feedF_to lb en wy wt se rs sg fr st b last xs _ k hf w hL).mono ?_
  rintro e w' ⟨v, rfl, ho, hb⟩
  obtain ⟨A, c, hv, _⟩ := ho.form
  rw [List.length_map] at hv
  subst hv
  exact ⟨A, c, rfl, ho, hb⟩
set_option maxHeartbeats 4000000 in
theorem frontBegun_any (w : World) (hL : Len w) : Calls Tryz.prog 12 #[] w fun e w' => e = .returned (.bool true) ∧ Bel w w' := by
  have f1 := Lib.hid M.fb1
  have f2 := Lib.hid M.fb2
  have f3 := Lib.hid M.fb3
  have f4 := Lib.hid M.fb4
  have f5 := Lib.hid M.fb5
  go_enter Tryz.func12, Tryz.ntmps12
  go_wp2_with fail
  refine (choose_to _ _ _ _ _ _ f1.out _ hL).mono ?_
  rintro e w1 ⟨rfl, b1⟩
  go_wp2_with fail
  refine (begin_yes _ (by decide) _).mono ?_
  rintro e w2 ⟨rfl, b2⟩
  go_wp2_with fail
  have hF := Box.new w2 25 [.string ⟨#[117, 116, 102, 45, 56]⟩, .int .i64 0, .int .i64 0, .string ⟨#[]⟩, .int .i64 0, .string ⟨#[]⟩, .int .i64 0, .bool false, .bool false]
  have b2 := (b1.trans b2).alloc (.cells #[.string ⟨#[117, 116, 102, 45, 56]⟩, .int .i64 0, .int .i64 0, .string ⟨#[]⟩, .int .i64 0, .string ⟨#[]⟩, .int .i64 0, .bool false, .bool false] 25)
  have fc0 := hF.cell 0 _ rfl; have fc1 := hF.cell 1 _ rfl; have fc2 := hF.cell 2 _ rfl; have fc3 := hF.cell 3 _ rfl; have fc4 := hF.cell 4 _ rfl; have fc5 := hF.cell 5 _ rfl; have fc6 := hF.cell 6 _ rfl; have fc7 := hF.cell 7 _ rfl; have fc8 := hF.cell 8 _ rfl
  go_wp2_with fail
  refine (feedF_sl ⟨#[117, 116, 102, 45, 56]⟩ 0 0 ⟨#[]⟩ 0 ⟨#[]⟩ 0 false false ⟨#[97, 98]⟩ false [] [117, 116, 102, 45, 56] 0 0 [97, 98] 0 [] 0 false false 0 f2.out _ (hL.bel b2)).mono ?_
  rintro e w3 ⟨A3, c3, rfl, o3, b3⟩
  have hF := hF.bel b3
  have hFl := hF.lt
  have hX := Box.new w3 25 [.string ⟨#[117, 116, 102, 45, 56]⟩, .int .i64 0, .int .i64 0, .string ⟨#[97, 98]⟩, .int .i64 0, .string ⟨#[]⟩, .int .i64 0, .bool false, .bool false]
  have b3 := (b2.trans b3).alloc (.cells #[.string ⟨#[117, 116, 102, 45, 56]⟩, .int .i64 0, .int .i64 0, .string ⟨#[97, 98]⟩, .int .i64 0, .string ⟨#[]⟩, .int .i64 0, .bool false, .bool false] 25)
  have fc0 := hF.cell 0 _ rfl; have fc1 := hF.cell 1 _ rfl; have fc2 := hF.cell 2 _ rfl; have fc3 := hF.cell 3 _ rfl; have fc4 := hF.cell 4 _ rfl; have fc5 := hF.cell 5 _ rfl; have fc6 := hF.cell 6 _ rfl; have fc7 := hF.cell 7 _ rfl; have fc8 := hF.cell 8 _ rfl
  have xc0 := hX.cell 0 _ rfl; have xc1 := hX.cell 1 _ rfl; have xc2 := hX.cell 2 _ rfl; have xc3 := hX.cell 3 _ rfl; have xc4 := hX.cell 4 _ rfl; have xc5 := hX.cell 5 _ rfl; have xc6 := hX.cell 6 _ rfl; have xc7 := hX.cell 7 _ rfl; have xc8 := hX.cell 8 _ rfl
  go_wp2_with fail
  refine (feedF_sl ⟨#[117, 116, 102, 45, 56]⟩ 0 0 ⟨#[97, 98]⟩ 0 ⟨#[]⟩ 0 false false ⟨#[99, 226]⟩ false [97, 98, 99] [117, 116, 102, 45, 56] 1 2 [] 1 [226] 0 false false 0 f3.out _ (hL.bel b3)).mono ?_
  rintro e w4 ⟨A4, c4, rfl, o4, b4⟩
  have hF := Box.bel (Box.bel hF (by repeat (first | exact Bel.refl _ | refine Bel.drewN ?_ _ | refine Bel.drew ?_ | refine Bel.alloc ?_ _ | refine Bel.trans ?_ (by assumption) | refine Bel.setCell ?_ (by simp; omega) _))) b4
  have hX := Box.bel hX b4
  have hFl := hF.lt
  have hXl := hX.lt
  have hY := Box.new w4 25 [.string ⟨#[117, 116, 102, 45, 56]⟩, .int .i64 1, .int .i64 2, .string ⟨#[]⟩, .int .i64 1, .string ⟨#[226]⟩, .int .i64 0, .bool false, .bool false]
  have b4 := (b3.trans b4).alloc (.cells #[.string ⟨#[117, 116, 102, 45, 56]⟩, .int .i64 1, .int .i64 2, .string ⟨#[]⟩, .int .i64 1, .string ⟨#[226]⟩, .int .i64 0, .bool false, .bool false] 25)
  have fc0 := hF.cell 0 _ rfl; have fc1 := hF.cell 1 _ rfl; have fc2 := hF.cell 2 _ rfl; have fc3 := hF.cell 3 _ rfl; have fc4 := hF.cell 4 _ rfl; have fc5 := hF.cell 5 _ rfl; have fc6 := hF.cell 6 _ rfl; have fc7 := hF.cell 7 _ rfl; have fc8 := hF.cell 8 _ rfl
  have xc0 := hX.cell 0 _ rfl; have xc1 := hX.cell 1 _ rfl; have xc2 := hX.cell 2 _ rfl; have xc3 := hX.cell 3 _ rfl; have xc4 := hX.cell 4 _ rfl; have xc5 := hX.cell 5 _ rfl; have xc6 := hX.cell 6 _ rfl; have xc7 := hX.cell 7 _ rfl; have xc8 := hX.cell 8 _ rfl
  have yc0 := hY.cell 0 _ rfl; have yc1 := hY.cell 1 _ rfl; have yc2 := hY.cell 2 _ rfl; have yc3 := hY.cell 3 _ rfl; have yc4 := hY.cell 4 _ rfl; have yc5 := hY.cell 5 _ rfl; have yc6 := hY.cell 6 _ rfl; have yc7 := hY.cell 7 _ rfl; have yc8 := hY.cell 8 _ rfl
  go_wp2_with fail
  refine (feedF_sl ⟨#[117, 116, 102, 45, 56]⟩ 1 2 ⟨#[]⟩ 1 ⟨#[226]⟩ 0 false false ⟨#[]⟩ true [65533] [117, 116, 102, 45, 56] 0 0 [] 0 [] 0 false false 0 f4.out _ (hL.bel b4)).mono ?_
  rintro e w5 ⟨A5, c5, rfl, o5, b5⟩
  have hF := Box.bel (Box.bel hF (by repeat (first | exact Bel.refl _ | refine Bel.drewN ?_ _ | refine Bel.drew ?_ | refine Bel.alloc ?_ _ | refine Bel.trans ?_ (by assumption) | refine Bel.setCell ?_ (by simp; omega) _))) b5
  have hX := Box.bel (Box.bel hX (by repeat (first | exact Bel.refl _ | refine Bel.drewN ?_ _ | refine Bel.drew ?_ | refine Bel.alloc ?_ _ | refine Bel.trans ?_ (by assumption) | refine Bel.setCell ?_ (by simp; omega) _))) b5
  have hY := Box.bel hY b5
  have hFl := hF.lt
  have hXl := hX.lt
  have hYl := hY.lt
  have hZ := Box.new w5 25 [.string ⟨#[117, 116, 102, 45, 56]⟩, .int .i64 0, .int .i64 0, .string ⟨#[]⟩, .int .i64 0, .string ⟨#[]⟩, .int .i64 0, .bool false, .bool false]
  have i4 := IntSl.bel (IntSl.bel o4.ints ((Bel.refl _).alloc (.cells #[.string ⟨#[117, 116, 102, 45, 56]⟩, .int .i64 1, .int .i64 2, .string ⟨#[]⟩, .int .i64 1, .string ⟨#[226]⟩, .int .i64 0, .bool false, .bool false] 25))) b5
  have b5 := (b4.trans b5).alloc (.cells #[.string ⟨#[117, 116, 102, 45, 56]⟩, .int .i64 0, .int .i64 0, .string ⟨#[]⟩, .int .i64 0, .string ⟨#[]⟩, .int .i64 0, .bool false, .bool false] 25)
  have fc0 := hF.cell 0 _ rfl; have fc1 := hF.cell 1 _ rfl; have fc2 := hF.cell 2 _ rfl; have fc3 := hF.cell 3 _ rfl; have fc4 := hF.cell 4 _ rfl; have fc5 := hF.cell 5 _ rfl; have fc6 := hF.cell 6 _ rfl; have fc7 := hF.cell 7 _ rfl; have fc8 := hF.cell 8 _ rfl
  have xc0 := hX.cell 0 _ rfl; have xc1 := hX.cell 1 _ rfl; have xc2 := hX.cell 2 _ rfl; have xc3 := hX.cell 3 _ rfl; have xc4 := hX.cell 4 _ rfl; have xc5 := hX.cell 5 _ rfl; have xc6 := hX.cell 6 _ rfl; have xc7 := hX.cell 7 _ rfl; have xc8 := hX.cell 8 _ rfl
  have yc0 := hY.cell 0 _ rfl; have yc1 := hY.cell 1 _ rfl; have yc2 := hY.cell 2 _ rfl; have yc3 := hY.cell 3 _ rfl; have yc4 := hY.cell 4 _ rfl; have yc5 := hY.cell 5 _ rfl; have yc6 := hY.cell 6 _ rfl; have yc7 := hY.cell 7 _ rfl; have yc8 := hY.cell 8 _ rfl
  have zc0 := hZ.cell 0 _ rfl; have zc1 := hZ.cell 1 _ rfl; have zc2 := hZ.cell 2 _ rfl; have zc3 := hZ.cell 3 _ rfl; have zc4 := hZ.cell 4 _ rfl; have zc5 := hZ.cell 5 _ rfl; have zc6 := hZ.cell 6 _ rfl; have zc7 := hZ.cell 7 _ rfl; have zc8 := hZ.cell 8 _ rfl
  go_wp2_with fail
  have il : IntSl ((w5.alloc (.cells #[.string ⟨#[117, 116, 102, 45, 56]⟩, .int .i64 0, .int .i64 0, .string ⟨#[]⟩, .int .i64 0, .string ⟨#[]⟩, .int .i64 0, .bool false, .bool false] 25)).alloc (.cells #[.int .i64 97, .int .i64 98, .int .i64 99] 3)) (.slice (some ⟨w5.heap.size + 1, 0, none⟩) 3 3) [97, 98, 99] := IntSl.litAt (w5.alloc (.cells #[.string ⟨#[117, 116, 102, 45, 56]⟩, .int .i64 0, .int .i64 0, .string ⟨#[]⟩, .int .i64 0, .string ⟨#[]⟩, .int .i64 0, .bool false, .bool false] 25)) 3 [97, 98, 99] (w5.heap.size + 1) (by simp) (by decide)
  have i4 := IntSl.bel i4 (((Bel.refl w5).alloc (.cells #[.string ⟨#[117, 116, 102, 45, 56]⟩, .int .i64 0, .int .i64 0, .string ⟨#[]⟩, .int .i64 0, .string ⟨#[]⟩, .int .i64 0, .bool false, .bool false] 25)).alloc (.cells #[.int .i64 97, .int .i64 98, .int .i64 99] 3))
  refine (sameInts_yes _ _ _ _ _ i4 il rfl).mono ?_
  rintro e w6 ⟨rfl, b6⟩
  have b56 : Bel (w5.alloc (.cells #[.string ⟨#[117, 116, 102, 45, 56]⟩, .int .i64 0, .int .i64 0, .string ⟨#[]⟩, .int .i64 0, .string ⟨#[]⟩, .int .i64 0, .bool false, .bool false] 25)) w6 := ((Bel.refl _).alloc _).trans b6
  have c56 : Bel w5 w6 := ((Bel.refl w5).alloc _).trans b56
  have hF := hF.bel c56
  have hX := hX.bel c56
  have hY := hY.bel c56
  have hZ := hZ.bel b56
  have i5 := o5.ints.bel c56
  have b6 := b5.trans b56
  have hFl := hF.lt
  have hXl := hX.lt
  have hYl := hY.lt
  have hZl := hZ.lt
  have fc0 := hF.cell 0 _ rfl; have fc1 := hF.cell 1 _ rfl; have fc2 := hF.cell 2 _ rfl; have fc3 := hF.cell 3 _ rfl; have fc4 := hF.cell 4 _ rfl; have fc5 := hF.cell 5 _ rfl; have fc6 := hF.cell 6 _ rfl; have fc7 := hF.cell 7 _ rfl; have fc8 := hF.cell 8 _ rfl
  have xc0 := hX.cell 0 _ rfl; have xc1 := hX.cell 1 _ rfl; have xc2 := hX.cell 2 _ rfl; have xc3 := hX.cell 3 _ rfl; have xc4 := hX.cell 4 _ rfl; have xc5 := hX.cell 5 _ rfl; have xc6 := hX.cell 6 _ rfl; have xc7 := hX.cell 7 _ rfl; have xc8 := hX.cell 8 _ rfl
  have yc0 := hY.cell 0 _ rfl; have yc1 := hY.cell 1 _ rfl; have yc2 := hY.cell 2 _ rfl; have yc3 := hY.cell 3 _ rfl; have yc4 := hY.cell 4 _ rfl; have yc5 := hY.cell 5 _ rfl; have yc6 := hY.cell 6 _ rfl; have yc7 := hY.cell 7 _ rfl; have yc8 := hY.cell 8 _ rfl
  have zc0 := hZ.cell 0 _ rfl; have zc1 := hZ.cell 1 _ rfl; have zc2 := hZ.cell 2 _ rfl; have zc3 := hZ.cell 3 _ rfl; have zc4 := hZ.cell 4 _ rfl; have zc5 := hZ.cell 5 _ rfl; have zc6 := hZ.cell 6 _ rfl; have zc7 := hZ.cell 7 _ rfl; have zc8 := hZ.cell 8 _ rfl
  clear b56 c56 i4 il o3 o4 o5
  go_wp2_with fail
  have il2 := IntSl.lit w6 3 [65533] (by decide)
  have i5 := i5.bel ((Bel.refl w6).alloc (.cells #[.int .i64 65533] 3))
  refine (sameInts_yes _ _ _ _ _ i5 il2 rfl).mono ?_
  rintro e w7 ⟨rfl, b7⟩
  have c67 : Bel w6 w7 := ((Bel.refl w6).alloc _).trans b7
  have hF := hF.bel c67
  have hX := hX.bel c67
  have hY := hY.bel c67
  have hZ := hZ.bel c67
  have b7 := b6.trans c67
  have fc0 := hF.cell 0 _ rfl; have fc1 := hF.cell 1 _ rfl; have fc2 := hF.cell 2 _ rfl; have fc3 := hF.cell 3 _ rfl; have fc4 := hF.cell 4 _ rfl; have fc5 := hF.cell 5 _ rfl; have fc6 := hF.cell 6 _ rfl; have fc7 := hF.cell 7 _ rfl; have fc8 := hF.cell 8 _ rfl
  have xc0 := hX.cell 0 _ rfl; have xc1 := hX.cell 1 _ rfl; have xc2 := hX.cell 2 _ rfl; have xc3 := hX.cell 3 _ rfl; have xc4 := hX.cell 4 _ rfl; have xc5 := hX.cell 5 _ rfl; have xc6 := hX.cell 6 _ rfl; have xc7 := hX.cell 7 _ rfl; have xc8 := hX.cell 8 _ rfl
  have yc0 := hY.cell 0 _ rfl; have yc1 := hY.cell 1 _ rfl; have yc2 := hY.cell 2 _ rfl; have yc3 := hY.cell 3 _ rfl; have yc4 := hY.cell 4 _ rfl; have yc5 := hY.cell 5 _ rfl; have yc6 := hY.cell 6 _ rfl; have yc7 := hY.cell 7 _ rfl; have yc8 := hY.cell 8 _ rfl
  have zc0 := hZ.cell 0 _ rfl; have zc1 := hZ.cell 1 _ rfl; have zc2 := hZ.cell 2 _ rfl; have zc3 := hZ.cell 3 _ rfl; have zc4 := hZ.cell 4 _ rfl; have zc5 := hZ.cell 5 _ rfl; have zc6 := hZ.cell 6 _ rfl; have zc7 := hZ.cell 7 _ rfl; have zc8 := hZ.cell 8 _ rfl
  go_wp2_with fail
  refine (checkFr_to ⟨#[117, 116, 102, 45, 56]⟩ 1 2 ⟨#[]⟩ 1 ⟨#[226]⟩ 0 false false 0 f5.out _).mono ?_
  rintro e w8 ⟨rfl, b8⟩
  go_wp2_with fail
  go_ret
  exact ⟨rfl, b7.trans b8⟩
end Go.Proofs.YtcgdecpjlggekaaGreatDoor

/-
  The walks of the laws on marks.
-/
namespace Go.Proofs.YtcgdecpjlggekaaGreatDoor
open Go.RowKit

theorem markBegun_any (w : World) : Calls Tryz.prog 15 #[] w fun e w' => e = .returned (.bool true) ∧ Bel w w' := by
  have f1 : (M.sniff [239, 187, 191, 97]).1 = 1 := by decide
  have f2 : (M.sniff [239, 187, 191, 97]).2 = 3 := by decide
  have f3 : (M.sniff [254, 255]).1 = 3 := by decide
  have f4 : (M.put 2 [120]).1 = [255, 254, 120] := by decide
  have f5 : (M.put 2 [120]).2 = 0 := by decide
  have f6 : M.may [239] = true := by decide
  have f7 : M.may [97] = false := by decide
  go_enter Tryz.func15, Tryz.ntmps15
  go_wp2_with (first | (go_at_call 18; refine (sniff_any _ _).mono ?_; rintro e w' ⟨rfl, hb⟩) | (go_at_call 33; refine (put_any _ _ _ (by decide)).mono ?_; rintro e w' ⟨rfl, hb⟩) | (go_at_call 34; refine (may_any _ _).mono ?_; rintro e w' ⟨rfl, hb⟩))
  go_ret
  exact ⟨rfl, (by repeat (first | exact Bel.refl _ | refine Bel.drewN ?_ _ | refine Bel.drew ?_ | refine Bel.alloc ?_ _ | refine Bel.trans ?_ (by assumption) | refine Bel.setCell ?_ (by simp; omega) _))⟩

theorem sniff_to (s : ByteArray) (n k : Int) (h : M.sniff s.data.toList = (n, k)) (w : World) : Calls Tryz.prog 18 #[.string s] w fun e w' => e = .returned (.tuple #[.int .i64 n, .int .i64 k]) ∧ Bel w w' := by
  have := sniff_any s w; rw [h] at this; exact this
theorem may_to (s : ByteArray) (b : Bool) (h : M.may s.data.toList = b) (w : World) : Calls Tryz.prog 34 #[.string s] w fun e w' => e = .returned (.bool b) ∧ Bel w w' := by
  have := may_any s w; rw [h] at this; exact this
theorem put_to (n : Int) (s : ByteArray) (t : List UInt8) (e : Int) (h : M.put n s.data.toList = (t, e)) (hs : s.size ≤ 9223372036854775800) (w : World) : Calls Tryz.prog 33 #[.int .i64 n, .string s] w fun e' w' => e' = .returned (.tuple #[.string ⟨t.toArray⟩, .int .i64 e]) ∧ Bel w w' := by
  have := put_any n s w hs; rw [h] at this; exact this

end Go.Proofs.YtcgdecpjlggekaaGreatDoor

/-
  Small answers: is a number between two, is it an encoding, is a text too long.
-/
namespace Go.Proofs.YtcgdecpjlggekaaGreatDoor
open Go.RowKit

theorem between_any (n a b : Int) (w : World) : Calls Tryz.prog 24 #[.int .i64 n, .int .i64 a, .int .i64 b] w fun e w' => e = .returned (.bool (decide (a ≤ n ∧ n ≤ b))) ∧ w = w' := by
  by_cases h : a ≤ n <;> by_cases h2 : n ≤ b
  all_goals
    go_enter Tryz.func24, Tryz.ntmps24
    go_wp2
    go_ret
    refine ⟨?_, rfl⟩
    simp
    omega
theorem isEncoding_any (n : Int) (w : World) : Calls Tryz.prog 45 #[.int .i64 n] w fun e w' => e = .returned (.bool (M.isEnc n)) ∧ w = w' := by
  have H := Lib.hid (show decide (1 ≤ n ∧ n ≤ 7) = M.isEnc n from rfl)
  go_enter Tryz.func45, Tryz.ntmps45
  go_wp2_with (go_at_call 24; refine (between_any _ _ _ _).mono ?_; rintro e w' ⟨rfl, rfl⟩)
  go_ret
  refine ⟨?_, rfl⟩
  rw [← H.out]
  exact ret_bool (by simp)
theorem tooLong_any (s : ByteArray) (w : World) : Calls Tryz.prog 8 #[.string s] w fun e w' => e = .returned (.int .i64 (M.long s.data.toList)) ∧ w = w' := by
  by_cases h : 3000 < s.size
  · have H := Lib.hid (show M.long s.data.toList = 2 by rw [M.long, if_pos (by rw [← Lib.size_eq]; exact h)])
    go_enter Tryz.func8, Tryz.ntmps8
    go_wp2
    go_ret
    exact ⟨by rw [H.out]; rfl, rfl⟩
  · have H := Lib.hid (show M.long s.data.toList = 0 by rw [M.long, if_neg (by rw [← Lib.size_eq]; exact h)])
    go_enter Tryz.func8, Tryz.ntmps8
    go_wp2
    go_ret
    exact ⟨by rw [H.out]; rfl, rfl⟩
end Go.Proofs.YtcgdecpjlggekaaGreatDoor

/-
  The document's answers on labels: TrimOf, FoldOf, FindOf, NameOf.
-/
namespace Go.Proofs.YtcgdecpjlggekaaGreatDoor
open Go.RowKit
set_option maxRecDepth 1000000

theorem trimL_cons (c : UInt8) (l : List UInt8) (h : M.white c = true) : M.trimL (c :: l) = M.trimL l := by
  rw [M.trimL, List.dropWhile_cons, if_pos h]; rfl
theorem trimR_snoc (c : UInt8) (l : List UInt8) (h : M.white c = true) : M.trimR (l ++ [c]) = M.trimR l := by
  rw [M.trimR, List.reverse_append, List.reverse_cons, List.reverse_nil, List.nil_append, List.singleton_append, List.dropWhile_cons, if_pos h]; rfl
theorem trimR_stop (c : UInt8) (l : List UInt8) (h : M.white c = false) : M.trimR (l ++ [c]) = l ++ [c] := by
  rw [M.trimR, List.reverse_append, List.reverse_cons, List.reverse_nil, List.nil_append, List.singleton_append, List.dropWhile_cons, if_neg (by rw [h]; decide), List.reverse_cons, List.reverse_reverse]
theorem take_str (s : ByteArray) (k : Nat) : (s.extract 0 k).data.toList = s.data.toList.take k := by
  rw [Lib.extract_data, List.drop_zero, Nat.sub_zero]
theorem snoc_of (u : ByteArray) (h : 0 < u.size) : u.data.toList = u.data.toList.take (u.size - 1) ++ [u[u.size - 1]] := by
  have e : u.size - 1 + 1 = u.data.toList.length := by rw [← Lib.size_eq]; omega
  have := List.take_add_one (l := u.data.toList) (i := u.size - 1)
  rw [e, List.take_length, byte_at u (u.size - 1) (by omega)] at this
  exact this
theorem M.trim_lr (l : List UInt8) : M.trim l = M.trimR (M.trimL l) := rfl
theorem trimOf_any (s : ByteArray) (w : World) (hs : s.size ≤ 68719476735) : Calls Tryz.prog 50 #[.string s] w fun e w' => e = .returned (.string ⟨(M.trim s.data.toList).toArray⟩) ∧ w = w' := by
  go_enter Tryz.func50, Tryz.ntmps50
  go_wp2_with fail
  go_loop [0] (fun v => ∃ t : ByteArray, v = .string t ∧ t.size ≤ s.size ∧ Hid (M.trimL t.data.toList = M.trimL s.data.toList)) (fun v => strLen v)
  case atStart => exact ⟨s, rfl, Nat.le_refl _, Lib.hid rfl⟩
  case round =>
    obtain ⟨t, rfl, ht, HT⟩ := hrel
    by_cases hlt : 0 < t.size
    · have HB := Lib.hid (byte_at t 0 hlt)
      have HS := Lib.hid (drop_size t 1)
      have HD := Lib.hid (drop_str t 1)
      cases hw : M.white t[0] with
      | true =>
        have HW := Lib.hid hw
        clear hw
        go_wp2_with (go_at_call 53; refine (isWhite_any _ _).mono ?_; rintro e w' ⟨rfl, rfl⟩; rw [HW.out])
        go_round
        case rel =>
          refine ⟨_, rfl, by rw [HS.out]; omega, Lib.hid ?_⟩
          rw [← HT.out, HD.out]
          cases hl : t.data.toList with
          | nil => rw [hl] at HB; cases HB.out
          | cons c l =>
            have h2 := HB.out
            rw [hl] at h2
            injection h2 with h2
            rw [trimL_cons c l (by rw [h2]; exact HW.out)]; rfl
        case measure => simp only [strLen, HS.out]; omega
      | false =>
        have HE := Lib.hid (show t.data.toList = M.trimL s.data.toList by
          rw [← HT.out, M.trimL_of_head]
          intro c hc
          have h2 := HB.out
          rw [List.head?_eq_getElem?, h2] at hc
          injection hc with hc
          rw [← hc]; exact hw)
        have HW := Lib.hid hw
        clear hw
        go_wp2_with (go_at_call 53; refine (isWhite_any _ _).mono ?_; rintro e w' ⟨rfl, rfl⟩; rw [HW.out])
        clear HB HS HD HT HW
        go_loop [0] (fun v => ∃ u : ByteArray, v = .string u ∧ u.size ≤ t.size ∧ Hid (M.trimR u.data.toList = M.trimR t.data.toList)) (fun v => strLen v)
        case atStart => exact ⟨t, rfl, Nat.le_refl _, Lib.hid rfl⟩
        case round =>
          obtain ⟨u, rfl, hu, HT⟩ := hrel
          by_cases hlt2 : 0 < u.size
          · have HB := Lib.hid (byte_at u (u.size - 1) (by omega))
            have hlast : ((u.size : Int) - 1).toNat = u.size - 1 := by omega
            cases hw : M.white (u[u.size - 1]'(by omega)) with
            | true =>
              have HW := Lib.hid hw
              clear hw
              go_wp2_with (go_at_call 53; refine (isWhite_any _ _).mono ?_; rintro e w' ⟨rfl, rfl⟩; rw [HW.out])
              go_round
              case rel =>
                refine ⟨_, rfl, ?_, Lib.hid ?_⟩
                · rw [Lib.size_eq, take_str, List.length_take, ← Lib.size_eq]; omega
                · rw [← HT.out, take_str]
                  have e := snoc_of u hlt2
                  conv => rhs; rw [e]
                  rw [trimR_snoc _ _ HW.out]
              case measure => simp only [strLen]; rw [Lib.size_eq, take_str, List.length_take, ← Lib.size_eq]; omega
            | false =>
              have HW := Lib.hid hw
              clear hw
              go_wp2_with (go_at_call 53; refine (isWhite_any _ _).mono ?_; rintro e w' ⟨rfl, rfl⟩; rw [HW.out])
              go_ret
              refine ⟨?_, rfl⟩
              rw [M.trim_lr, ← HE.out, ← HT.out]
              have e := snoc_of u hlt2
              rw [e, trimR_stop _ _ HW.out, ← e, str_eq]; rfl
          · have hz : u.data.toList = [] := by
              rw [← List.length_eq_zero_iff, ← Lib.size_eq]; omega
            have HZ := Lib.hid hz
            clear hz
            go_wp2_with fail
            go_ret
            refine ⟨?_, rfl⟩
            rw [M.trim_lr, ← HE.out, ← HT.out, HZ.out]
            have e : u = ⟨(M.trimR []).toArray⟩ := by rw [← str_eq u, HZ.out]; rfl
            rw [← e]; rfl
    · have hz : t.data.toList = [] := by
        rw [← List.length_eq_zero_iff, ← Lib.size_eq]; omega
      have HZ := Lib.hid hz
      clear hz
      go_wp2_with fail
      refine wp_loop_rounds 2 ?_
      rw [rounds_succ]
      go_wp2_with fail
      go_ret
      refine ⟨?_, rfl⟩
      rw [M.trim_lr, ← HT.out, HZ.out]
      have e : t = ⟨(M.trimR (M.trimL [])).toArray⟩ := by rw [← str_eq t, HZ.out]; rfl
      rw [← e]; rfl
theorem foldOf_any (s : ByteArray) (w : World) (hs : s.size ≤ 68719476735) : Calls Tryz.prog 49 #[.string s] w fun e w' => e = .returned (.string ⟨(M.fold s.data.toList).toArray⟩) ∧ Bel w w' := by
  have HL := Lib.hid (show (M.fold s.data.toList).length = s.size by rw [M.fold_len, ← Lib.size_eq])
  go_enter Tryz.func49, Tryz.ntmps49
  go_wp2_with fail
  go_loopw [3, 4] (fun v i wr => ∃ k : Nat, k ≤ s.size ∧ i = .int .i64 k ∧ Own w.heap.size 5 wr v (((M.fold s.data.toList).take k).map byteVal) ∧ Bel w wr) (fun _ i _ => s.size - (intOf i).toNat)
  case atStart => exact ⟨0, by omega, rfl, Own.nil _ _ _, Bel.refl _⟩
  case round =>
    obtain ⟨k, hk, rfl, hown, hb⟩ := hrel
    by_cases hlt : k < s.size
    · have HT := Lib.hid (take_snoc byteVal (M.fold s.data.toList) k (M.fold1 s[k]) (by unfold M.fold; rw [List.getElem?_map, byte_at s k hlt]; rfl))
      have hlen : ((M.fold s.data.toList).take k).length ≤ k := List.length_take_le _ _
      have hc0 : s[k].toNat < 256 := s[k].toNat_lt
      by_cases h1 : 65 ≤ s[k].toNat ∧ s[k].toNat ≤ 90
      · have HF := Lib.hid (show byteVal (M.fold1 s[k]) = .int .u8 ((s[k].toNat : Int) + 32) by
          rw [byteVal, M.fold1, if_pos h1, M.add32 s[k] h1]; rfl)
        have e1 : decide ((65 : Int) ≤ (s[k].toNat : Int) ∧ (s[k].toNat : Int) ≤ 90) = true := by rw [decide_eq_true_eq]; omega
        have h2 := h1.2
        go_wp2_with (first | (go_at_call 24; refine (between_any _ _ _ _).mono ?_; rintro e w' ⟨rfl, rfl⟩; rw [e1]) | (at_builtin; refine wpList_app rfl (.tmp 20) (.tmp 22) 111 rfl elemByte (by decide) w.heap.size _ _ _ rfl rfl hown rfl (by simp; omega) (by first | exact Nat.le_refl _ | assumption | (have := hb.size; omega)) ?_; intro v' w1 hown' hb1))
        go_roundw
        case rel => exact ⟨k + 1, by omega, by go_num, by rw [HT.out, HF.out]; exact hown', hb.upto hb1 (Nat.le_refl _)⟩
        case measure => simp [intOf]; omega
      · have HF := Lib.hid (show byteVal (M.fold1 s[k]) = .int .u8 (s[k].toNat : Int) by
          rw [byteVal, M.fold1, if_neg h1])
        have e1 : decide ((65 : Int) ≤ (s[k].toNat : Int) ∧ (s[k].toNat : Int) ≤ 90) = false := by rw [decide_eq_false_iff_not]; omega
        go_wp2_with (first | (go_at_call 24; refine (between_any _ _ _ _).mono ?_; rintro e w' ⟨rfl, rfl⟩; rw [e1]) | (at_builtin; refine wpList_app rfl (.tmp 20) (.tmp 22) 111 rfl elemByte (by decide) w.heap.size _ _ _ rfl rfl hown rfl (by simp; omega) (by first | exact Nat.le_refl _ | assumption | (have := hb.size; omega)) ?_; intro v' w1 hown' hb1))
        go_roundw
        case rel => exact ⟨k + 1, by omega, by go_num, by rw [HT.out, HF.out]; exact hown', hb.upto hb1 (Nat.le_refl _)⟩
        case measure => simp [intOf]; omega
    · obtain rfl : k = s.size := by omega
      have HT := Lib.hid (show (M.fold s.data.toList).take s.size = M.fold s.data.toList by rw [← HL.out, List.take_length])
      rw [HT.out] at hown
      go_wp2_with ((with_reducible show wpList _ _ _ _ _ _); refine wpList_toString rfl (.tmp 24) _ _ 5 rfl Tryz.underlying111 Tryz.underlying5 Tryz.underlying9 w.heap.size _ _ rfl hown ?_)
      go_ret
      exact ⟨rfl, hb⟩
theorem findOf_any (s : ByteArray) (w : World) (hs : s.size ≤ 68719476735) : Calls Tryz.prog 28 #[.string s] w fun e w' => e = .returned (.int .i64 (M.find s.data.toList)) ∧ Bel w w' := by
  have HF := Lib.hid (M.find_first (M.fold (M.trim s.data.toList)))
  have HN := Lib.hid (M.find_none (M.fold (M.trim s.data.toList)))
  have HL := Lib.hid (M.trim_len s.data.toList)
  have HS := Lib.hid (Lib.size_eq s)
  go_enter Tryz.func28, Tryz.ntmps28
  go_wp2_with (first | (go_at_call 51; refine (labels_any _).mono ?_; rintro e w' ⟨rfl, hc, b3, hg1⟩) | (go_at_call 50; refine (trimOf_any s _ (by omega)).mono ?_; rintro e w' ⟨rfl, rfl⟩) | (go_at_call 49; refine (foldOf_any _ _ (by rw [size_str]; have := HL.out; rw [← HS.out] at this; omega)).mono ?_; rintro e wA ⟨rfl, b1⟩))
  obtain ⟨z, hz⟩ : ∃ z : ByteArray, z = ⟨(M.fold (M.trim s.data.toList)).toArray⟩ := ⟨_, rfl⟩
  rw [← hz]
  have HZ := Lib.hid hz
  clear hz
  have HC := Lib.hid hc
  clear hc
  go_loop [4] (fun i => ∃ k : Nat, k ≤ 22 ∧ i = .int .i64 k ∧ Hid (∀ j, j < k → ((M.labelAt j).1 == M.fold (M.trim s.data.toList)) = false)) (fun i => 22 - (intOf i).toNat)
  case atStart => exact ⟨0, by omega, rfl, Lib.hid (fun j hj => by omega)⟩
  case round =>
    obtain ⟨k, hk, rfl, HNO⟩ := hrel
    by_cases hlt : k < 22
    · obtain ⟨c1, c2⟩ := HC.out k hlt
      rw [Nat.zero_add] at c1 c2
      have HA := Lib.hid (show ((⟨(M.labelAt k).1.toArray⟩ : ByteArray).toList == z.toList) = ((M.labelAt k).1 == M.fold (M.trim s.data.toList)) by
        rw [Lib.toList_data, HZ.out, Lib.toList_data])
      generalize (⟨(M.labelAt k).1.toArray⟩ : ByteArray) = a at c1 HA
      cases hq : ((M.labelAt k).1 == M.fold (M.trim s.data.toList)) with
      | true =>
        have ha : (a.toList == z.toList) = true := by rw [HA.out, hq]
        have HE := Lib.hid (HF.out k hlt hq HNO.out)
        clear hq
        go_wp2_with fail
        go_ret
        exact ⟨by rw [M.find, HE.out]; rfl, b1.trans b3⟩
      | false =>
        have ha : (a.toList == z.toList) = false := by rw [HA.out, hq]
        have HR := Lib.hid (show ∀ j, j < k + 1 → ((M.labelAt j).1 == M.fold (M.trim s.data.toList)) = false by
          intro j hj
          by_cases e : j = k
          · subst e; exact hq
          · exact HNO.out j (by omega))
        clear hq
        go_wp2_with fail
        go_round
        case rel => exact ⟨k + 1, by omega, by go_num, HR⟩
        case measure => simp [intOf]; omega
    · obtain rfl : k = 22 := by omega
      have HE := Lib.hid (HN.out HNO.out)
      go_wp2_with fail
      go_ret
      exact ⟨by rw [M.find, HE.out]; rfl, b1.trans b3⟩
end Go.Proofs.YtcgdecpjlggekaaGreatDoor

/-
  The laws on labels: labelBegun, LabelTells.
-/
namespace Go.Proofs.YtcgdecpjlggekaaGreatDoor
open Go.RowKit
set_option maxRecDepth 1000000

theorem labelBegun_any (w : World) : Calls Tryz.prog 16 #[] w fun e w' => e = .returned (.bool true) ∧ Bel w w' := by
  have h1 := trim_to ⟨#[9, 32, 97, 32, 98, 32, 10]⟩ [97, 32, 98] 0 (by decide +kernel) (by decide)
  have h2 := fold_to ⟨#[65, 196, 122]⟩ [97, 196, 122] 0 (by decide +kernel) (by decide)
  have h3 := find_to ⟨#[32, 76, 97, 116, 105, 110, 49, 13]⟩ 4 0 (by decide +kernel) (by decide)
  have h4 := name_to 3 [117, 116, 102, 45, 49, 54, 98, 101] 0 (by decide +kernel)
  have h5 := name_to 0 [] 6 (by decide +kernel)
  go_enter Tryz.func16, Tryz.ntmps16
  go_wp2_with fail
  refine (h1 _).mono ?_
  rintro e w1 ⟨rfl, b1⟩
  go_wp2_with fail
  refine (h2 _).mono ?_
  rintro e w2 ⟨rfl, b2⟩
  go_wp2_with fail
  refine (h3 _).mono ?_
  rintro e w3 ⟨rfl, b3⟩
  go_wp2_with fail
  refine (h4 _).mono ?_
  rintro e w4 ⟨rfl, b4⟩
  go_wp2_with fail
  refine (h5 _).mono ?_
  rintro e w5 ⟨rfl, b5⟩
  go_wp2_with fail
  go_ret
  exact ⟨rfl, (((b1.trans b2).trans b3).trans b4).trans b5⟩
end Go.Proofs.YtcgdecpjlggekaaGreatDoor

/-
  The document's answers on attributes: SameAttrs.
-/
namespace Go.Proofs.YtcgdecpjlggekaaGreatDoor
open Go.RowKit
set_option maxRecDepth 1000000

end Go.Proofs.YtcgdecpjlggekaaGreatDoor

/-
  The laws on attributes: attrBegun, AttrEach.
-/
namespace Go.Proofs.YtcgdecpjlggekaaGreatDoor
open Go.RowKit
set_option maxRecDepth 1000000

end Go.Proofs.YtcgdecpjlggekaaGreatDoor

/-
  The law ScanFar; what must be in any case of scans.
-/
namespace Go.Proofs.YtcgdecpjlggekaaGreatDoor
open Go.RowKit
set_option maxRecDepth 1000000
set_option maxHeartbeats 2000000

theorem attrLit1 (w : World) (p : List UInt8 × List UInt8) : AttrSl (w.alloc (.cells #[.string ⟨p.1.toArray⟩, .string ⟨p.2.toArray⟩] 66)) (.slice (some ⟨w.heap.size, 0, none⟩) 1 1) [p] := by
  refine ⟨some ⟨w.heap.size, 0, none⟩, 1, rfl, Nat.le_refl _, by unfold maxLen; omega, (fun h => by cases h), fun x hx _ => ⟨w.heap.size, 0, by injection hx with hx; exact hx.symm, fun i r hr => ?_⟩⟩
  match i, hr with
  | 0, hr => injection hr with hr; subst hr; exact ⟨by rw [World.cell?_alloc_new]; rfl, by rw [World.cell?_alloc_new]; rfl⟩
theorem begun_scan : M.scanE (⟨#[60, 33, 45, 45, 62, 60, 109, 101, 116, 97, 32, 99, 104, 97, 114, 115, 101, 116, 61, 120, 45, 117, 115, 101, 114, 45, 100, 101, 102, 105, 110, 101, 100, 62]⟩ : ByteArray).data.toList = (4, 0) := by decide +kernel
theorem begun_meta : M.metaE [([99, 104, 97, 114, 115, 101, 116], [117, 116, 102, 45, 49, 54])] = (1, 0) := by decide +kernel
theorem scanBegun_any (w : World) (hL : Len w) : Calls Tryz.prog 17 #[] w fun e w' => e = .returned (.bool true) ∧ Bel w w' := by
  go_enter Tryz.func17, Tryz.ntmps17
  go_wp2_with fail
  refine (scan_to _ 4 0 (by decide +kernel) _ hL).mono ?_
  rintro e w1 ⟨rfl, b1⟩
  go_wp2_with fail
  refine (metaS_to _ _ _ _ begun_meta _ (attrLit1 w1 ([99, 104, 97, 114, 115, 101, 116], [117, 116, 102, 45, 49, 54])) (hL.bel (b1.alloc _))).mono ?_
  rintro e w2 ⟨rfl, b2⟩
  have b2 := (b1.alloc _).trans b2
  go_wp2_with fail
  refine (scan_to _ _ _ begun_scan _ (hL.bel b2)).mono ?_
  rintro e w3 ⟨rfl, b3⟩
  go_wp2_with fail
  go_ret
  exact ⟨rfl, b2.trans b3⟩
end Go.Proofs.YtcgdecpjlggekaaGreatDoor

/-
  The law FrontMark.
-/
namespace Go.Proofs.YtcgdecpjlggekaaGreatDoor
open Go.RowKit
set_option maxRecDepth 1000000
set_option maxHeartbeats 4000000

theorem sniffM_to (s : ByteArray) (n k : Int) (h : M.sniff s.data.toList = (n, k)) (w : World) : Calls Tryz.prog 18 #[.string s] w fun e w' => e = .returned (.tuple #[.int .i64 n, .int .i64 k]) ∧ Bel w w' := by
  have := sniff_any s w; rw [h] at this; exact this
theorem frontMarkTrue (nm s : ByteArray) (w : World) (hn : nm.size ≤ reachBytes) (_ : s.size ≤ reachBytes) (hL : Len w) : Calls Tryz.prog 4 #[.string nm, .string s] w fun e w' => e = .returned (.bool true) ∧ Bel w w' := by
  simp only [reachBytes] at hn
  by_cases hl : 3000 < nm.size ∨ 3000 < s.size
  · have HC := Lib.hid (show M.chooseE nm.data.toList s.data.toList = (0, 0, 0, 2) by rw [M.chooseE, ← Lib.size_eq, ← Lib.size_eq, if_pos hl])
    clear hl
    go_enter Tryz.func4, Tryz.ntmps4
    go_wp2_with fail
    refine (choose_to nm s _ _ _ _ HC.out _ hL).mono ?_
    rintro e w1 ⟨rfl, b1⟩
    go_wp2_with fail
    refine (frontBegun_any _ (hL.bel b1)).mono ?_
    rintro e w2 ⟨rfl, b2⟩
    have b2 := b1.trans b2
    go_wp2_with fail
    refine (markBegun_any _).mono ?_
    rintro e w3 ⟨rfl, b3⟩
    have b3 := b2.trans b3
    go_wp2_with fail
    refine (labelBegun_any _).mono ?_
    rintro e w4 ⟨rfl, b4⟩
    have b4 := b3.trans b4
    go_wp2_with fail
    refine (scanBegun_any _ (hL.bel b4)).mono ?_
    rintro e w5 ⟨rfl, b5⟩
    have b5 := b4.trans b5
    go_wp2_with fail
    go_ret
    exact ⟨by first | rfl | simp, b5⟩
  · have hln : ¬ 3000 < nm.size := fun h => hl (.inl h)
    have hls : ¬ 3000 < s.size := fun h => hl (.inr h)
    obtain ⟨a, b, hsn⟩ : ∃ a b, M.sniff s.data.toList = (a, b) := ⟨_, _, rfl⟩
    have HSN := Lib.hid hsn
    obtain ⟨f, hf⟩ : ∃ f, M.find nm.data.toList = f := ⟨_, rfl⟩
    have HF := Lib.hid (show M.findE nm.data.toList = (f, 0) by rw [M.findE, ← Lib.size_eq, if_neg hln, hf])
    obtain ⟨m, hm⟩ : ∃ m, M.scanA s.data.toList = m := ⟨_, rfl⟩
    have HM := Lib.hid (show M.scanE s.data.toList = (m, 0) by rw [M.scanE, ← Lib.size_eq, if_neg hls, hm])
    have hc : M.chooseE nm.data.toList s.data.toList = (if a ≠ 0 then (a, 1, b, 0) else if f ≠ 0 then (f, 2, 0, 0) else if m ≠ 0 then (m, 3, 0, 0) else (4, 4, 0, 0)) := by
      rw [M.chooseE, ← Lib.size_eq, ← Lib.size_eq, if_neg hl, M.chosen, hsn, hf, hm]
      simp only
      split
      · rfl
      · split
        · rfl
        · split
          · rfl
          · rfl
    clear hsn hf hm hl
    by_cases h1 : a = 0
    · rw [if_neg (by simp [h1])] at hc
      subst h1
      by_cases h2 : f = 0
      · rw [if_neg (by simp [h2])] at hc
        subst h2
        by_cases h3 : m = 0
        · rw [if_neg (by simp [h3])] at hc
          subst h3
          have HC := Lib.hid hc
          clear hc hln hls
          skip
          go_enter Tryz.func4, Tryz.ntmps4
          go_wp2_with fail
          refine (choose_to nm s _ _ _ _ HC.out _ hL).mono ?_
          rintro e w1 ⟨rfl, b1⟩
          go_wp2_with fail
          refine (frontBegun_any _ (hL.bel b1)).mono ?_
          rintro e w2 ⟨rfl, b2⟩
          have b2 := b1.trans b2
          go_wp2_with fail
          refine (markBegun_any _).mono ?_
          rintro e w3 ⟨rfl, b3⟩
          have b3 := b2.trans b3
          go_wp2_with fail
          refine (labelBegun_any _).mono ?_
          rintro e w4 ⟨rfl, b4⟩
          have b4 := b3.trans b4
          go_wp2_with fail
          refine (scanBegun_any _ (hL.bel b4)).mono ?_
          rintro e w5 ⟨rfl, b5⟩
          have b5 := b4.trans b5
          go_wp2_with fail
          refine (sniffM_to s _ _ HSN.out _).mono ?_
          rintro e w6 ⟨rfl, b6⟩
          have b6 := b5.trans b6
          go_wp2_with fail
          refine (find_to nm _ _ HF.out (by omega) _).mono ?_
          rintro e w7 ⟨rfl, b7⟩
          have b7 := b6.trans b7
          go_wp2_with fail
          refine (scan_to s _ _ HM.out _ (hL.bel b7)).mono ?_
          rintro e w8 ⟨rfl, b8⟩
          have b8 := b7.trans b8
          go_wp2_with fail
          go_ret
          exact ⟨by simp, b8⟩
        · rw [if_pos h3] at hc
          have HC := Lib.hid hc
          have g3 : (m != 0) = true := by simpa using h3
          clear hc hln hls h3
          skip
          go_enter Tryz.func4, Tryz.ntmps4
          go_wp2_with fail
          refine (choose_to nm s _ _ _ _ HC.out _ hL).mono ?_
          rintro e w1 ⟨rfl, b1⟩
          go_wp2_with fail
          refine (frontBegun_any _ (hL.bel b1)).mono ?_
          rintro e w2 ⟨rfl, b2⟩
          have b2 := b1.trans b2
          go_wp2_with fail
          refine (markBegun_any _).mono ?_
          rintro e w3 ⟨rfl, b3⟩
          have b3 := b2.trans b3
          go_wp2_with fail
          refine (labelBegun_any _).mono ?_
          rintro e w4 ⟨rfl, b4⟩
          have b4 := b3.trans b4
          go_wp2_with fail
          refine (scanBegun_any _ (hL.bel b4)).mono ?_
          rintro e w5 ⟨rfl, b5⟩
          have b5 := b4.trans b5
          go_wp2_with fail
          refine (sniffM_to s _ _ HSN.out _).mono ?_
          rintro e w6 ⟨rfl, b6⟩
          have b6 := b5.trans b6
          go_wp2_with fail
          refine (find_to nm _ _ HF.out (by omega) _).mono ?_
          rintro e w7 ⟨rfl, b7⟩
          have b7 := b6.trans b7
          go_wp2_with fail
          refine (scan_to s _ _ HM.out _ (hL.bel b7)).mono ?_
          rintro e w8 ⟨rfl, b8⟩
          have b8 := b7.trans b8
          go_wp2_with fail
          go_ret
          exact ⟨by simp, b8⟩
      · rw [if_pos h2] at hc
        have HC := Lib.hid hc
        have g2 : (f != 0) = true := by simpa using h2
        clear hc hln hls h2
        skip
        go_enter Tryz.func4, Tryz.ntmps4
        go_wp2_with fail
        refine (choose_to nm s _ _ _ _ HC.out _ hL).mono ?_
        rintro e w1 ⟨rfl, b1⟩
        go_wp2_with fail
        refine (frontBegun_any _ (hL.bel b1)).mono ?_
        rintro e w2 ⟨rfl, b2⟩
        have b2 := b1.trans b2
        go_wp2_with fail
        refine (markBegun_any _).mono ?_
        rintro e w3 ⟨rfl, b3⟩
        have b3 := b2.trans b3
        go_wp2_with fail
        refine (labelBegun_any _).mono ?_
        rintro e w4 ⟨rfl, b4⟩
        have b4 := b3.trans b4
        go_wp2_with fail
        refine (scanBegun_any _ (hL.bel b4)).mono ?_
        rintro e w5 ⟨rfl, b5⟩
        have b5 := b4.trans b5
        go_wp2_with fail
        refine (sniffM_to s _ _ HSN.out _).mono ?_
        rintro e w6 ⟨rfl, b6⟩
        have b6 := b5.trans b6
        go_wp2_with fail
        refine (find_to nm _ _ HF.out (by omega) _).mono ?_
        rintro e w7 ⟨rfl, b7⟩
        have b7 := b6.trans b7
        go_wp2_with fail
        refine (scan_to s _ _ HM.out _ (hL.bel b7)).mono ?_
        rintro e w8 ⟨rfl, b8⟩
        have b8 := b7.trans b8
        go_wp2_with fail
        go_ret
        exact ⟨by simp, b8⟩
    · rw [if_pos h1] at hc
      have HC := Lib.hid hc
      have g1 : (a != 0) = true := by simpa using h1
      clear hc hln hls h1
      skip
      go_enter Tryz.func4, Tryz.ntmps4
      go_wp2_with fail
      refine (choose_to nm s _ _ _ _ HC.out _ hL).mono ?_
      rintro e w1 ⟨rfl, b1⟩
      go_wp2_with fail
      refine (frontBegun_any _ (hL.bel b1)).mono ?_
      rintro e w2 ⟨rfl, b2⟩
      have b2 := b1.trans b2
      go_wp2_with fail
      refine (markBegun_any _).mono ?_
      rintro e w3 ⟨rfl, b3⟩
      have b3 := b2.trans b3
      go_wp2_with fail
      refine (labelBegun_any _).mono ?_
      rintro e w4 ⟨rfl, b4⟩
      have b4 := b3.trans b4
      go_wp2_with fail
      refine (scanBegun_any _ (hL.bel b4)).mono ?_
      rintro e w5 ⟨rfl, b5⟩
      have b5 := b4.trans b5
      go_wp2_with fail
      refine (sniffM_to s _ _ HSN.out _).mono ?_
      rintro e w6 ⟨rfl, b6⟩
      have b6 := b5.trans b6
      go_wp2_with fail
      refine (find_to nm _ _ HF.out (by omega) _).mono ?_
      rintro e w7 ⟨rfl, b7⟩
      have b7 := b6.trans b7
      go_wp2_with fail
      refine (scan_to s _ _ HM.out _ (hL.bel b7)).mono ?_
      rintro e w8 ⟨rfl, b8⟩
      have b8 := b7.trans b8
      go_wp2_with fail
      go_ret
      exact ⟨by simp, b8⟩
end Go.Proofs.YtcgdecpjlggekaaGreatDoor

/-
  The document's answers on attributes: AttrAt.
-/
namespace Go.Proofs.YtcgdecpjlggekaaGreatDoor
open Go.RowKit
set_option maxRecDepth 1000000

theorem drop_cons (s : ByteArray) (k : Nat) (h : k < s.size) : s.data.toList.drop k = s[k] :: s.data.toList.drop (k + 1) := by
  have hk : k < s.data.toList.length := by rw [← Lib.size_eq]; exact h
  rw [List.drop_eq_getElem_cons hk]
  rfl
theorem drop_end (s : ByteArray) : s.data.toList.drop s.size = [] := List.drop_eq_nil_of_le (by rw [← Lib.size_eq]; exact Nat.le_refl _)
theorem dw_go (p : UInt8 → Bool) (s : ByteArray) (j : Nat) (h : j < s.size) (hp : p s[j] = true) : (s.data.toList.drop (j + 1)).dropWhile p = (s.data.toList.drop j).dropWhile p := by
  rw [drop_cons s j h, List.dropWhile_cons, if_pos hp]
theorem dw_stop (p : UInt8 → Bool) (s : ByteArray) (j : Nat) (h : j < s.size) (hp : p s[j] = false) : (s.data.toList.drop j).dropWhile p = s.data.toList.drop j := by
  rw [drop_cons s j h, List.dropWhile_cons, if_neg (by rw [hp]; decide)]
theorem tw_go (p : UInt8 → Bool) (s : ByteArray) (j : Nat) (h : j < s.size) (hp : p s[j] = true) : (s.data.toList.drop j).takeWhile p = s[j] :: (s.data.toList.drop (j + 1)).takeWhile p := by
  rw [drop_cons s j h, List.takeWhile_cons, if_pos hp]
theorem tw_stop (p : UInt8 → Bool) (s : ByteArray) (j : Nat) (h : j < s.size) (hp : p s[j] = false) : (s.data.toList.drop j).takeWhile p = [] := by
  rw [drop_cons s j h, List.takeWhile_cons, if_neg (by rw [hp]; decide)]
theorem one_str (s : ByteArray) (u : List UInt8) (j : Nat) (h : j < s.size) : (⟨u.toArray⟩ : ByteArray) ++ s.extract j (j + 1) = ⟨(u ++ [s[j]]).toArray⟩ := by
  rw [cut_str s j 1, drop_cons s j h, str_append]; rfl
theorem name_int2 (c : UInt8) : M.nameB c = (((c.toNat : Int) != 61) && ((c.toNat : Int) != 47) && ((c.toNat : Int) != 62) && !M.white c) := by
  rw [M.nameB]
  have e47 : UInt8.toNat 47 = 47 := rfl
  have e62 : UInt8.toNat 62 = 62 := rfl
  have e61 : UInt8.toNat 61 = 61 := rfl
  rw [Bool.eq_iff_iff]
  simp only [Bool.and_eq_true, bne_iff_ne, ne_eq, decide_eq_true_eq, ← UInt8.toNat_inj]
  constructor
  · rintro ⟨h0, h1, h2, h3⟩
    exact ⟨⟨⟨by omega, by omega⟩, by omega⟩, h0⟩
  · rintro ⟨⟨⟨h1, h2⟩, h3⟩, h0⟩
    exact ⟨h0, by omega, by omega, by omega⟩
theorem not_int (q c : UInt8) : (c != q) = ((c.toNat : Int) != (q.toNat : Int)) := by rw [bne, bne, byte_eq]
theorem quote_34 (c : UInt8) (h : ((c.toNat : Int) == 34) = true) : c = 34 ∨ c = 39 := .inl (UInt8.toNat_inj.1 (by have e : UInt8.toNat 34 = 34 := rfl; simp at h; omega))
theorem quote_39 (c : UInt8) (h : ((c.toNat : Int) == 39) = true) : c = 34 ∨ c = 39 := .inr (UInt8.toNat_inj.1 (by have e : UInt8.toNat 39 = 39 := rfl; simp at h; omega))
theorem quote_no (c : UInt8) (h : ((c.toNat : Int) == 34) = false) (h2 : ((c.toNat : Int) == 39) = false) : ¬ (c = 34 ∨ c = 39) := by
  simp at h h2
  rintro (rfl | rfl)
  · exact h rfl
  · exact h2 rfl
theorem fin_attr (n : Nat) (o : Option (List UInt8 × List UInt8)) (r : List UInt8) (o' : Option (List UInt8 × List UInt8)) (r' : List UInt8) (h : (o', r') = (o, r)) (X Y : ByteArray) (hX : Value.agg #[.string X, .string Y] = agA o') (kk : Nat) (hk : kk = n - r'.length) (b : Bool) (hb : o'.isSome = b) :
    Ending.returned (.tuple #[.agg #[.string X, .string Y], .int .i64 (kk : Int), .bool b]) = .returned (.tuple #[agA o, .int .i64 ((n - r.length : Nat) : Int), .bool o.isSome]) := by
  injection h with h1 h2
  subst h1; subst h2; subst hk; subst hb
  rw [hX]
set_option maxHeartbeats 16000000 in
theorem attrAt_any (s : ByteArray) (k : Nat) (hk : k ≤ s.size) (hs : s.size ≤ 3000) (o : Option (List UInt8 × List UInt8)) (r : List UInt8) (hn : M.nextA (s.data.toList.drop k) = (o, r)) (w : World) :
    Calls Tryz.prog 78 #[.string s, .int .i64 (k : Int)] w fun e w' => e = .returned (.tuple #[agA o, .int .i64 ((s.size - r.length : Nat) : Int), .bool o.isSome]) ∧ Bel w w' := by
  have HN := Lib.hid hn
  clear hn
  have hy : Box (w.alloc (.cells #[.string ⟨#[]⟩, .string ⟨#[]⟩] 66)) w.heap.size 66 [.string ⟨#[]⟩, .string ⟨#[]⟩] := Box.new w 66 [.string ⟨#[]⟩, .string ⟨#[]⟩]
  have hb : Bel w (w.alloc (.cells #[.string ⟨#[]⟩, .string ⟨#[]⟩] 66)) := (Bel.refl w).alloc _
  go_enter Tryz.func78, Tryz.ntmps78
  go_upto_block 0 with fail
  generalize (w.alloc (.cells #[.string ⟨#[]⟩, .string ⟨#[]⟩] 66)) = W at *
  go_cut [1] from 10 to 27 (fun v wx => (∃ j : Nat, v = .int .i64 (j : Int) ∧ k ≤ j ∧ j ≤ s.size ∧ s.data.toList.drop j = (s.data.toList.drop k).dropWhile M.skipB) ∧ W = wx)
  case first =>
    go_wp2_with fail
    go_loop [1] (fun v => ∃ j : Nat, v = .int .i64 (j : Int) ∧ k ≤ j ∧ j ≤ s.size ∧ Hid ((s.data.toList.drop j).dropWhile M.skipB = (s.data.toList.drop k).dropWhile M.skipB)) (fun v => s.size - (intOf v).toNat)
    case atStart => exact ⟨k, by first | rfl | go_num, Nat.le_refl _, by omega, Lib.hid rfl⟩
    case round =>
      obtain ⟨j, rfl, hsj, hj, HJ⟩ := hrel
      by_cases hlt : j < s.size
      ·
        cases hw : M.white s[j] with
        | true =>
          have hp : (M.skipB) s[j] = true := by simp [skip_int, hw]
          have HR := Lib.hid ((dw_go (M.skipB) s j hlt hp).trans HJ.out)
          have HW := Lib.hid hw
          clear hp hw
          go_wp2_with (go_at_call 53; refine (isWhite_any _ _).mono ?_; rintro e w' ⟨rfl, rfl⟩; rw [HW.out])
          go_round
          case rel => exact ⟨j + 1, by go_num, by omega, by omega, HR⟩
          case measure => simp [intOf]; omega
        | false =>
          cases h47 : ((s[j].toNat : Int) == 47) with
          | true =>
            have hp : (M.skipB) s[j] = true := by simp [skip_int, hw, h47]
            have HR := Lib.hid ((dw_go (M.skipB) s j hlt hp).trans HJ.out)
            have HW := Lib.hid hw
            clear hp hw
            go_wp2_with (go_at_call 53; refine (isWhite_any _ _).mono ?_; rintro e w' ⟨rfl, rfl⟩; rw [HW.out])
            go_round
            case rel => exact ⟨j + 1, by go_num, by omega, by omega, HR⟩
            case measure => simp [intOf]; omega
          | false =>
            have hp : (M.skipB) s[j] = false := by simp [skip_int, hw, h47]
            have HR := Lib.hid ((dw_stop (M.skipB) s j hlt hp).symm.trans HJ.out)
            have HW := Lib.hid hw
            clear hp hw
            go_wp2_with (go_at_call 53; refine (isWhite_any _ _).mono ?_; rintro e w' ⟨rfl, rfl⟩; rw [HW.out])
            go_meet
            exact ⟨⟨j, rfl, hsj, hj, HR.out⟩, rfl⟩
      · obtain rfl : j = s.size := by omega
        have HR := Lib.hid (show s.data.toList.drop s.size = (s.data.toList.drop k).dropWhile M.skipB by rw [← HJ.out, drop_end]; rfl)
        go_wp2_with fail
        go_meet
        exact ⟨⟨s.size, rfl, hsj, hj, HR.out⟩, rfl⟩
  case rest =>
  obtain ⟨⟨k1, rfl, hk01, hk1, hl1⟩, rfl⟩ := hcut
  by_cases hlt1 : k1 < s.size
  ·
    have hne1 : ((k1 : Int) == (s.size : Int)) = false := by simp; omega
    have hdc := drop_cons s k1 hlt1
    rw [hl1] at hdc
    have hend := end_int s[k1]
    cases h62 : ((s[k1].toNat : Int) != 62) with
    | false =>
      rw [h62] at hend
      have HX := Lib.hid (show M.nextA (s.data.toList.drop k) = (none, (s.data.toList.drop k).dropWhile M.skipB) by rw [M.nextA, hdc]; simp only; rw [if_pos (by simpa using hend)])
      have h62' : ((s[k1].toNat : Int) == 62) = true := by simpa using h62
      clear hend hdc h62
      have cy0 := hy.cell 0 _ rfl
      have cy1 := hy.cell 1 _ rfl
      have fy0 := hy.frozen 0
      have fy1 := hy.frozen 1
      go_wp2_with fail
      have hz := (hy.set 0 (.string ⟨#[]⟩)).set 1 (.string ⟨#[]⟩)
      have d0 := hz.cell 0 _ rfl
      have d1 := hz.cell 1 _ rfl
      refine bodyPost_ret (v := .tuple #[.agg #[.string ⟨#[]⟩, .string ⟨#[]⟩], .int .i64 ((k1 : Nat) : Int), .bool false]) (by simp [results, Tryz.results78, go_sem, d0, d1]) rfl ⟨?_, ?_⟩
      · exact fin_attr s.size o r _ _ (HX.out.symm.trans HN.out) _ _ rfl _ (at_of s k1 hk1 _ hl1) _ rfl
      · exact (hb.setCell (p := ⟨w.heap.size, 0, none⟩) (Nat.le_refl _) _).setCell (p := ⟨w.heap.size, 1, none⟩) (Nat.le_refl _) _
    | true =>
      rw [h62] at hend
      have hc62 : s[k1] ≠ 62 := by simpa using hend
      have HX := Lib.hid (show M.nextA (s.data.toList.drop k) = M.afterA ([s[k1]] ++ (s.data.toList.drop (k1 + 1)).takeWhile M.nameB) (((s.data.toList.drop (k1 + 1)).dropWhile M.nameB).dropWhile M.white) by rw [M.nextA, hdc]; simp only; rw [if_neg hc62]; rfl)
      have h62' : ((s[k1].toNat : Int) == 62) = false := by simpa using h62
      have hn1 : s.extract k1 (k1 + 1) = ⟨[s[k1]].toArray⟩ := by rw [cut_str s k1 1, drop_cons s k1 hlt1]; rfl
      have HN1 := Lib.hid hn1
      clear hend hdc h62 hc62 hn1 hl1
      go_upto_block 2 with fail
      rw [HN1.out]
      go_cut [1, 7] from 47 to 84 (fun v t wx => (∃ (j : Nat) (u : List UInt8), v = .int .i64 (j : Int) ∧ t = .string ⟨u.toArray⟩ ∧ (k1 + 1) ≤ j ∧ j ≤ s.size ∧ s.data.toList.drop j = (s.data.toList.drop (k1 + 1)).dropWhile M.nameB ∧ u = [s[k1]] ++ (s.data.toList.drop (k1 + 1)).takeWhile M.nameB) ∧ W = wx)
      case first =>
        go_wp2_with fail
        go_loop [1, 7] (fun v t => ∃ (j : Nat) (u : List UInt8), v = .int .i64 (j : Int) ∧ t = .string ⟨u.toArray⟩ ∧ (k1 + 1) ≤ j ∧ j ≤ s.size ∧ u.length ≤ j ∧ Hid ((s.data.toList.drop j).dropWhile M.nameB = (s.data.toList.drop (k1 + 1)).dropWhile M.nameB) ∧ Hid (u ++ (s.data.toList.drop j).takeWhile M.nameB = [s[k1]] ++ (s.data.toList.drop (k1 + 1)).takeWhile M.nameB)) (fun v _ => s.size - (intOf v).toNat)
        case atStart => exact ⟨(k1 + 1), [s[k1]], by first | rfl | go_num, by first | rfl | assumption, Nat.le_refl _, by omega, by simp; try omega, Lib.hid rfl, Lib.hid rfl⟩
        case round =>
          obtain ⟨j, u, rfl, rfl, hsj, hj, hul, HJ, HU⟩ := hrel
          by_cases hlt : j < s.size
          ·
            cases h61 : ((s[j].toNat : Int) != 61) with
            | true =>
              cases h47 : ((s[j].toNat : Int) != 47) with
              | true =>
                cases h62 : ((s[j].toNat : Int) != 62) with
                | true =>
                  cases hw : M.white s[j] with
                  | true =>
                    have hp : (M.nameB) s[j] = false := by simp [name_int2, h61, h47, h62, hw]
                    have HR := Lib.hid ((dw_stop (M.nameB) s j hlt hp).symm.trans HJ.out)
                    have HV := Lib.hid (show u = [s[k1]] ++ (s.data.toList.drop (k1 + 1)).takeWhile M.nameB by rw [← HU.out, tw_stop (M.nameB) s j hlt hp, List.append_nil])
                    have HW := Lib.hid hw
                    clear hp hw
                    go_wp2_with (go_at_call 53; refine (isWhite_any _ _).mono ?_; rintro e w' ⟨rfl, rfl⟩; rw [HW.out])
                    go_meet
                    exact ⟨⟨j, u, rfl, rfl, hsj, hj, HR.out, HV.out⟩, rfl⟩
                  | false =>
                    have hp : (M.nameB) s[j] = true := by simp [name_int2, h61, h47, h62, hw]
                    have HR := Lib.hid ((dw_go (M.nameB) s j hlt hp).trans HJ.out)
                    have HV := Lib.hid (show (u ++ [s[j]]) ++ (s.data.toList.drop (j + 1)).takeWhile M.nameB = [s[k1]] ++ (s.data.toList.drop (k1 + 1)).takeWhile M.nameB by rw [← HU.out, tw_go (M.nameB) s j hlt hp, List.append_assoc]; rfl)
                    have HS := Lib.hid (one_str s u j hlt)
                    have HW := Lib.hid hw
                    clear hp hw
                    go_wp2_with (go_at_call 53; refine (isWhite_any _ _).mono ?_; rintro e w' ⟨rfl, rfl⟩; rw [HW.out])
                    go_round
                    case rel => exact ⟨j + 1, u ++ [s[j]], by go_num, by rw [← HS.out], by omega, by omega, by rw [List.length_append, List.length_singleton]; omega, HR, HV⟩
                    case measure => simp [intOf]; omega
                | false =>
                  have hp : (M.nameB) s[j] = false := by simp [name_int2, h61, h47, h62]
                  have HR := Lib.hid ((dw_stop (M.nameB) s j hlt hp).symm.trans HJ.out)
                  have HV := Lib.hid (show u = [s[k1]] ++ (s.data.toList.drop (k1 + 1)).takeWhile M.nameB by rw [← HU.out, tw_stop (M.nameB) s j hlt hp, List.append_nil])
                  clear hp
                  go_wp2_with fail
                  go_meet
                  exact ⟨⟨j, u, rfl, rfl, hsj, hj, HR.out, HV.out⟩, rfl⟩
              | false =>
                have hp : (M.nameB) s[j] = false := by simp [name_int2, h61, h47]
                have HR := Lib.hid ((dw_stop (M.nameB) s j hlt hp).symm.trans HJ.out)
                have HV := Lib.hid (show u = [s[k1]] ++ (s.data.toList.drop (k1 + 1)).takeWhile M.nameB by rw [← HU.out, tw_stop (M.nameB) s j hlt hp, List.append_nil])
                clear hp
                go_wp2_with fail
                go_meet
                exact ⟨⟨j, u, rfl, rfl, hsj, hj, HR.out, HV.out⟩, rfl⟩
            | false =>
              have hp : (M.nameB) s[j] = false := by simp [name_int2, h61]
              have HR := Lib.hid ((dw_stop (M.nameB) s j hlt hp).symm.trans HJ.out)
              have HV := Lib.hid (show u = [s[k1]] ++ (s.data.toList.drop (k1 + 1)).takeWhile M.nameB by rw [← HU.out, tw_stop (M.nameB) s j hlt hp, List.append_nil])
              clear hp
              go_wp2_with fail
              go_meet
              exact ⟨⟨j, u, rfl, rfl, hsj, hj, HR.out, HV.out⟩, rfl⟩
          · obtain rfl : j = s.size := by omega
            have HR := Lib.hid (show s.data.toList.drop s.size = (s.data.toList.drop (k1 + 1)).dropWhile M.nameB by rw [← HJ.out, drop_end]; rfl)
            have HV := Lib.hid (show u = [s[k1]] ++ (s.data.toList.drop (k1 + 1)).takeWhile M.nameB by rw [← HU.out, drop_end]; simp)
            go_wp2_with fail
            go_meet
            exact ⟨⟨s.size, u, rfl, rfl, hsj, hj, HR.out, HV.out⟩, rfl⟩
      case rest =>
      obtain ⟨⟨k2, nm, rfl, rfl, hk12, hk2, hl2, hnm⟩, rfl⟩ := hcut
      have hnl : nm.length ≤ s.size := by rw [hnm]; have h9 := (List.takeWhile_prefix M.nameB (l := s.data.toList.drop (k1 + 1))).length_le; rw [List.length_drop, ← Lib.size_eq] at h9; rw [List.length_append, List.length_singleton]; omega
      rw [← hnm, ← hl2] at HX
      clear hnm hl2 HN1
      go_upto_block 4 with fail
      go_cut [1] from 85 to 96 (fun v wx => (∃ j : Nat, v = .int .i64 (j : Int) ∧ k2 ≤ j ∧ j ≤ s.size ∧ s.data.toList.drop j = (s.data.toList.drop k2).dropWhile M.white) ∧ W = wx)
      case first =>
        go_wp2_with fail
        go_loop [1] (fun v => ∃ j : Nat, v = .int .i64 (j : Int) ∧ k2 ≤ j ∧ j ≤ s.size ∧ Hid ((s.data.toList.drop j).dropWhile M.white = (s.data.toList.drop k2).dropWhile M.white)) (fun v => s.size - (intOf v).toNat)
        case atStart => exact ⟨k2, by first | rfl | go_num, Nat.le_refl _, by omega, Lib.hid rfl⟩
        case round =>
          obtain ⟨j, rfl, hsj, hj, HJ⟩ := hrel
          by_cases hlt : j < s.size
          ·
            cases hw : M.white s[j] with
            | true =>
              have hp : (M.white) s[j] = true := by simp [hw]
              have HR := Lib.hid ((dw_go (M.white) s j hlt hp).trans HJ.out)
              have HW := Lib.hid hw
              clear hp hw
              go_wp2_with (go_at_call 53; refine (isWhite_any _ _).mono ?_; rintro e w' ⟨rfl, rfl⟩; rw [HW.out])
              go_round
              case rel => exact ⟨j + 1, by go_num, by omega, by omega, HR⟩
              case measure => simp [intOf]; omega
            | false =>
              have hp : (M.white) s[j] = false := by simp [hw]
              have HR := Lib.hid ((dw_stop (M.white) s j hlt hp).symm.trans HJ.out)
              have HW := Lib.hid hw
              clear hp hw
              go_wp2_with (go_at_call 53; refine (isWhite_any _ _).mono ?_; rintro e w' ⟨rfl, rfl⟩; rw [HW.out])
              go_meet
              exact ⟨⟨j, rfl, hsj, hj, HR.out⟩, rfl⟩
          · obtain rfl : j = s.size := by omega
            have HR := Lib.hid (show s.data.toList.drop s.size = (s.data.toList.drop k2).dropWhile M.white by rw [← HJ.out, drop_end]; rfl)
            go_wp2_with fail
            go_meet
            exact ⟨⟨s.size, rfl, hsj, hj, HR.out⟩, rfl⟩
      case rest =>
      obtain ⟨⟨k3, rfl, hk23, hk3, hl3⟩, rfl⟩ := hcut
      rw [← hl3] at HX
      clear hl3
      by_cases hlt3 : k3 < s.size
      ·
        have hne3 : ((k3 : Int) == (s.size : Int)) = false := by simp; omega
        have hdc := drop_cons s k3 hlt3
        have h61i : (s[k3] != 61) = ((s[k3].toNat : Int) != 61) := not_int 61 s[k3]
        cases h61 : ((s[k3].toNat : Int) != 61) with
        | true =>
          rw [h61] at h61i
          have HY := Lib.hid (show M.nextA (s.data.toList.drop k) = (some (M.fold nm, []), s.data.toList.drop k3) by rw [HX.out, hdc, M.afterA, if_neg (by simpa using h61i)])
          clear h61i hdc
          have cy0 := hy.cell 0 _ rfl
          have cy1 := hy.cell 1 _ rfl
          have fy0 := hy.frozen 0
          have fy1 := hy.frozen 1
          go_wp2_with fail
          refine (foldOf_any ⟨nm.toArray⟩ _ (by rw [size_str]; omega)).mono ?_
          rintro e W2 ⟨rfl, hbb⟩
          have hy := hy.bel hbb
          have hb := hb.trans hbb
          clear cy0 cy1 fy0 fy1 hbb
          have cy0 := hy.cell 0 _ rfl
          have cy1 := hy.cell 1 _ rfl
          have fy0 := hy.frozen 0
          have fy1 := hy.frozen 1
          go_wp2_with fail
          have hz := (hy.set 0 (.string ⟨(M.fold nm).toArray⟩)).set 1 (.string ⟨#[]⟩)
          have d0 := hz.cell 0 _ rfl
          have d1 := hz.cell 1 _ rfl
          refine bodyPost_ret (v := .tuple #[.agg #[.string ⟨(M.fold nm).toArray⟩, .string ⟨#[]⟩], .int .i64 ((k3 : Nat) : Int), .bool true]) (by simp [results, Tryz.results78, go_sem, d0, d1]) rfl ⟨?_, ?_⟩
          · exact fin_attr s.size o r _ _ (HY.out.symm.trans HN.out) _ _ rfl _ (at_of s k3 hk3 _ rfl) _ rfl
          · exact (hb.setCell (p := ⟨w.heap.size, 0, none⟩) (Nat.le_refl _) _).setCell (p := ⟨w.heap.size, 1, none⟩) (Nat.le_refl _) _
        | false =>
          rw [h61] at h61i
          have HY := Lib.hid (show M.nextA (s.data.toList.drop k) = ((M.valueA (s.data.toList.drop (k3 + 1))).1.map (fun v => (M.fold nm, M.fold v)), (M.valueA (s.data.toList.drop (k3 + 1))).2) by rw [HX.out, hdc, M.afterA, if_pos (by simpa using h61i)])
          clear h61i hdc HX
          go_upto_block 6 with fail
          go_cut [1] from 113 to 124 (fun v wx => (∃ j : Nat, v = .int .i64 (j : Int) ∧ (k3 + 1) ≤ j ∧ j ≤ s.size ∧ s.data.toList.drop j = (s.data.toList.drop (k3 + 1)).dropWhile M.white) ∧ W = wx)
          case first =>
            go_wp2_with fail
            go_loop [1] (fun v => ∃ j : Nat, v = .int .i64 (j : Int) ∧ (k3 + 1) ≤ j ∧ j ≤ s.size ∧ Hid ((s.data.toList.drop j).dropWhile M.white = (s.data.toList.drop (k3 + 1)).dropWhile M.white)) (fun v => s.size - (intOf v).toNat)
            case atStart => exact ⟨(k3 + 1), by first | rfl | go_num, Nat.le_refl _, by omega, Lib.hid rfl⟩
            case round =>
              obtain ⟨j, rfl, hsj, hj, HJ⟩ := hrel
              by_cases hlt : j < s.size
              ·
                cases hw : M.white s[j] with
                | true =>
                  have hp : (M.white) s[j] = true := by simp [hw]
                  have HR := Lib.hid ((dw_go (M.white) s j hlt hp).trans HJ.out)
                  have HW := Lib.hid hw
                  clear hp hw
                  go_wp2_with (go_at_call 53; refine (isWhite_any _ _).mono ?_; rintro e w' ⟨rfl, rfl⟩; rw [HW.out])
                  go_round
                  case rel => exact ⟨j + 1, by go_num, by omega, by omega, HR⟩
                  case measure => simp [intOf]; omega
                | false =>
                  have hp : (M.white) s[j] = false := by simp [hw]
                  have HR := Lib.hid ((dw_stop (M.white) s j hlt hp).symm.trans HJ.out)
                  have HW := Lib.hid hw
                  clear hp hw
                  go_wp2_with (go_at_call 53; refine (isWhite_any _ _).mono ?_; rintro e w' ⟨rfl, rfl⟩; rw [HW.out])
                  go_meet
                  exact ⟨⟨j, rfl, hsj, hj, HR.out⟩, rfl⟩
              · obtain rfl : j = s.size := by omega
                have HR := Lib.hid (show s.data.toList.drop s.size = (s.data.toList.drop (k3 + 1)).dropWhile M.white by rw [← HJ.out, drop_end]; rfl)
                go_wp2_with fail
                go_meet
                exact ⟨⟨s.size, rfl, hsj, hj, HR.out⟩, rfl⟩
          case rest =>
          obtain ⟨⟨k4, rfl, hk34, hk4, hl4⟩, rfl⟩ := hcut
          by_cases hlt4 : k4 < s.size
          ·
            cases h34 : ((s[k4].toNat : Int) == 34) with
            | true =>
              have hqq := quote_34 _ h34
              have HQ := Lib.hid (show (s.data.toList.drop (k3 + 1)).dropWhile M.white = s[k4] :: s.data.toList.drop (k4 + 1) by rw [← hl4, drop_cons s k4 hlt4])
              have HV := Lib.hid (show M.valueA (s.data.toList.drop (k3 + 1)) = M.quotedA s[k4] (s.data.toList.drop (k4 + 1)) by rw [M.valueA, HQ.out]; simp only; rw [if_pos hqq])
              clear hl4 HQ hqq
              go_upto_block 8 with fail
              obtain ⟨q, hq⟩ : ∃ q, s[k4] = q := ⟨_, rfl⟩
              have HQQ := Lib.hid hq
              rw [hq] at HV
              try rw [hq]
              clear hq
              go_cut [1, 8] from 146 to 165 (fun v t wx => (∃ (j : Nat) (u : List UInt8), v = .int .i64 (j : Int) ∧ t = .string ⟨u.toArray⟩ ∧ (k4 + 1) ≤ j ∧ j ≤ s.size ∧ s.data.toList.drop j = (s.data.toList.drop (k4 + 1)).dropWhile (fun c => c != q) ∧ u = ([] : List UInt8) ++ (s.data.toList.drop (k4 + 1)).takeWhile (fun c => c != q)) ∧ W = wx)
              case first =>
                go_wp2_with fail
                go_loop [1, 8] (fun v t => ∃ (j : Nat) (u : List UInt8), v = .int .i64 (j : Int) ∧ t = .string ⟨u.toArray⟩ ∧ (k4 + 1) ≤ j ∧ j ≤ s.size ∧ u.length ≤ j ∧ Hid ((s.data.toList.drop j).dropWhile (fun c => c != q) = (s.data.toList.drop (k4 + 1)).dropWhile (fun c => c != q)) ∧ Hid (u ++ (s.data.toList.drop j).takeWhile (fun c => c != q) = ([] : List UInt8) ++ (s.data.toList.drop (k4 + 1)).takeWhile (fun c => c != q))) (fun v _ => s.size - (intOf v).toNat)
                case atStart => exact ⟨(k4 + 1), ([] : List UInt8), by first | rfl | go_num, by first | rfl | assumption, Nat.le_refl _, by omega, by simp; try omega, Lib.hid rfl, Lib.hid rfl⟩
                case round =>
                  obtain ⟨j, u, rfl, rfl, hsj, hj, hul, HJ, HU⟩ := hrel
                  by_cases hlt : j < s.size
                  ·
                    cases hq : ((s[j].toNat : Int) != (q.toNat : Int)) with
                    | true =>
                      have hp : ((fun c => c != q)) s[j] = true := by simp [not_int q, hq]
                      have HR := Lib.hid ((dw_go ((fun c => c != q)) s j hlt hp).trans HJ.out)
                      have HV := Lib.hid (show (u ++ [s[j]]) ++ (s.data.toList.drop (j + 1)).takeWhile (fun c => c != q) = ([] : List UInt8) ++ (s.data.toList.drop (k4 + 1)).takeWhile (fun c => c != q) by rw [← HU.out, tw_go ((fun c => c != q)) s j hlt hp, List.append_assoc]; rfl)
                      have HS := Lib.hid (one_str s u j hlt)
                      clear hp
                      go_wp2_with fail
                      go_round
                      case rel => exact ⟨j + 1, u ++ [s[j]], by go_num, by rw [← HS.out], by omega, by omega, by rw [List.length_append, List.length_singleton]; omega, HR, HV⟩
                      case measure => simp [intOf]; omega
                    | false =>
                      have hp : ((fun c => c != q)) s[j] = false := by simp [not_int q, hq]
                      have HR := Lib.hid ((dw_stop ((fun c => c != q)) s j hlt hp).symm.trans HJ.out)
                      have HV := Lib.hid (show u = ([] : List UInt8) ++ (s.data.toList.drop (k4 + 1)).takeWhile (fun c => c != q) by rw [← HU.out, tw_stop ((fun c => c != q)) s j hlt hp, List.append_nil])
                      clear hp
                      go_wp2_with fail
                      go_meet
                      exact ⟨⟨j, u, rfl, rfl, hsj, hj, HR.out, HV.out⟩, rfl⟩
                  · obtain rfl : j = s.size := by omega
                    have HR := Lib.hid (show s.data.toList.drop s.size = (s.data.toList.drop (k4 + 1)).dropWhile (fun c => c != q) by rw [← HJ.out, drop_end]; rfl)
                    have HV := Lib.hid (show u = ([] : List UInt8) ++ (s.data.toList.drop (k4 + 1)).takeWhile (fun c => c != q) by rw [← HU.out, drop_end]; simp)
                    go_wp2_with fail
                    go_meet
                    exact ⟨⟨s.size, u, rfl, rfl, hsj, hj, HR.out, HV.out⟩, rfl⟩
              case rest =>
              obtain ⟨⟨k5, vv, rfl, rfl, hk45, hk5, hl5, hvv⟩, rfl⟩ := hcut
              by_cases hlt5 : k5 < s.size
              ·
                have hne5 : ((k5 : Int) == (s.size : Int)) = false := by simp; omega
                have hq5 : (s.data.toList.drop (k4 + 1)).dropWhile (fun c => c != q) = s[k5] :: s.data.toList.drop (k5 + 1) := by rw [← hl5, drop_cons s k5 hlt5]
                have HZ := Lib.hid (show M.nextA (s.data.toList.drop k) = (some (M.fold nm, M.fold vv), s.data.toList.drop (k5 + 1)) by rw [HY.out, HV.out, M.quotedA, hq5]; simp only; rw [hvv]; rfl)
                clear HY HV hl5 hq5
                have hvl : (vv).length ≤ s.size := by rw [hvv]; have h9 := (List.takeWhile_prefix (fun c => c != q) (l := s.data.toList.drop (k4 + 1))).length_le; rw [List.length_drop, ← Lib.size_eq] at h9; rw [List.nil_append]; omega
                clear hvv
                have cy0 := hy.cell 0 _ rfl
                have cy1 := hy.cell 1 _ rfl
                have fy0 := hy.frozen 0
                have fy1 := hy.frozen 1
                go_wp2_with fail
                refine (foldOf_any ⟨nm.toArray⟩ _ (by rw [size_str]; omega)).mono ?_
                rintro e W2 ⟨rfl, hbb⟩
                have hy := hy.bel hbb
                have hb := hb.trans hbb
                clear cy0 cy1 fy0 fy1 hbb
                go_wp2_with fail
                refine (foldOf_any ⟨(vv).toArray⟩ _ (by rw [size_str]; omega)).mono ?_
                rintro e W3 ⟨rfl, hbb⟩
                have hy := hy.bel hbb
                have hb := hb.trans hbb
                have cy0 := hy.cell 0 _ rfl
                have cy1 := hy.cell 1 _ rfl
                have fy0 := hy.frozen 0
                have fy1 := hy.frozen 1
                go_wp2_with fail
                have hz := (hy.set 0 (.string ⟨(M.fold nm).toArray⟩)).set 1 (.string ⟨(M.fold vv).toArray⟩)
                have d0 := hz.cell 0 _ rfl
                have d1 := hz.cell 1 _ rfl
                refine bodyPost_ret (v := .tuple #[.agg #[.string ⟨(M.fold nm).toArray⟩, .string ⟨(M.fold vv).toArray⟩], .int .i64 ((k5 + 1 : Nat) : Int), .bool true]) (by simp [results, Tryz.results78, go_sem, d0, d1]) rfl ⟨?_, ?_⟩
                · exact fin_attr s.size o r _ _ (HZ.out.symm.trans HN.out) _ _ rfl _ (at_of s (k5 + 1) (by omega) _ rfl) _ rfl
                · exact (hb.setCell (p := ⟨w.heap.size, 0, none⟩) (Nat.le_refl _) _).setCell (p := ⟨w.heap.size, 1, none⟩) (Nat.le_refl _) _
              · obtain rfl : k5 = s.size := by omega
                have HZ := Lib.hid (show M.nextA (s.data.toList.drop k) = (none, []) by rw [HY.out, HV.out, M.quotedA, ← hl5, drop_end]; rfl)
                clear HY HV hl5 hvv
                have cy0 := hy.cell 0 _ rfl
                have cy1 := hy.cell 1 _ rfl
                have fy0 := hy.frozen 0
                have fy1 := hy.frozen 1
                go_wp2_with fail
                have hz := (hy.set 0 (.string ⟨#[]⟩)).set 1 (.string ⟨#[]⟩)
                have d0 := hz.cell 0 _ rfl
                have d1 := hz.cell 1 _ rfl
                refine bodyPost_ret (v := .tuple #[.agg #[.string ⟨#[]⟩, .string ⟨#[]⟩], .int .i64 ((s.size : Nat) : Int), .bool false]) (by simp [results, Tryz.results78, go_sem, d0, d1]) rfl ⟨?_, ?_⟩
                · exact fin_attr s.size o r _ _ (HZ.out.symm.trans HN.out) _ _ rfl _ (by simp) _ rfl
                · exact (hb.setCell (p := ⟨w.heap.size, 0, none⟩) (Nat.le_refl _) _).setCell (p := ⟨w.heap.size, 1, none⟩) (Nat.le_refl _) _
            | false =>
              cases h39 : ((s[k4].toNat : Int) == 39) with
              | true =>
                have hqq := quote_39 _ h39
                have HQ := Lib.hid (show (s.data.toList.drop (k3 + 1)).dropWhile M.white = s[k4] :: s.data.toList.drop (k4 + 1) by rw [← hl4, drop_cons s k4 hlt4])
                have HV := Lib.hid (show M.valueA (s.data.toList.drop (k3 + 1)) = M.quotedA s[k4] (s.data.toList.drop (k4 + 1)) by rw [M.valueA, HQ.out]; simp only; rw [if_pos hqq])
                clear hl4 HQ hqq
                go_upto_block 8 with fail
                obtain ⟨q, hq⟩ : ∃ q, s[k4] = q := ⟨_, rfl⟩
                have HQQ := Lib.hid hq
                rw [hq] at HV
                try rw [hq]
                clear hq
                go_cut [1, 8] from 146 to 165 (fun v t wx => (∃ (j : Nat) (u : List UInt8), v = .int .i64 (j : Int) ∧ t = .string ⟨u.toArray⟩ ∧ (k4 + 1) ≤ j ∧ j ≤ s.size ∧ s.data.toList.drop j = (s.data.toList.drop (k4 + 1)).dropWhile (fun c => c != q) ∧ u = ([] : List UInt8) ++ (s.data.toList.drop (k4 + 1)).takeWhile (fun c => c != q)) ∧ W = wx)
                case first =>
                  go_wp2_with fail
                  go_loop [1, 8] (fun v t => ∃ (j : Nat) (u : List UInt8), v = .int .i64 (j : Int) ∧ t = .string ⟨u.toArray⟩ ∧ (k4 + 1) ≤ j ∧ j ≤ s.size ∧ u.length ≤ j ∧ Hid ((s.data.toList.drop j).dropWhile (fun c => c != q) = (s.data.toList.drop (k4 + 1)).dropWhile (fun c => c != q)) ∧ Hid (u ++ (s.data.toList.drop j).takeWhile (fun c => c != q) = ([] : List UInt8) ++ (s.data.toList.drop (k4 + 1)).takeWhile (fun c => c != q))) (fun v _ => s.size - (intOf v).toNat)
                  case atStart => exact ⟨(k4 + 1), ([] : List UInt8), by first | rfl | go_num, by first | rfl | assumption, Nat.le_refl _, by omega, by simp; try omega, Lib.hid rfl, Lib.hid rfl⟩
                  case round =>
                    obtain ⟨j, u, rfl, rfl, hsj, hj, hul, HJ, HU⟩ := hrel
                    by_cases hlt : j < s.size
                    ·
                      cases hq : ((s[j].toNat : Int) != (q.toNat : Int)) with
                      | true =>
                        have hp : ((fun c => c != q)) s[j] = true := by simp [not_int q, hq]
                        have HR := Lib.hid ((dw_go ((fun c => c != q)) s j hlt hp).trans HJ.out)
                        have HV := Lib.hid (show (u ++ [s[j]]) ++ (s.data.toList.drop (j + 1)).takeWhile (fun c => c != q) = ([] : List UInt8) ++ (s.data.toList.drop (k4 + 1)).takeWhile (fun c => c != q) by rw [← HU.out, tw_go ((fun c => c != q)) s j hlt hp, List.append_assoc]; rfl)
                        have HS := Lib.hid (one_str s u j hlt)
                        clear hp
                        go_wp2_with fail
                        go_round
                        case rel => exact ⟨j + 1, u ++ [s[j]], by go_num, by rw [← HS.out], by omega, by omega, by rw [List.length_append, List.length_singleton]; omega, HR, HV⟩
                        case measure => simp [intOf]; omega
                      | false =>
                        have hp : ((fun c => c != q)) s[j] = false := by simp [not_int q, hq]
                        have HR := Lib.hid ((dw_stop ((fun c => c != q)) s j hlt hp).symm.trans HJ.out)
                        have HV := Lib.hid (show u = ([] : List UInt8) ++ (s.data.toList.drop (k4 + 1)).takeWhile (fun c => c != q) by rw [← HU.out, tw_stop ((fun c => c != q)) s j hlt hp, List.append_nil])
                        clear hp
                        go_wp2_with fail
                        go_meet
                        exact ⟨⟨j, u, rfl, rfl, hsj, hj, HR.out, HV.out⟩, rfl⟩
                    · obtain rfl : j = s.size := by omega
                      have HR := Lib.hid (show s.data.toList.drop s.size = (s.data.toList.drop (k4 + 1)).dropWhile (fun c => c != q) by rw [← HJ.out, drop_end]; rfl)
                      have HV := Lib.hid (show u = ([] : List UInt8) ++ (s.data.toList.drop (k4 + 1)).takeWhile (fun c => c != q) by rw [← HU.out, drop_end]; simp)
                      go_wp2_with fail
                      go_meet
                      exact ⟨⟨s.size, u, rfl, rfl, hsj, hj, HR.out, HV.out⟩, rfl⟩
                case rest =>
                obtain ⟨⟨k5, vv, rfl, rfl, hk45, hk5, hl5, hvv⟩, rfl⟩ := hcut
                by_cases hlt5 : k5 < s.size
                ·
                  have hne5 : ((k5 : Int) == (s.size : Int)) = false := by simp; omega
                  have hq5 : (s.data.toList.drop (k4 + 1)).dropWhile (fun c => c != q) = s[k5] :: s.data.toList.drop (k5 + 1) := by rw [← hl5, drop_cons s k5 hlt5]
                  have HZ := Lib.hid (show M.nextA (s.data.toList.drop k) = (some (M.fold nm, M.fold vv), s.data.toList.drop (k5 + 1)) by rw [HY.out, HV.out, M.quotedA, hq5]; simp only; rw [hvv]; rfl)
                  clear HY HV hl5 hq5
                  have hvl : (vv).length ≤ s.size := by rw [hvv]; have h9 := (List.takeWhile_prefix (fun c => c != q) (l := s.data.toList.drop (k4 + 1))).length_le; rw [List.length_drop, ← Lib.size_eq] at h9; rw [List.nil_append]; omega
                  clear hvv
                  have cy0 := hy.cell 0 _ rfl
                  have cy1 := hy.cell 1 _ rfl
                  have fy0 := hy.frozen 0
                  have fy1 := hy.frozen 1
                  go_wp2_with fail
                  refine (foldOf_any ⟨nm.toArray⟩ _ (by rw [size_str]; omega)).mono ?_
                  rintro e W2 ⟨rfl, hbb⟩
                  have hy := hy.bel hbb
                  have hb := hb.trans hbb
                  clear cy0 cy1 fy0 fy1 hbb
                  go_wp2_with fail
                  refine (foldOf_any ⟨(vv).toArray⟩ _ (by rw [size_str]; omega)).mono ?_
                  rintro e W3 ⟨rfl, hbb⟩
                  have hy := hy.bel hbb
                  have hb := hb.trans hbb
                  have cy0 := hy.cell 0 _ rfl
                  have cy1 := hy.cell 1 _ rfl
                  have fy0 := hy.frozen 0
                  have fy1 := hy.frozen 1
                  go_wp2_with fail
                  have hz := (hy.set 0 (.string ⟨(M.fold nm).toArray⟩)).set 1 (.string ⟨(M.fold vv).toArray⟩)
                  have d0 := hz.cell 0 _ rfl
                  have d1 := hz.cell 1 _ rfl
                  refine bodyPost_ret (v := .tuple #[.agg #[.string ⟨(M.fold nm).toArray⟩, .string ⟨(M.fold vv).toArray⟩], .int .i64 ((k5 + 1 : Nat) : Int), .bool true]) (by simp [results, Tryz.results78, go_sem, d0, d1]) rfl ⟨?_, ?_⟩
                  · exact fin_attr s.size o r _ _ (HZ.out.symm.trans HN.out) _ _ rfl _ (at_of s (k5 + 1) (by omega) _ rfl) _ rfl
                  · exact (hb.setCell (p := ⟨w.heap.size, 0, none⟩) (Nat.le_refl _) _).setCell (p := ⟨w.heap.size, 1, none⟩) (Nat.le_refl _) _
                · obtain rfl : k5 = s.size := by omega
                  have HZ := Lib.hid (show M.nextA (s.data.toList.drop k) = (none, []) by rw [HY.out, HV.out, M.quotedA, ← hl5, drop_end]; rfl)
                  clear HY HV hl5 hvv
                  have cy0 := hy.cell 0 _ rfl
                  have cy1 := hy.cell 1 _ rfl
                  have fy0 := hy.frozen 0
                  have fy1 := hy.frozen 1
                  go_wp2_with fail
                  have hz := (hy.set 0 (.string ⟨#[]⟩)).set 1 (.string ⟨#[]⟩)
                  have d0 := hz.cell 0 _ rfl
                  have d1 := hz.cell 1 _ rfl
                  refine bodyPost_ret (v := .tuple #[.agg #[.string ⟨#[]⟩, .string ⟨#[]⟩], .int .i64 ((s.size : Nat) : Int), .bool false]) (by simp [results, Tryz.results78, go_sem, d0, d1]) rfl ⟨?_, ?_⟩
                  · exact fin_attr s.size o r _ _ (HZ.out.symm.trans HN.out) _ _ rfl _ (by simp) _ rfl
                  · exact (hb.setCell (p := ⟨w.heap.size, 0, none⟩) (Nat.le_refl _) _).setCell (p := ⟨w.heap.size, 1, none⟩) (Nat.le_refl _) _
              | false =>
                have hqq := quote_no _ h34 h39
                have HV := Lib.hid (show M.valueA (s.data.toList.drop (k3 + 1)) = (some ((s.data.toList.drop k4).takeWhile M.valB), (s.data.toList.drop k4).dropWhile M.valB) by rw [M.valueA, ← hl4, drop_cons s k4 hlt4]; simp only; rw [if_neg hqq])
                clear hqq hl4
                go_upto_block 10 with fail
                go_cut [1, 8] from 174 to 199 (fun v t wx => (∃ (j : Nat) (u : List UInt8), v = .int .i64 (j : Int) ∧ t = .string ⟨u.toArray⟩ ∧ k4 ≤ j ∧ j ≤ s.size ∧ s.data.toList.drop j = (s.data.toList.drop k4).dropWhile M.valB ∧ u = ([] : List UInt8) ++ (s.data.toList.drop k4).takeWhile M.valB) ∧ W = wx)
                case first =>
                  go_wp2_with fail
                  go_loop [1, 8] (fun v t => ∃ (j : Nat) (u : List UInt8), v = .int .i64 (j : Int) ∧ t = .string ⟨u.toArray⟩ ∧ k4 ≤ j ∧ j ≤ s.size ∧ u.length ≤ j ∧ Hid ((s.data.toList.drop j).dropWhile M.valB = (s.data.toList.drop k4).dropWhile M.valB) ∧ Hid (u ++ (s.data.toList.drop j).takeWhile M.valB = ([] : List UInt8) ++ (s.data.toList.drop k4).takeWhile M.valB)) (fun v _ => s.size - (intOf v).toNat)
                  case atStart => exact ⟨k4, ([] : List UInt8), by first | rfl | go_num, by first | rfl | assumption, Nat.le_refl _, by omega, by simp; try omega, Lib.hid rfl, Lib.hid rfl⟩
                  case round =>
                    obtain ⟨j, u, rfl, rfl, hsj, hj, hul, HJ, HU⟩ := hrel
                    by_cases hlt : j < s.size
                    ·
                      cases h62 : ((s[j].toNat : Int) != 62) with
                      | true =>
                        cases hw : M.white s[j] with
                        | true =>
                          have hp : (M.valB) s[j] = false := by simp [val_int, h62, hw]
                          have HR := Lib.hid ((dw_stop (M.valB) s j hlt hp).symm.trans HJ.out)
                          have HV := Lib.hid (show u = ([] : List UInt8) ++ (s.data.toList.drop k4).takeWhile M.valB by rw [← HU.out, tw_stop (M.valB) s j hlt hp, List.append_nil])
                          have HW := Lib.hid hw
                          clear hp hw
                          go_wp2_with (go_at_call 53; refine (isWhite_any _ _).mono ?_; rintro e w' ⟨rfl, rfl⟩; rw [HW.out])
                          go_meet
                          exact ⟨⟨j, u, rfl, rfl, hsj, hj, HR.out, HV.out⟩, rfl⟩
                        | false =>
                          have hp : (M.valB) s[j] = true := by simp [val_int, h62, hw]
                          have HR := Lib.hid ((dw_go (M.valB) s j hlt hp).trans HJ.out)
                          have HV := Lib.hid (show (u ++ [s[j]]) ++ (s.data.toList.drop (j + 1)).takeWhile M.valB = ([] : List UInt8) ++ (s.data.toList.drop k4).takeWhile M.valB by rw [← HU.out, tw_go (M.valB) s j hlt hp, List.append_assoc]; rfl)
                          have HS := Lib.hid (one_str s u j hlt)
                          have HW := Lib.hid hw
                          clear hp hw
                          go_wp2_with (go_at_call 53; refine (isWhite_any _ _).mono ?_; rintro e w' ⟨rfl, rfl⟩; rw [HW.out])
                          go_round
                          case rel => exact ⟨j + 1, u ++ [s[j]], by go_num, by rw [← HS.out], by omega, by omega, by rw [List.length_append, List.length_singleton]; omega, HR, HV⟩
                          case measure => simp [intOf]; omega
                      | false =>
                        have hp : (M.valB) s[j] = false := by simp [val_int, h62]
                        have HR := Lib.hid ((dw_stop (M.valB) s j hlt hp).symm.trans HJ.out)
                        have HV := Lib.hid (show u = ([] : List UInt8) ++ (s.data.toList.drop k4).takeWhile M.valB by rw [← HU.out, tw_stop (M.valB) s j hlt hp, List.append_nil])
                        clear hp
                        go_wp2_with fail
                        go_meet
                        exact ⟨⟨j, u, rfl, rfl, hsj, hj, HR.out, HV.out⟩, rfl⟩
                    · obtain rfl : j = s.size := by omega
                      have HR := Lib.hid (show s.data.toList.drop s.size = (s.data.toList.drop k4).dropWhile M.valB by rw [← HJ.out, drop_end]; rfl)
                      have HV := Lib.hid (show u = ([] : List UInt8) ++ (s.data.toList.drop k4).takeWhile M.valB by rw [← HU.out, drop_end]; simp)
                      go_wp2_with fail
                      go_meet
                      exact ⟨⟨s.size, u, rfl, rfl, hsj, hj, HR.out, HV.out⟩, rfl⟩
                case rest =>
                obtain ⟨⟨k6, vv, rfl, rfl, hk46, hk6, hl6, hvv⟩, rfl⟩ := hcut
                have HZ := Lib.hid (show M.nextA (s.data.toList.drop k) = (some (M.fold nm, M.fold vv), s.data.toList.drop k6) by rw [HY.out, HV.out, hl6, hvv]; rfl)
                clear HY HV hl6
                have hvl : (vv).length ≤ s.size := by rw [hvv]; have h9 := (List.takeWhile_prefix M.valB (l := s.data.toList.drop k4)).length_le; rw [List.length_drop, ← Lib.size_eq] at h9; rw [List.nil_append]; omega
                clear hvv
                have cy0 := hy.cell 0 _ rfl
                have cy1 := hy.cell 1 _ rfl
                have fy0 := hy.frozen 0
                have fy1 := hy.frozen 1
                go_wp2_with fail
                refine (foldOf_any ⟨nm.toArray⟩ _ (by rw [size_str]; omega)).mono ?_
                rintro e W2 ⟨rfl, hbb⟩
                have hy := hy.bel hbb
                have hb := hb.trans hbb
                clear cy0 cy1 fy0 fy1 hbb
                go_wp2_with fail
                refine (foldOf_any ⟨(vv).toArray⟩ _ (by rw [size_str]; omega)).mono ?_
                rintro e W3 ⟨rfl, hbb⟩
                have hy := hy.bel hbb
                have hb := hb.trans hbb
                have cy0 := hy.cell 0 _ rfl
                have cy1 := hy.cell 1 _ rfl
                have fy0 := hy.frozen 0
                have fy1 := hy.frozen 1
                go_wp2_with fail
                have hz := (hy.set 0 (.string ⟨(M.fold nm).toArray⟩)).set 1 (.string ⟨(M.fold vv).toArray⟩)
                have d0 := hz.cell 0 _ rfl
                have d1 := hz.cell 1 _ rfl
                refine bodyPost_ret (v := .tuple #[.agg #[.string ⟨(M.fold nm).toArray⟩, .string ⟨(M.fold vv).toArray⟩], .int .i64 ((k6 : Nat) : Int), .bool true]) (by simp [results, Tryz.results78, go_sem, d0, d1]) rfl ⟨?_, ?_⟩
                · exact fin_attr s.size o r _ _ (HZ.out.symm.trans HN.out) _ _ rfl _ (at_of s k6 hk6 _ rfl) _ rfl
                · exact (hb.setCell (p := ⟨w.heap.size, 0, none⟩) (Nat.le_refl _) _).setCell (p := ⟨w.heap.size, 1, none⟩) (Nat.le_refl _) _
          · obtain rfl : k4 = s.size := by omega
            have HV := Lib.hid (show M.valueA (s.data.toList.drop (k3 + 1)) = (some ((s.data.toList.drop s.size).takeWhile M.valB), (s.data.toList.drop s.size).dropWhile M.valB) by rw [M.valueA, ← hl4, drop_end]; rfl)
            have HE := Lib.hid hl4
            clear hl4
            go_upto_block 10 with fail
            go_cut [1, 8] from 174 to 199 (fun v t wx => (∃ (j : Nat) (u : List UInt8), v = .int .i64 (j : Int) ∧ t = .string ⟨u.toArray⟩ ∧ s.size ≤ j ∧ j ≤ s.size ∧ s.data.toList.drop j = (s.data.toList.drop s.size).dropWhile M.valB ∧ u = ([] : List UInt8) ++ (s.data.toList.drop s.size).takeWhile M.valB) ∧ W = wx)
            case first =>
              go_wp2_with fail
              go_loop [1, 8] (fun v t => ∃ (j : Nat) (u : List UInt8), v = .int .i64 (j : Int) ∧ t = .string ⟨u.toArray⟩ ∧ s.size ≤ j ∧ j ≤ s.size ∧ u.length ≤ j ∧ Hid ((s.data.toList.drop j).dropWhile M.valB = (s.data.toList.drop s.size).dropWhile M.valB) ∧ Hid (u ++ (s.data.toList.drop j).takeWhile M.valB = ([] : List UInt8) ++ (s.data.toList.drop s.size).takeWhile M.valB)) (fun v _ => s.size - (intOf v).toNat)
              case atStart => exact ⟨s.size, ([] : List UInt8), by first | rfl | go_num, by first | rfl | assumption, Nat.le_refl _, by omega, by simp; try omega, Lib.hid rfl, Lib.hid rfl⟩
              case round =>
                obtain ⟨j, u, rfl, rfl, hsj, hj, hul, HJ, HU⟩ := hrel
                by_cases hlt : j < s.size
                ·
                  exfalso
                  omega
                · obtain rfl : j = s.size := by omega
                  have HR := Lib.hid (show s.data.toList.drop s.size = (s.data.toList.drop s.size).dropWhile M.valB by rw [← HJ.out, drop_end]; rfl)
                  have HV := Lib.hid (show u = ([] : List UInt8) ++ (s.data.toList.drop s.size).takeWhile M.valB by rw [← HU.out, drop_end]; simp)
                  go_wp2_with fail
                  go_meet
                  exact ⟨⟨s.size, u, rfl, rfl, hsj, hj, HR.out, HV.out⟩, rfl⟩
            case rest =>
            obtain ⟨⟨k6, vv, rfl, rfl, hk46, hk6, hl6, hvv⟩, rfl⟩ := hcut
            have HZ := Lib.hid (show M.nextA (s.data.toList.drop k) = (some (M.fold nm, M.fold vv), s.data.toList.drop k6) by rw [HY.out, HV.out, hl6, hvv]; rfl)
            clear HY HV hl6
            have hvl : (vv).length ≤ s.size := by rw [hvv, drop_end]; exact Nat.zero_le _
            clear hvv
            have cy0 := hy.cell 0 _ rfl
            have cy1 := hy.cell 1 _ rfl
            have fy0 := hy.frozen 0
            have fy1 := hy.frozen 1
            go_wp2_with fail
            refine (foldOf_any ⟨nm.toArray⟩ _ (by rw [size_str]; omega)).mono ?_
            rintro e W2 ⟨rfl, hbb⟩
            have hy := hy.bel hbb
            have hb := hb.trans hbb
            clear cy0 cy1 fy0 fy1 hbb
            go_wp2_with fail
            refine (foldOf_any ⟨(vv).toArray⟩ _ (by rw [size_str]; omega)).mono ?_
            rintro e W3 ⟨rfl, hbb⟩
            have hy := hy.bel hbb
            have hb := hb.trans hbb
            have cy0 := hy.cell 0 _ rfl
            have cy1 := hy.cell 1 _ rfl
            have fy0 := hy.frozen 0
            have fy1 := hy.frozen 1
            go_wp2_with fail
            have hz := (hy.set 0 (.string ⟨(M.fold nm).toArray⟩)).set 1 (.string ⟨(M.fold vv).toArray⟩)
            have d0 := hz.cell 0 _ rfl
            have d1 := hz.cell 1 _ rfl
            refine bodyPost_ret (v := .tuple #[.agg #[.string ⟨(M.fold nm).toArray⟩, .string ⟨(M.fold vv).toArray⟩], .int .i64 ((k6 : Nat) : Int), .bool true]) (by simp [results, Tryz.results78, go_sem, d0, d1]) rfl ⟨?_, ?_⟩
            · exact fin_attr s.size o r _ _ (HZ.out.symm.trans HN.out) _ _ rfl _ (at_of s k6 hk6 _ rfl) _ rfl
            · exact (hb.setCell (p := ⟨w.heap.size, 0, none⟩) (Nat.le_refl _) _).setCell (p := ⟨w.heap.size, 1, none⟩) (Nat.le_refl _) _
      · obtain rfl : k3 = s.size := by omega
        have HY := Lib.hid (show M.nextA (s.data.toList.drop k) = (some (M.fold nm, []), s.data.toList.drop s.size) by rw [HX.out, drop_end]; rfl)
        have cy0 := hy.cell 0 _ rfl
        have cy1 := hy.cell 1 _ rfl
        have fy0 := hy.frozen 0
        have fy1 := hy.frozen 1
        go_wp2_with fail
        refine (foldOf_any ⟨nm.toArray⟩ _ (by rw [size_str]; omega)).mono ?_
        rintro e W2 ⟨rfl, hbb⟩
        have hy := hy.bel hbb
        have hb := hb.trans hbb
        clear cy0 cy1 fy0 fy1 hbb
        have cy0 := hy.cell 0 _ rfl
        have cy1 := hy.cell 1 _ rfl
        have fy0 := hy.frozen 0
        have fy1 := hy.frozen 1
        go_wp2_with fail
        have hz := (hy.set 0 (.string ⟨(M.fold nm).toArray⟩)).set 1 (.string ⟨#[]⟩)
        have d0 := hz.cell 0 _ rfl
        have d1 := hz.cell 1 _ rfl
        refine bodyPost_ret (v := .tuple #[.agg #[.string ⟨(M.fold nm).toArray⟩, .string ⟨#[]⟩], .int .i64 ((s.size : Nat) : Int), .bool true]) (by simp [results, Tryz.results78, go_sem, d0, d1]) rfl ⟨?_, ?_⟩
        · exact fin_attr s.size o r _ _ (HY.out.symm.trans HN.out) _ _ rfl _ (by rw [drop_end]; simp) _ rfl
        · exact (hb.setCell (p := ⟨w.heap.size, 0, none⟩) (Nat.le_refl _) _).setCell (p := ⟨w.heap.size, 1, none⟩) (Nat.le_refl _) _
  · obtain rfl : k1 = s.size := by omega
    have HX := Lib.hid (show M.nextA (s.data.toList.drop k) = (none, []) by rw [M.nextA, ← hl1, drop_end])
    have cy0 := hy.cell 0 _ rfl
    have cy1 := hy.cell 1 _ rfl
    have fy0 := hy.frozen 0
    have fy1 := hy.frozen 1
    go_wp2_with fail
    have hz := (hy.set 0 (.string ⟨#[]⟩)).set 1 (.string ⟨#[]⟩)
    have d0 := hz.cell 0 _ rfl
    have d1 := hz.cell 1 _ rfl
    refine bodyPost_ret (v := .tuple #[.agg #[.string ⟨#[]⟩, .string ⟨#[]⟩], .int .i64 ((s.size : Nat) : Int), .bool false]) (by simp [results, Tryz.results78, go_sem, d0, d1]) rfl ⟨?_, ?_⟩
    · exact fin_attr s.size o r _ _ (HX.out.symm.trans HN.out) _ _ rfl _ (by simp) _ rfl
    · exact (hb.setCell (p := ⟨w.heap.size, 0, none⟩) (Nat.le_refl _) _).setCell (p := ⟨w.heap.size, 1, none⟩) (Nat.le_refl _) _
end Go.Proofs.YtcgdecpjlggekaaGreatDoor

/-
  The document's answers on attributes: beginsAt, AttrsAt.
-/
namespace Go.Proofs.YtcgdecpjlggekaaGreatDoor
open Go.RowKit
set_option maxRecDepth 1000000

theorem prefix_take (l p : List UInt8) (h : p.length ≤ l.length) : Lib.hasPrefix l p = (l.take p.length == p) := by
  have := Lib.occAt_iff_take l p 0 (by omega)
  rw [List.drop_zero] at this
  rw [← this]
  rfl
theorem prefix_short (l p : List UInt8) (h : l.length < p.length) : Lib.hasPrefix l p = false := by
  cases hp : Lib.hasPrefix l p with
  | false => rfl
  | true =>
    have h1 : Lib.occAt l p 0 = true := hp
    rcases Lib.occAt_room h1 with h2 | h2
    · omega
    · rw [h2] at h; simp at h
theorem beginsAt_any (s wd : ByteArray) (k : Nat) (hk : k ≤ s.size) (hs : s.size ≤ 3000) (w : World) : Calls Tryz.prog 52 #[.string s, .int .i64 (k : Int), .string wd] w fun e w' => e = .returned (.bool (Lib.hasPrefix (M.fold (s.data.toList.drop k)) wd.data.toList)) ∧ Bel w w' := by
  have hll : (M.fold (s.data.toList.drop k)).length = s.size - k := by rw [M.fold_len, List.length_drop, ← Lib.size_eq]
  by_cases h : wd.size ≤ s.size - k
  · have HB := Lib.hid (show Lib.hasPrefix (M.fold (s.data.toList.drop k)) wd.data.toList = (M.fold (List.take wd.size (List.drop k s.data.toList)) == wd.toList) by
      rw [prefix_take _ _ (by rw [hll, ← Lib.size_eq]; exact h), Lib.toList_data, ← Lib.size_eq]
      unfold M.fold
      rw [List.map_take])
    have hes : (s.extract k (k + wd.size)).size ≤ 68719476735 := by rw [cut_str, size_str, List.length_take, List.length_drop, ← Lib.size_eq]; omega
    have hge : (wd.size : Int) ≤ (s.size : Int) - (k : Int) := by omega
    clear hll
    go_enter Tryz.func52, Tryz.ntmps52
    go_wp2_with (go_at_call 49; refine (foldOf_any _ _ hes).mono ?_; rintro e w' ⟨rfl, hb⟩)
    go_ret
    exact ⟨by rw [HB.out]; rfl, hb⟩
  · have HB := Lib.hid (show Lib.hasPrefix (M.fold (s.data.toList.drop k)) wd.data.toList = false from prefix_short _ _ (by rw [hll, ← Lib.size_eq]; omega))
    have hge : ¬ (wd.size : Int) ≤ (s.size : Int) - (k : Int) := by omega
    clear hll
    go_enter Tryz.func52, Tryz.ntmps52
    go_wp2_with fail
    go_ret
    exact ⟨by rw [HB.out]; rfl, Bel.refl _⟩
set_option maxHeartbeats 2000000 in
theorem attrsAt_any (s : ByteArray) (k : Nat) (hk : k ≤ s.size) (hs : s.size ≤ 3000) (xs : List (List UInt8 × List UInt8)) (r : List UInt8) (hn : M.attrsA (s.data.toList.drop k) = (xs, r)) (w : World) : Calls Tryz.prog 54 #[.string s, .int .i64 (k : Int)] w fun e w' => ∃ v, e = .returned (.tuple #[v, .int .i64 ((s.size - r.length : Nat) : Int)]) ∧ OwnA w.heap.size w' v xs ∧ Bel w w' := by
  have HN := Lib.hid hn
  clear hn
  go_enter Tryz.func54, Tryz.ntmps54
  go_wp2_with fail
  go_loopg [1, 6] (s.size + 1) (fun gg at_ v wr => ∃ (j : Nat) (ys : List (List UInt8 × List UInt8)), at_ = .int .i64 (j : Int) ∧ j ≤ s.size ∧ s.size - j ≤ gg ∧ OwnA w.heap.size wr v ys ∧ ys.length + (s.size - j) ≤ s.size ∧ Bel w wr ∧ Hid ((xs, r) = (ys ++ (M.attrsA (s.data.toList.drop j)).1, (M.attrsA (s.data.toList.drop j)).2)))
  case atStart => exact ⟨k, [], rfl, hk, by omega, OwnA.nil _ _, by simp, Bel.refl _, Lib.hid (by rw [HN.out]; rfl)⟩
  case round =>
    clear hk
    obtain ⟨j, ys, rfl, hj, hg, hown, hyl, hb, HJ⟩ := hrel
    cases hn : M.nextA (s.data.toList.drop j) with
    | mk o r2 =>
      have nx := attrAt_any s j hj hs o r2 hn wr
      have hsuf := M.nextA_suf (s.data.toList.drop j)
      rw [hn] at hsuf
      have hsuf2 := M.Suf.trans (a := r2) hsuf (M.Suf.drop s.data.toList j)
      have hrl2 := hsuf2.len
      rw [← Lib.size_eq] at hrl2
      have hd2 : s.data.toList.drop (s.size - r2.length) = r2 := by
        have h9 := hsuf2.at
        rw [← Lib.size_eq] at h9
        exact h9.symm
      obtain ⟨k2, hk2⟩ : ∃ k2, s.size - r2.length = k2 := ⟨_, rfl⟩
      rw [hk2] at nx hd2
      clear hsuf hsuf2
      cases o with
      | none =>
        have HA := Lib.hid (M.attrsA_none _ _ hn)
        have HR := Lib.hid (show (xs, r) = (ys, r2) by have := HJ.out; rw [HA.out] at this; simpa using this)
        have HK := Lib.hid hk2
        clear hn hk2 hd2
        rw [show agA none = .agg #[.string ⟨#[]⟩, .string ⟨#[]⟩] from rfl, show (none : Option (List UInt8 × List UInt8)).isSome = false from rfl] at nx
        go_wp2_with fail
        refine nx.mono ?_
        rintro e W1 ⟨rfl, hb1⟩
        have hown1 := hown.bel hb1
        have hb2 := hb.trans hb1
        clear nx hown
        go_wp2_with fail
        go_ret2
        have h3 := HR.out
        injection h3 with h3 h4
        subst h3; subst h4
        rw [HK.out]
        exact ⟨_, rfl, hown1.bel ((Bel.refl W1).alloc _), hb2.alloc _⟩
      | some p =>
        have HA := Lib.hid (M.attrsA_some _ _ _ hn)
        have hless := M.nextA_less _ _ (by rw [hn])
        rw [hn] at hless
        have hless2 : r2.length < (s.data.toList.drop j).length := hless
        rw [List.length_drop, ← Lib.size_eq] at hless2
        have HR := Lib.hid (show (xs, r) = (ys ++ [p] ++ (M.attrsA (s.data.toList.drop k2)).1, (M.attrsA (s.data.toList.drop k2)).2) by
          have := HJ.out
          rw [HA.out] at this
          rw [hd2, this]; simp)
        have hk2l : k2 ≤ s.size := by omega
        have hk2g : s.size - k2 < s.size - j := by omega
        clear hn hless hk2 hd2 hless2 hrl2 HJ
        rw [show agA (some p) = .agg #[.string ⟨p.1.toArray⟩, .string ⟨p.2.toArray⟩] from rfl, show (some p).isSome = true from rfl] at nx
        go_wp2_with fail
        refine nx.mono ?_
        rintro e W1 ⟨rfl, hb1⟩
        have hown1 := hown.bel hb1
        have hb2 := hb.trans hb1
        clear nx hown
        have hbb : Bel W1 (W1.alloc (.cells #[.string ⟨p.1.toArray⟩, .string ⟨p.2.toArray⟩] 66)) := (Bel.refl W1).alloc _
        have hsz : (W1.alloc (.cells #[.string ⟨p.1.toArray⟩, .string ⟨p.2.toArray⟩] 66)).heap.size = W1.heap.size + 1 := World.size_alloc _ _
        have hown2 := hown1.bel hbb
        have hbs := hb2.size
        go_wp2_with (at_builtin; refine wpList_appA (.tmp 22) (.tmp 24) rfl w.heap.size _ ys p hown2 (by omega) (by rw [hsz]; omega) rfl (by rw [hsz]; rfl) rfl ?_; intro v' w5 hown5 hb5 hk5)
        have hb6 : Bel w w5 := Bel.upto (hb2.trans hbb) hb5 (Nat.le_refl _)
        go_roundg (s.size - k2)
        case measure => omega
        case rel => exact ⟨k2, ys ++ [p], rfl, hk2l, Nat.le_refl _, hown5, by rw [List.length_append, List.length_singleton]; omega, hb6, HR⟩
end Go.Proofs.YtcgdecpjlggekaaGreatDoor

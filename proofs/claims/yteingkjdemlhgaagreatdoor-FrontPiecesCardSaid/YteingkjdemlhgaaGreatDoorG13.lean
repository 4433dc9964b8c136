/-
  Texts of the proof, laid together: LawFront, PlainFront3. No condition of its own.
-/
import Derived.Test.YteingkjdemlhgaaGreatDoorG12
import Derived.Test.YteingkjdemlhgaaGreatDoorG10
import Derived.Test.YteingkjdemlhgaaGreatDoorG8

/-
  What must be in any case, of fronts.
-/
namespace Go.Proofs.YteingkjdemlhgaaGreatDoor
open Go.RowKit
set_option maxRecDepth 1000000
theorem IntSl.litAt (w : World) (t : TypeId) (ys : List Int) (g : Nat) (hg : w.heap.size = g) (h : ys.length ≤ 1000000) : IntSl (w.alloc (.cells (ys.map (Value.int .i64)).toArray t)) (.slice (some ⟨g, 0, none⟩) ys.length ys.length) ys := by
  subst hg
  exact IntSl.lit w t ys h
theorem feedF_sl (lb : ByteArray) (en wy : Int) (wt : ByteArray) (se : Int) (rs : ByteArray) (sg : Int) (fr st : Bool) (b : ByteArray) (last : Bool) (xs : List Int) (l2 : List UInt8) (en2 wy2 : Int) (wt2 : List UInt8) (se2 : Int) (rs2 : List UInt8) (sg2 : Int) (fr2 st2 : Bool) (k : Int)
    (hf : M.feedFE ⟨lb.data.toList, en, wy, wt.data.toList, ⟨se, rs.data.toList, sg, fr, st⟩⟩ b.data.toList last = (xs, ⟨l2, en2, wy2, wt2, ⟨se2, rs2, sg2, fr2, st2⟩⟩, k)) (w : World) (hL : Len w) :
    Calls Tryz.prog 13 #[.agg #[.string lb, .int .i64 en, .int .i64 wy, .string wt, .int .i64 se, .string rs, .int .i64 sg, .bool fr, .bool st], .string b, .bool last] w fun e w' => ∃ A c, e = .returned (.tuple #[.slice A xs.length c, .agg #[.string ⟨l2.toArray⟩, .int .i64 en2, .int .i64 wy2, .string ⟨wt2.toArray⟩, .int .i64 se2, .string ⟨rs2.toArray⟩, .int .i64 sg2, .bool fr2, .bool st2], .int .i64 k]) ∧ Own w.heap.size 3 w' (.slice A xs.length c) (xs.map (Value.int .i64)) ∧ Bel w w' := by
  refine (feedF_to lb en wy wt se rs sg fr st b last xs _ k hf w hL).mono ?_
  rintro e w' ⟨v, rfl, ho, hb⟩
  obtain ⟨A, c, hv, _⟩ := ho.form
  rw [List.length_map] at hv
  subst hv
  exact ⟨A, c, rfl, ho, hb⟩
set_option maxHeartbeats 4000000 in
theorem frontBegun_any (w : World) (hL : Len w) : Calls Tryz.prog 11 #[] w fun e w' => e = .returned (.bool true) ∧ Bel w w' := by
  have f1 := Lib.hid M.fb1
  have f2 := Lib.hid M.fb2
  have f3 := Lib.hid M.fb3
  have f4 := Lib.hid M.fb4
  have f5 := Lib.hid M.fb5
  go_enter Tryz.func11, Tryz.ntmps11
  go_wp2_with fail
  refine (choose_to _ _ _ _ _ _ f1.out _ hL).mono ?_
  rintro e w1 ⟨rfl, b1⟩
  go_wp2_with fail
  refine (begin_yes _ (by decide) _).mono ?_
  rintro e w2 ⟨rfl, b2⟩
  go_wp2_with fail
  have hF := Box.new w2 25 [.string ⟨#[117, 116, 102, 45, 56]⟩, .int .i64 0, .int .i64 0, .string ⟨#[]⟩, .int .i64 0, .string ⟨#[]⟩, .int .i64 0, .bool false, .bool false]
  have b2 := (b1.trans b2).alloc (.cells #[.string ⟨#[117, 116, 102, 45, 56]⟩, .int .i64 0, .int .i64 0, .string ⟨#[]⟩, .int .i64 0, .string ⟨#[]⟩, .int .i64 0, .bool false, .bool false] 25)
  have fc0 := hF.cell 0 _ rfl; have fc1 := hF.cell 1 _ rfl; have fc2 := hF.cell 2 _ rfl; have fc3 := hF.cell 3 _ rfl; have fc4 := hF.cell 4 _ rfl; have fc5 := hF.cell 5 _ rfl; have fc6 := hF.cell 6 _ rfl; have fc7 := hF.cell 7 _ rfl; have fc8 := hF.cell 8 _ rfl
  go_wp2_with fail
  refine (feedF_sl ⟨#[117, 116, 102, 45, 56]⟩ 0 0 ⟨#[]⟩ 0 ⟨#[]⟩ 0 false false ⟨#[97, 98]⟩ false [] [117, 116, 102, 45, 56] 0 0 [97, 98] 0 [] 0 false false 0 f2.out _ (hL.bel b2)).mono ?_
  rintro e w3 ⟨A3, c3, rfl, o3, b3⟩
  have hF := hF.bel b3
  have hFl := hF.lt
  have hX := Box.new w3 25 [.string ⟨#[117, 116, 102, 45, 56]⟩, .int .i64 0, .int .i64 0, .string ⟨#[97, 98]⟩, .int .i64 0, .string ⟨#[]⟩, .int .i64 0, .bool false, .bool false]
  have b3 := (b2.trans b3).alloc (.cells #[.string ⟨#[117, 116, 102, 45, 56]⟩, .int .i64 0, .int .i64 0, .string ⟨#[97, 98]⟩, .int .i64 0, .string ⟨#[]⟩, .int .i64 0, .bool false, .bool false] 25)
  have fc0 := hF.cell 0 _ rfl; have fc1 := hF.cell 1 _ rfl; have fc2 := hF.cell 2 _ rfl; have fc3 := hF.cell 3 _ rfl; have fc4 := hF.cell 4 _ rfl; have fc5 := hF.cell 5 _ rfl; have fc6 := hF.cell 6 _ rfl; have fc7 := hF.cell 7 _ rfl; have fc8 := hF.cell 8 _ rfl
  have xc0 := hX.cell 0 _ rfl; have xc1 := hX.cell 1 _ rfl; have xc2 := hX.cell 2 _ rfl; have xc3 := hX.cell 3 _ rfl; have xc4 := hX.cell 4 _ rfl; have xc5 := hX.cell 5 _ rfl; have xc6 := hX.cell 6 _ rfl; have xc7 := hX.cell 7 _ rfl; have xc8 := hX.cell 8 _ rfl
  go_wp2_with fail
  refine (feedF_sl ⟨#[117, 116, 102, 45, 56]⟩ 0 0 ⟨#[97, 98]⟩ 0 ⟨#[]⟩ 0 false false ⟨#[99, 226]⟩ false [97, 98, 99] [117, 116, 102, 45, 56] 1 2 [] 1 [226] 0 false false 0 f3.out _ (hL.bel b3)).mono ?_
  rintro e w4 ⟨A4, c4, rfl, o4, b4⟩
  have hF := Box.bel (Box.bel hF (by repeat (first | exact Bel.refl _ | refine Bel.drewN ?_ _ | refine Bel.drew ?_ | refine Bel.alloc ?_ _ | refine Bel.trans ?_ (by assumption) | refine Bel.setCell ?_ (by simp; omega) _))) b4
  have hX := Box.bel hX b4
  have hFl := hF.lt
  have hXl := hX.lt
  have hY := Box.new w4 25 [.string ⟨#[117, 116, 102, 45, 56]⟩, .int .i64 1, .int .i64 2, .string ⟨#[]⟩, .int .i64 1, .string ⟨#[226]⟩, .int .i64 0, .bool false, .bool false]
  have b4 := (b3.trans b4).alloc (.cells #[.string ⟨#[117, 116, 102, 45, 56]⟩, .int .i64 1, .int .i64 2, .string ⟨#[]⟩, .int .i64 1, .string ⟨#[226]⟩, .int .i64 0, .bool false, .bool false] 25)
  have fc0 := hF.cell 0 _ rfl; have fc1 := hF.cell 1 _ rfl; have fc2 := hF.cell 2 _ rfl; have fc3 := hF.cell 3 _ rfl; have fc4 := hF.cell 4 _ rfl; have fc5 := hF.cell 5 _ rfl; have fc6 := hF.cell 6 _ rfl; have fc7 := hF.cell 7 _ rfl; have fc8 := hF.cell 8 _ rfl
  have xc0 := hX.cell 0 _ rfl; have xc1 := hX.cell 1 _ rfl; have xc2 := hX.cell 2 _ rfl; have xc3 := hX.cell 3 _ rfl; have xc4 := hX.cell 4 _ rfl; have xc5 := hX.cell 5 _ rfl; have xc6 := hX.cell 6 _ rfl; have xc7 := hX.cell 7 _ rfl; have xc8 := hX.cell 8 _ rfl
  have yc0 := hY.cell 0 _ rfl; have yc1 := hY.cell 1 _ rfl; have yc2 := hY.cell 2 _ rfl; have yc3 := hY.cell 3 _ rfl; have yc4 := hY.cell 4 _ rfl; have yc5 := hY.cell 5 _ rfl; have yc6 := hY.cell 6 _ rfl; have yc7 := hY.cell 7 _ rfl; have yc8 := hY.cell 8 _ rfl
  go_wp2_with fail
  refine (feedF_sl ⟨#[117, 116, 102, 45, 56]⟩ 1 2 ⟨#[]⟩ 1 ⟨#[226]⟩ 0 false false ⟨#[]⟩ true [65533] [117, 116, 102, 45, 56] 0 0 [] 0 [] 0 false false 0 f4.out _ (hL.bel b4)).mono ?_
  rintro e w5 ⟨A5, c5, rfl, o5, b5⟩
  have hF := Box.bel (Box.bel hF (by repeat (first | exact Bel.refl _ | refine Bel.drewN ?_ _ | refine Bel.drew ?_ | refine Bel.alloc ?_ _ | refine Bel.trans ?_ (by assumption) | refine Bel.setCell ?_ (by simp; omega) _))) b5
  have hX := Box.bel (Box.bel hX (by repeat (first | exact Bel.refl _ | refine Bel.drewN ?_ _ | refine Bel.drew ?_ | refine Bel.alloc ?_ _ | refine Bel.trans ?_ (by assumption) | refine Bel.setCell ?_ (by simp; omega) _))) b5
  have hY := Box.bel hY b5
  have hFl := hF.lt
  have hXl := hX.lt
  have hYl := hY.lt
  have hZ := Box.new w5 25 [.string ⟨#[117, 116, 102, 45, 56]⟩, .int .i64 0, .int .i64 0, .string ⟨#[]⟩, .int .i64 0, .string ⟨#[]⟩, .int .i64 0, .bool false, .bool false]
  have i4 := IntSl.bel (IntSl.bel o4.ints ((Bel.refl _).alloc (.cells #[.string ⟨#[117, 116, 102, 45, 56]⟩, .int .i64 1, .int .i64 2, .string ⟨#[]⟩, .int .i64 1, .string ⟨#[226]⟩, .int .i64 0, .bool false, .bool false] 25))) b5
  have b5 := (b4.trans b5).alloc (.cells #[.string ⟨#[117, 116, 102, 45, 56]⟩, .int .i64 0, .int .i64 0, .string ⟨#[]⟩, .int .i64 0, .string ⟨#[]⟩, .int .i64 0, .bool false, .bool false] 25)
  have fc0 := hF.cell 0 _ rfl; have fc1 := hF.cell 1 _ rfl; have fc2 := hF.cell 2 _ rfl; have fc3 := hF.cell 3 _ rfl; have fc4 := hF.cell 4 _ rfl; have fc5 := hF.cell 5 _ rfl; have fc6 := hF.cell 6 _ rfl; have fc7 := hF.cell 7 _ rfl; have fc8 := hF.cell 8 _ rfl
  have xc0 := hX.cell 0 _ rfl; have xc1 := hX.cell 1 _ rfl; have xc2 := hX.cell 2 _ rfl; have xc3 := hX.cell 3 _ rfl; have xc4 := hX.cell 4 _ rfl; have xc5 := hX.cell 5 _ rfl; have xc6 := hX.cell 6 _ rfl; have xc7 := hX.cell 7 _ rfl; have xc8 := hX.cell 8 _ rfl
  have yc0 := hY.cell 0 _ rfl; have yc1 := hY.cell 1 _ rfl; have yc2 := hY.cell 2 _ rfl; have yc3 := hY.cell 3 _ rfl; have yc4 := hY.cell 4 _ rfl; have yc5 := hY.cell 5 _ rfl; have yc6 := hY.cell 6 _ rfl; have yc7 := hY.cell 7 _ rfl; have yc8 := hY.cell 8 _ rfl
  have zc0 := hZ.cell 0 _ rfl; have zc1 := hZ.cell 1 _ rfl; have zc2 := hZ.cell 2 _ rfl; have zc3 := hZ.cell 3 _ rfl; have zc4 := hZ.cell 4 _ rfl; have zc5 := hZ.cell 5 _ rfl; have zc6 := hZ.cell 6 _ rfl; have zc7 := hZ.cell 7 _ rfl; have zc8 := hZ.cell 8 _ rfl
  go_wp2_with fail
  have il : IntSl ((w5.alloc (.cells #[.string ⟨#[117, 116, 102, 45, 56]⟩, .int .i64 0, .int .i64 0, .string ⟨#[]⟩, .int .i64 0, .string ⟨#[]⟩, .int .i64 0, .bool false, .bool false] 25)).alloc (.cells #[.int .i64 97, .int .i64 98, .int .i64 99] 3)) (.slice (some ⟨w5.heap.size + 1, 0, none⟩) 3 3) [97, 98, 99] := IntSl.litAt (w5.alloc (.cells #[.string ⟨#[117, 116, 102, 45, 56]⟩, .int .i64 0, .int .i64 0, .string ⟨#[]⟩, .int .i64 0, .string ⟨#[]⟩, .int .i64 0, .bool false, .bool false] 25)) 3 [97, 98, 99] (w5.heap.size + 1) (by simp) (by decide)
  have i4 := IntSl.bel i4 (((Bel.refl w5).alloc (.cells #[.string ⟨#[117, 116, 102, 45, 56]⟩, .int .i64 0, .int .i64 0, .string ⟨#[]⟩, .int .i64 0, .string ⟨#[]⟩, .int .i64 0, .bool false, .bool false] 25)).alloc (.cells #[.int .i64 97, .int .i64 98, .int .i64 99] 3))
  refine (sameInts_yes _ _ _ _ _ i4 il rfl).mono ?_
  rintro e w6 ⟨rfl, b6⟩
  have b56 : Bel (w5.alloc (.cells #[.string ⟨#[117, 116, 102, 45, 56]⟩, .int .i64 0, .int .i64 0, .string ⟨#[]⟩, .int .i64 0, .string ⟨#[]⟩, .int .i64 0, .bool false, .bool false] 25)) w6 := ((Bel.refl _).alloc _).trans b6
  have c56 : Bel w5 w6 := ((Bel.refl w5).alloc _).trans b56
  have hF := hF.bel c56
  have hX := hX.bel c56
  have hY := hY.bel c56
  have hZ := hZ.bel b56
  have i5 := o5.ints.bel c56
  have b6 := b5.trans b56
  have hFl := hF.lt
  have hXl := hX.lt
  have hYl := hY.lt
  have hZl := hZ.lt
  have fc0 := hF.cell 0 _ rfl; have fc1 := hF.cell 1 _ rfl; have fc2 := hF.cell 2 _ rfl; have fc3 := hF.cell 3 _ rfl; have fc4 := hF.cell 4 _ rfl; have fc5 := hF.cell 5 _ rfl; have fc6 := hF.cell 6 _ rfl; have fc7 := hF.cell 7 _ rfl; have fc8 := hF.cell 8 _ rfl
  have xc0 := hX.cell 0 _ rfl; have xc1 := hX.cell 1 _ rfl; have xc2 := hX.cell 2 _ rfl; have xc3 := hX.cell 3 _ rfl; have xc4 := hX.cell 4 _ rfl; have xc5 := hX.cell 5 _ rfl; have xc6 := hX.cell 6 _ rfl; have xc7 := hX.cell 7 _ rfl; have xc8 := hX.cell 8 _ rfl
  have yc0 := hY.cell 0 _ rfl; have yc1 := hY.cell 1 _ rfl; have yc2 := hY.cell 2 _ rfl; have yc3 := hY.cell 3 _ rfl; have yc4 := hY.cell 4 _ rfl; have yc5 := hY.cell 5 _ rfl; have yc6 := hY.cell 6 _ rfl; have yc7 := hY.cell 7 _ rfl; have yc8 := hY.cell 8 _ rfl
  have zc0 := hZ.cell 0 _ rfl; have zc1 := hZ.cell 1 _ rfl; have zc2 := hZ.cell 2 _ rfl; have zc3 := hZ.cell 3 _ rfl; have zc4 := hZ.cell 4 _ rfl; have zc5 := hZ.cell 5 _ rfl; have zc6 := hZ.cell 6 _ rfl; have zc7 := hZ.cell 7 _ rfl; have zc8 := hZ.cell 8 _ rfl
  clear b56 c56 i4 il o3 o4 o5
  go_wp2_with fail
  have il2 := IntSl.lit w6 3 [65533] (by decide)
  have i5 := i5.bel ((Bel.refl w6).alloc (.cells #[.int .i64 65533] 3))
  refine (sameInts_yes _ _ _ _ _ i5 il2 rfl).mono ?_
  rintro e w7 ⟨rfl, b7⟩
  have c67 : Bel w6 w7 := ((Bel.refl w6).alloc _).trans b7
  have hF := hF.bel c67
  have hX := hX.bel c67
  have hY := hY.bel c67
  have hZ := hZ.bel c67
  have b7 := b6.trans c67
  have fc0 := hF.cell 0 _ rfl; have fc1 := hF.cell 1 _ rfl; have fc2 := hF.cell 2 _ rfl; have fc3 := hF.cell 3 _ rfl; have fc4 := hF.cell 4 _ rfl; have fc5 := hF.cell 5 _ rfl; have fc6 := hF.cell 6 _ rfl; have fc7 := hF.cell 7 _ rfl; have fc8 := hF.cell 8 _ rfl
  have xc0 := hX.cell 0 _ rfl; have xc1 := hX.cell 1 _ rfl; have xc2 := hX.cell 2 _ rfl; have xc3 := hX.cell 3 _ rfl; have xc4 := hX.cell 4 _ rfl; have xc5 := hX.cell 5 _ rfl; have xc6 := hX.cell 6 _ rfl; have xc7 := hX.cell 7 _ rfl; have xc8 := hX.cell 8 _ rfl
  have yc0 := hY.cell 0 _ rfl; have yc1 := hY.cell 1 _ rfl; have yc2 := hY.cell 2 _ rfl; have yc3 := hY.cell 3 _ rfl; have yc4 := hY.cell 4 _ rfl; have yc5 := hY.cell 5 _ rfl; have yc6 := hY.cell 6 _ rfl; have yc7 := hY.cell 7 _ rfl; have yc8 := hY.cell 8 _ rfl
  have zc0 := hZ.cell 0 _ rfl; have zc1 := hZ.cell 1 _ rfl; have zc2 := hZ.cell 2 _ rfl; have zc3 := hZ.cell 3 _ rfl; have zc4 := hZ.cell 4 _ rfl; have zc5 := hZ.cell 5 _ rfl; have zc6 := hZ.cell 6 _ rfl; have zc7 := hZ.cell 7 _ rfl; have zc8 := hZ.cell 8 _ rfl
  go_wp2_with fail
  refine (checkFr_to ⟨#[117, 116, 102, 45, 56]⟩ 1 2 ⟨#[]⟩ 1 ⟨#[226]⟩ 0 false false 0 f5.out _).mono ?_
  rintro e w8 ⟨rfl, b8⟩
  go_wp2_with fail
  go_ret
  exact ⟨rfl, b7.trans b8⟩
end Go.Proofs.YteingkjdemlhgaaGreatDoor

/-
  Fronts on the way, as Feed tells them, in plain terms.
-/
namespace Go.Proofs.YteingkjdemlhgaaGreatDoor.M
open Go
theorem feed_whole (nm b : Bs) (hn : nm.length ≤ 3000) (hb : b.length ≤ 3000) : feedFE (bgn nm) b true = ((wholeM nm b).1, bgn nm, 0) := by
  have h1 := check_way nm [] hn (Nat.zero_le _)
  rw [onWay_nil] at h1
  have h2 := last_way nm [] b
  rw [sofar_nil, onWay_nil, List.nil_append, List.nil_append] at h2
  rw [feedFE, if_pos h1, if_neg (by omega)]
  show ((rawF (bgn nm) b true).1, (if true = true then bgn (bgn nm).label else (rawF (bgn nm) b true).2), (0 : Int)) = _
  rw [if_pos rfl, h2]
  rfl
theorem whole_nil (nm : Bs) : (wholeM nm []).1 = [] := by
  have h := allE_len (chosen nm []).1 (([] : Bs).drop (chosen nm []).2.2.toNat)
  have h0 : (([] : Bs).drop (chosen nm []).2.2.toNat).length = 0 := by rw [List.drop_nil]; rfl
  rw [h0] at h
  exact List.eq_nil_of_length_eq_zero (Nat.le_zero.1 h)
theorem feed_way (nm a b : Bs) (hn : nm.length ≤ 3000) (ha : a.length ≤ 3000) (hb : b.length ≤ 3000) : feedFE (onWay nm a) b false = ((rawF (onWay nm a) b false).1, onWay nm (a ++ b), 0) := by
  rw [feedFE, if_pos (check_way nm a hn ha), if_neg (by omega)]
  show ((rawF (onWay nm a) b false).1, (if false = true then bgn (onWay nm a).label else (rawF (onWay nm a) b false).2), (0 : Int)) = _
  rw [if_neg (by decide), (rawF_way nm a b false).2 rfl]
theorem feed_last (nm a b : Bs) (hn : nm.length ≤ 3000) (ha : a.length ≤ 3000) (hb : b.length ≤ 3000) : feedFE (onWay nm a) b true = ((rawF (onWay nm a) b true).1, bgn nm, 0) := by
  have hl : (onWay nm a).label = nm := by
    unfold onWay
    split <;> rfl
  rw [feedFE, if_pos (check_way nm a hn ha), if_neg (by omega)]
  show ((rawF (onWay nm a) b true).1, (if true = true then bgn (onWay nm a).label else (rawF (onWay nm a) b true).2), (0 : Int)) = _
  rw [if_pos rfl, hl]
/-- In three pieces. -/
theorem feed_pieces (nm a b c : Bs) : (rawF (onWay nm []) a false).1 ++ (rawF (onWay nm a) b false).1 ++ (rawF (onWay nm (a ++ b)) c true).1 = (wholeM nm (a ++ b ++ c)).1 := by
  have h1 := sofar_app nm [] a
  have h2 := sofar_app nm a b
  have h3 := last_way nm (a ++ b) c
  rw [sofar_nil, List.nil_append, List.nil_append] at h1
  rw [← h3, h2, h1]
end Go.Proofs.YteingkjdemlhgaaGreatDoor.M

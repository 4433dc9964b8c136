/-
  The laws of streams: streamBegun.
-/
import Derived.Test.YtbddfefcgfenfaaDoorLawKit
import Derived.Test.YtbddfefcgfenfaaDoorStream5
namespace Go.Proofs.YtbddfefcgfenfaaDoor
open Go.RowKit
set_option maxRecDepth 1000000

theorem decE_sl (n : Int) (s : ByteArray) (xs : List Int) (k : Int) (h : M.decE n s.data.toList = (xs, k)) (w : World) : Calls Tryd.prog 50 #[.int .i64 n, .string s] w fun e w' => ∃ A c, e = .returned (.tuple #[.slice A xs.length c, .int .i64 k]) ∧ Own w.heap.size 3 w' (.slice A xs.length c) (xs.map (Value.int .i64)) ∧ Bel w w' := by
  have := decE_any n s w
  rw [h] at this
  refine this.mono ?_
  rintro e w' ⟨v, rfl, ho, hb⟩
  obtain ⟨A, c, hv, _⟩ := ho.form
  rw [List.length_map] at hv
  subst hv
  exact ⟨A, c, rfl, ho, hb⟩
theorem open_yes (n : Int) (h : M.isEnc n = true) (w : World) : Calls Tryd.prog 84 #[.int .i64 n] w fun e w' => e = .returned (.tuple #[.agg #[.int .i64 n, .string ⟨#[]⟩, .int .i64 0, .bool false, .bool false], .int .i64 0]) ∧ Bel w w' := by
  have := open_any n w
  rw [M.openE, if_pos h] at this
  exact this
theorem open_no (n : Int) (h : M.isEnc n = false) (w : World) : Calls Tryd.prog 84 #[.int .i64 n] w fun e w' => e = .returned (.tuple #[.agg #[.int .i64 0, .string ⟨#[]⟩, .int .i64 0, .bool false, .bool false], .int .i64 6]) ∧ Bel w w' := by
  have := open_any n w
  rw [M.openE, if_neg (by rw [h]; decide)] at this
  exact this
theorem feed_sl (n : Int) (r : ByteArray) (sg : Int) (fr st : Bool) (b : ByteArray) (last : Bool) (xs : List Int) (n2 : Int) (l2 : List UInt8) (sg2 : Int) (fr2 st2 : Bool) (k : Int) (hf : M.feedE ⟨n, r.data.toList, sg, fr, st⟩ b.data.toList last = (xs, ⟨n2, l2, sg2, fr2, st2⟩, k)) (w : World) :
    Calls Tryd.prog 85 #[.agg #[.int .i64 n, .string r, .int .i64 sg, .bool fr, .bool st], .string b, .bool last] w fun e w' => ∃ A c, e = .returned (.tuple #[.slice A xs.length c, .agg #[.int .i64 n2, .string ⟨l2.toArray⟩, .int .i64 sg2, .bool fr2, .bool st2], .int .i64 k]) ∧ Own w.heap.size 3 w' (.slice A xs.length c) (xs.map (Value.int .i64)) ∧ Bel w w' := by
  refine (feed_any n r sg fr st b last xs _ k hf w).mono ?_
  rintro e w' ⟨v, rfl, ho, hb⟩
  obtain ⟨A, c, hv, _⟩ := ho.form
  rw [List.length_map] at hv
  subst hv
  exact ⟨A, c, rfl, ho, hb⟩
theorem feed_right (d : M.St) (h : M.Right d) (b : List UInt8) (hb : b.length ≤ 3000) (last : Bool) : M.feedE d b last = ((M.rawM d b last).1, (M.rawM d b last).2, 0) := by
  rw [M.feedE, if_pos ((M.check_right d).2 h), if_neg (by omega)]
set_option maxHeartbeats 2000000 in
theorem streamBegun_any (w : World) : Calls Tryd.prog 49 #[] w fun e w' => e = .returned (.bool true) ∧ Bel w w' := by
  have f2 := Lib.hid (show M.feedE ⟨1, [], 0, false, false⟩ [97, 226, 130] false = ([97], ⟨1, [226, 130], 0, false, false⟩, 0) by decide +kernel)
  have f3 := Lib.hid (show M.feedE ⟨1, [226, 130], 0, false, false⟩ [172, 226] true = ([8364, 65533], ⟨1, [], 0, false, false⟩, 0) by decide +kernel)
  have f4 := Lib.hid (show M.decE 7 [120, 121, 122] = ([65533], 0) by decide +kernel)
  have f5 := Lib.hid (show M.checkM ⟨1, [226, 130], 0, false, false⟩ = 0 by decide +kernel)
  go_enter Tryd.func49, Tryd.ntmps49
  go_wp2_with fail
  refine (open_yes 1 rfl _).mono ?_
  rintro e w1 ⟨rfl, b1⟩
  go_wp2_with fail
  refine (feed_sl 1 ⟨#[]⟩ 0 false false _ false _ _ _ _ _ _ _ f2.out _).mono ?_
  rintro e w2 ⟨A2, c2, rfl, o2, b2⟩
  go_wp2_with fail
  refine (feed_sl 1 ⟨#[226, 130]⟩ 0 false false _ true _ _ _ _ _ _ _ f3.out _).mono ?_
  rintro e w3 ⟨A3, c3, rfl, o3, b3⟩
  go_wp2_with fail
  refine (decE_sl 7 _ _ _ f4.out _).mono ?_
  rintro e w4 ⟨A4, c4, rfl, o4, b4⟩
  have hS := Box.bel (Box.bel (Box.bel (Box.bel (Box.bel (Box.new w1 _ _) b2) ((Bel.refl _).alloc _)) b3) ((Bel.refl _).alloc _)) b4
  have hT := Box.bel (Box.bel (Box.bel (Box.new w2 _ _) b3) ((Bel.refl _).alloc _)) b4
  have hU := Box.bel (Box.new w3 _ _) b4
  have sc0 := hS.cell 0 _ rfl; have sc1 := hS.cell 1 _ rfl; have sc2 := hS.cell 2 _ rfl; have sc3 := hS.cell 3 _ rfl; have sc4 := hS.cell 4 _ rfl; have tc0 := hT.cell 0 _ rfl; have tc1 := hT.cell 1 _ rfl; have tc2 := hT.cell 2 _ rfl; have tc3 := hT.cell 3 _ rfl; have tc4 := hT.cell 4 _ rfl; have uc0 := hU.cell 0 _ rfl; have uc1 := hU.cell 1 _ rfl; have uc2 := hU.cell 2 _ rfl; have uc3 := hU.cell 3 _ rfl; have uc4 := hU.cell 4 _ rfl
  go_wp2_with fail
  refine (check_any 1 ⟨#[226, 130]⟩ 0 false false 0 f5.out _).mono ?_
  rintro e w5 ⟨rfl, b5⟩
  have hS := Box.bel hS b5; have hT := Box.bel hT b5; have hU := Box.bel hU b5; have sc0 := hS.cell 0 _ rfl; have sc1 := hS.cell 1 _ rfl; have sc2 := hS.cell 2 _ rfl; have sc3 := hS.cell 3 _ rfl; have sc4 := hS.cell 4 _ rfl; have tc0 := hT.cell 0 _ rfl; have tc1 := hT.cell 1 _ rfl; have tc2 := hT.cell 2 _ rfl; have tc3 := hT.cell 3 _ rfl; have tc4 := hT.cell 4 _ rfl; have uc0 := hU.cell 0 _ rfl; have uc1 := hU.cell 1 _ rfl; have uc2 := hU.cell 2 _ rfl; have uc3 := hU.cell 3 _ rfl; have uc4 := hU.cell 4 _ rfl
  go_wp2_with fail
  refine (sameInts_yes _ _ _ _ _ (o2.ints.bel (by repeat (first | exact Bel.refl _ | refine Bel.drewN ?_ _ | refine Bel.drew ?_ | refine Bel.alloc ?_ _ | refine Bel.trans ?_ (by assumption) | refine Bel.setCell ?_ (by simp; omega) _))) (IntSl.lit _ _ [97] (by decide)) rfl).mono ?_
  rintro e w6 ⟨rfl, b6⟩
  have b56 : Bel w5 w6 := ((Bel.refl w5).alloc _).trans b6
  have hS := Box.bel hS b56; have hT := Box.bel hT b56; have hU := Box.bel hU b56; have sc0 := hS.cell 0 _ rfl; have sc1 := hS.cell 1 _ rfl; have sc2 := hS.cell 2 _ rfl; have sc3 := hS.cell 3 _ rfl; have sc4 := hS.cell 4 _ rfl; have tc0 := hT.cell 0 _ rfl; have tc1 := hT.cell 1 _ rfl; have tc2 := hT.cell 2 _ rfl; have tc3 := hT.cell 3 _ rfl; have tc4 := hT.cell 4 _ rfl; have uc0 := hU.cell 0 _ rfl; have uc1 := hU.cell 1 _ rfl; have uc2 := hU.cell 2 _ rfl; have uc3 := hU.cell 3 _ rfl; have uc4 := hU.cell 4 _ rfl
  go_wp2_with fail
  refine (sameInts_yes _ _ _ _ _ (o3.ints.bel (by repeat (first | exact Bel.refl _ | refine Bel.drewN ?_ _ | refine Bel.drew ?_ | refine Bel.alloc ?_ _ | refine Bel.trans ?_ (by assumption) | refine Bel.setCell ?_ (by simp; omega) _))) (IntSl.lit _ _ [8364, 65533] (by decide)) rfl).mono ?_
  rintro e w7 ⟨rfl, b7⟩
  have b67 : Bel w6 w7 := ((Bel.refl w6).alloc _).trans b7
  have hS := Box.bel hS b67; have hT := Box.bel hT b67; have hU := Box.bel hU b67; have sc0 := hS.cell 0 _ rfl; have sc1 := hS.cell 1 _ rfl; have sc2 := hS.cell 2 _ rfl; have sc3 := hS.cell 3 _ rfl; have sc4 := hS.cell 4 _ rfl; have tc0 := hT.cell 0 _ rfl; have tc1 := hT.cell 1 _ rfl; have tc2 := hT.cell 2 _ rfl; have tc3 := hT.cell 3 _ rfl; have tc4 := hT.cell 4 _ rfl; have uc0 := hU.cell 0 _ rfl; have uc1 := hU.cell 1 _ rfl; have uc2 := hU.cell 2 _ rfl; have uc3 := hU.cell 3 _ rfl; have uc4 := hU.cell 4 _ rfl
  go_wp2_with fail
  refine (sameInts_yes _ _ _ _ _ (o4.ints.bel (by repeat (first | exact Bel.refl _ | refine Bel.drewN ?_ _ | refine Bel.drew ?_ | refine Bel.alloc ?_ _ | refine Bel.trans ?_ (by assumption) | refine Bel.setCell ?_ (by simp; omega) _))) (IntSl.lit _ _ [65533] (by decide)) rfl).mono ?_
  rintro e w8 ⟨rfl, b8⟩
  go_wp2_with fail
  go_ret
  exact ⟨rfl, (by repeat (first | exact Bel.refl _ | refine Bel.drewN ?_ _ | refine Bel.drew ?_ | refine Bel.alloc ?_ _ | refine Bel.trans ?_ (by assumption) | refine Bel.setCell ?_ (by simp; omega) _))⟩
end Go.Proofs.YtbddfefcgfenfaaDoor

/-
  What must be in any case, of whole texts.
-/
import Derived.Test.YteingkjdemlhgaaGreatDoorG10
import Derived.Test.YteingkjdemlhgaaGreatDoorG8
namespace Go.Proofs.YteingkjdemlhgaaGreatDoor
open Go.RowKit
set_option maxRecDepth 1000000

theorem decodeT_sl (nm s : ByteArray) (xs : List Int) (n y k : Int) (h : M.decT nm.data.toList s.data.toList = (xs, n, y, k)) (w : World) (hL : Len w) : Calls Tryz.prog 14 #[.string nm, .string s] w fun e w' => ∃ A c, e = .returned (.tuple #[.slice A xs.length c, .int .i64 n, .int .i64 y, .int .i64 k]) ∧ Own w.heap.size 3 w' (.slice A xs.length c) (xs.map (Value.int .i64)) ∧ Bel w w' := by
  refine (decodeT_to nm s xs n y k h w hL).mono ?_
  rintro e w' ⟨v, rfl, ho, hb⟩
  obtain ⟨A, c, hv, _⟩ := ho.form
  rw [List.length_map] at hv
  subst hv
  exact ⟨A, c, rfl, ho, hb⟩
set_option maxHeartbeats 4000000 in
theorem textBegun_any (w : World) (hL : Len w) (htab : Tab w) : Calls Tryz.prog 12 #[] w fun e w' => e = .returned (.bool true) ∧ Bel w w' := by
  have f1 := Lib.hid M.tb1
  have f2 := Lib.hid M.tb2
  have f3 := Lib.hid M.tb3
  go_enter Tryz.func12, Tryz.ntmps12
  go_wp2_with fail
  refine (decodeT_sl ⟨#[]⟩ ⟨#[255, 254, 97, 0]⟩ [97] 2 1 0 f1.out _ hL).mono ?_
  rintro e w1 ⟨A1, c1, rfl, o1, b1⟩
  have i1 := o1.ints
  clear o1
  go_wp2_with fail
  refine (recode_to ⟨#[117, 116, 102, 45, 56]⟩ ⟨#[226, 130, 172]⟩ 6 [38, 35, 56, 51, 54, 52, 59] 0 f2.out _ (hL.bel b1) (htab.bel b1)).mono ?_
  rintro e w2 ⟨rfl, b2⟩
  have i1 := i1.bel b2
  have b2 := b1.trans b2
  go_wp2_with fail
  have il := IntSl.lit w2 3 [97, 65533, 228] (by decide)
  refine (count_to _ [97, 65533, 228] 1 2 0 f3.out _ il).mono ?_
  rintro e w3 ⟨rfl, b3⟩
  have b3 := ((Bel.refl w2).alloc (.cells #[.int .i64 97, .int .i64 65533, .int .i64 228] 3)).trans b3
  have i1 := i1.bel b3
  have b3 := b2.trans b3
  go_wp2_with fail
  have il := IntSl.lit w3 3 [97] (by decide)
  have i1 := i1.bel ((Bel.refl w3).alloc (.cells #[.int .i64 97] 3))
  refine (sameInts_yes _ _ _ _ _ i1 il rfl).mono ?_
  rintro e w4 ⟨rfl, b4⟩
  have b4 := ((Bel.refl w3).alloc (.cells #[.int .i64 97] 3)).trans b4
  go_wp2_with fail
  go_ret
  exact ⟨rfl, b3.trans b4⟩
end Go.Proofs.YteingkjdemlhgaaGreatDoor

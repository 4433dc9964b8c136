/-
  The law TextCount (lists of at most 1048576 numbers).
-/
import Derived.Test.YteingkjdemlhgaaGreatDoorLawText
namespace Go.Proofs.YteingkjdemlhgaaGreatDoor
open Go.RowKit
set_option maxRecDepth 1000000
set_option maxHeartbeats 4000000

theorem count_bad1 (v1 v2 : Value) (xs ys : List Int) (w : World) (hv1 : IntSl w v1 xs) (hv2 : IntSl w v2 ys) (hl1 : xs.length ≤ 1048576) (hl2 : ys.length ≤ 1048576) (htab : Tab w) (hL : Len w) (e c d f x y g : Int) (_g1 : (e != 0) = true) (_g2 : (e == 0) = false)
    (H1 : Hid (M.countE xs = (0, 0, e))) (H2 : Hid (M.countE ys = (c, d, f))) (H3 : Hid (M.countE (xs ++ ys) = (x, y, g))) : Calls Tryz.prog 7 #[v1, v2] w fun r w' => r = .returned (.bool true) ∧ Bel w w' := by
  go_enter Tryz.func7, Tryz.ntmps7
  go_wp2_with fail
  refine (count_to _ xs _ _ _ H1.out _ hv1).mono ?_
  rintro r w1 ⟨rfl, b1⟩
  go_wp2_with fail
  refine (count_to _ ys _ _ _ H2.out _ (hv2.bel b1)).mono ?_
  rintro r w2 ⟨rfl, b2⟩
  have bA := b1.trans b2
  go_wp2_with (first
    | (at_builtin; refine wpList_appInts (.tmp 27) (.tmp 28) 30 rfl elemInt (by decide) w2.heap.size _ _ (Own.empty _ _ (Nat.le_refl _)) _ xs (hv1.bel (bA.alloc _)) (by simp; omega) (by simp) rfl rfl rfl ?_; intro v4 w4 o4 b4; have hb4 : Bel w2 w4 := ((Bel.refl _).alloc _).upto b4 (by simp))
    | (at_builtin; refine wpList_appInts (.tmp 29) (.tmp 30) 30 rfl elemInt (by decide) w2.heap.size _ _ o4 _ ys (hv2.bel (bA.trans hb4)) (by simp; omega) hb4.size rfl rfl rfl ?_; intro v5 w5 o5 b5; have hb5 : Bel w2 w5 := hb4.upto b5 (Nat.le_refl _)))
  have i5 : IntSl w5 v5 (xs ++ ys) := Own.ints (by simpa using o5)
  have bC := bA.trans hb5
  refine (count_to _ (xs ++ ys) _ _ _ H3.out _ i5).mono ?_
  rintro r w6 ⟨rfl, b6⟩
  have bD := bC.trans b6
  clear b1 b2 b4 b5 b6 bA bC hb4 hb5
  go_wp2_with fail
  refine (textBegun_any _ (hL.bel bD) (htab.bel bD)).mono ?_
  rintro r w7 ⟨rfl, b7⟩
  have bE := bD.trans b7
  clear b7 bD
  go_wp2_with fail
  go_ret
  exact ⟨by first | rfl | simp, bE⟩
theorem count_bad2 (v1 v2 : Value) (xs ys : List Int) (w : World) (hv1 : IntSl w v1 xs) (hv2 : IntSl w v2 ys) (hl1 : xs.length ≤ 1048576) (hl2 : ys.length ≤ 1048576) (htab : Tab w) (hL : Len w) (a b c d f x y g : Int) (_g1 : (f != 0) = true)
    (H1 : Hid (M.countE xs = (a, b, 0))) (H2 : Hid (M.countE ys = (c, d, f))) (H3 : Hid (M.countE (xs ++ ys) = (x, y, g))) : Calls Tryz.prog 7 #[v1, v2] w fun r w' => r = .returned (.bool true) ∧ Bel w w' := by
  go_enter Tryz.func7, Tryz.ntmps7
  go_wp2_with fail
  refine (count_to _ xs _ _ _ H1.out _ hv1).mono ?_
  rintro r w1 ⟨rfl, b1⟩
  go_wp2_with fail
  refine (count_to _ ys _ _ _ H2.out _ (hv2.bel b1)).mono ?_
  rintro r w2 ⟨rfl, b2⟩
  have bA := b1.trans b2
  go_wp2_with (first
    | (at_builtin; refine wpList_appInts (.tmp 27) (.tmp 28) 30 rfl elemInt (by decide) w2.heap.size _ _ (Own.empty _ _ (Nat.le_refl _)) _ xs (hv1.bel (bA.alloc _)) (by simp; omega) (by simp) rfl rfl rfl ?_; intro v4 w4 o4 b4; have hb4 : Bel w2 w4 := ((Bel.refl _).alloc _).upto b4 (by simp))
    | (at_builtin; refine wpList_appInts (.tmp 29) (.tmp 30) 30 rfl elemInt (by decide) w2.heap.size _ _ o4 _ ys (hv2.bel (bA.trans hb4)) (by simp; omega) hb4.size rfl rfl rfl ?_; intro v5 w5 o5 b5; have hb5 : Bel w2 w5 := hb4.upto b5 (Nat.le_refl _)))
  have i5 : IntSl w5 v5 (xs ++ ys) := Own.ints (by simpa using o5)
  have bC := bA.trans hb5
  refine (count_to _ (xs ++ ys) _ _ _ H3.out _ i5).mono ?_
  rintro r w6 ⟨rfl, b6⟩
  have bD := bC.trans b6
  clear b1 b2 b4 b5 b6 bA bC hb4 hb5
  go_wp2_with fail
  refine (textBegun_any _ (hL.bel bD) (htab.bel bD)).mono ?_
  rintro r w7 ⟨rfl, b7⟩
  have bE := bD.trans b7
  clear b7 bD
  go_wp2_with fail
  go_ret
  exact ⟨by first | rfl | simp, bE⟩
theorem count_bad3 (v1 v2 : Value) (xs ys : List Int) (w : World) (hv1 : IntSl w v1 xs) (hv2 : IntSl w v2 ys) (hl1 : xs.length ≤ 1048576) (hl2 : ys.length ≤ 1048576) (htab : Tab w) (hL : Len w) (a b c d x y g : Int) (_g1 : (g != 0) = true)
    (H1 : Hid (M.countE xs = (a, b, 0))) (H2 : Hid (M.countE ys = (c, d, 0))) (H3 : Hid (M.countE (xs ++ ys) = (x, y, g))) : Calls Tryz.prog 7 #[v1, v2] w fun r w' => r = .returned (.bool true) ∧ Bel w w' := by
  go_enter Tryz.func7, Tryz.ntmps7
  go_wp2_with fail
  refine (count_to _ xs _ _ _ H1.out _ hv1).mono ?_
  rintro r w1 ⟨rfl, b1⟩
  go_wp2_with fail
  refine (count_to _ ys _ _ _ H2.out _ (hv2.bel b1)).mono ?_
  rintro r w2 ⟨rfl, b2⟩
  have bA := b1.trans b2
  go_wp2_with (first
    | (at_builtin; refine wpList_appInts (.tmp 27) (.tmp 28) 30 rfl elemInt (by decide) w2.heap.size _ _ (Own.empty _ _ (Nat.le_refl _)) _ xs (hv1.bel (bA.alloc _)) (by simp; omega) (by simp) rfl rfl rfl ?_; intro v4 w4 o4 b4; have hb4 : Bel w2 w4 := ((Bel.refl _).alloc _).upto b4 (by simp))
    | (at_builtin; refine wpList_appInts (.tmp 29) (.tmp 30) 30 rfl elemInt (by decide) w2.heap.size _ _ o4 _ ys (hv2.bel (bA.trans hb4)) (by simp; omega) hb4.size rfl rfl rfl ?_; intro v5 w5 o5 b5; have hb5 : Bel w2 w5 := hb4.upto b5 (Nat.le_refl _)))
  have i5 : IntSl w5 v5 (xs ++ ys) := Own.ints (by simpa using o5)
  have bC := bA.trans hb5
  refine (count_to _ (xs ++ ys) _ _ _ H3.out _ i5).mono ?_
  rintro r w6 ⟨rfl, b6⟩
  have bD := bC.trans b6
  clear b1 b2 b4 b5 b6 bA bC hb4 hb5
  go_wp2_with fail
  refine (textBegun_any _ (hL.bel bD) (htab.bel bD)).mono ?_
  rintro r w7 ⟨rfl, b7⟩
  have bE := bD.trans b7
  clear b7 bD
  go_wp2_with fail
  go_ret
  exact ⟨by first | rfl | simp, bE⟩
theorem count_yes (v1 v2 : Value) (xs ys : List Int) (w : World) (hv1 : IntSl w v1 xs) (hv2 : IntSl w v2 ys) (hl1 : xs.length ≤ 1048576) (hl2 : ys.length ≤ 1048576) (htab : Tab w) (hL : Len w) (a b c d : Nat) (_k1 : (a : Int) + (c : Int) ≤ 9223372036854775807) (_k2 : (b : Int) + (d : Int) ≤ 9223372036854775807) (_k3 : (a : Int) ≤ (b : Int)) (_k4 : (b : Int) ≤ (xs.length : Int))
    (H1 : Hid (M.countE xs = ((a : Int), (b : Int), 0))) (H2 : Hid (M.countE ys = ((c : Int), (d : Int), 0))) (H3 : Hid (M.countE (xs ++ ys) = ((a : Int) + (c : Int), (b : Int) + (d : Int), 0))) : Calls Tryz.prog 7 #[v1, v2] w fun r w' => r = .returned (.bool true) ∧ Bel w w' := by
  have hv0 := hv1
  obtain ⟨A1, c1, rfl, _⟩ := hv0
  go_enter Tryz.func7, Tryz.ntmps7
  go_wp2_with fail
  refine (count_to _ xs _ _ _ H1.out _ hv1).mono ?_
  rintro r w1 ⟨rfl, b1⟩
  go_wp2_with fail
  refine (count_to _ ys _ _ _ H2.out _ (hv2.bel b1)).mono ?_
  rintro r w2 ⟨rfl, b2⟩
  have bA := b1.trans b2
  go_wp2_with (first
    | (at_builtin; refine wpList_appInts (.tmp 27) (.tmp 28) 30 rfl elemInt (by decide) w2.heap.size _ _ (Own.empty _ _ (Nat.le_refl _)) _ xs (hv1.bel (bA.alloc _)) (by simp; omega) (by simp) rfl rfl rfl ?_; intro v4 w4 o4 b4; have hb4 : Bel w2 w4 := ((Bel.refl _).alloc _).upto b4 (by simp))
    | (at_builtin; refine wpList_appInts (.tmp 29) (.tmp 30) 30 rfl elemInt (by decide) w2.heap.size _ _ o4 _ ys (hv2.bel (bA.trans hb4)) (by simp; omega) hb4.size rfl rfl rfl ?_; intro v5 w5 o5 b5; have hb5 : Bel w2 w5 := hb4.upto b5 (Nat.le_refl _)))
  have i5 : IntSl w5 v5 (xs ++ ys) := Own.ints (by simpa using o5)
  have bC := bA.trans hb5
  refine (count_to _ (xs ++ ys) _ _ _ H3.out _ i5).mono ?_
  rintro r w6 ⟨rfl, b6⟩
  have bD := bC.trans b6
  clear b1 b2 b4 b5 b6 bA bC hb4 hb5
  go_wp2_with fail
  refine (textBegun_any _ (hL.bel bD) (htab.bel bD)).mono ?_
  rintro r w7 ⟨rfl, b7⟩
  have bE := bD.trans b7
  clear b7 bD
  go_wp2_with fail
  go_ret
  exact ⟨by first | rfl | simp, bE⟩
theorem textCount_of (v1 : Value) (xs : List Int) (v2 : Value) (ys : List Int) (w : World) (hv1 : IntSl w v1 xs) (_ : xs.length * 8 ≤ reachBytes) (_ : ∀ n ∈ xs, -9223372036854775808 ≤ n ∧ n ≤ 9223372036854775807) (hl1 : xs.length ≤ 1048576) (hv2 : IntSl w v2 ys) (_ : ys.length * 8 ≤ reachBytes) (_ : ∀ n ∈ ys, -9223372036854775808 ≤ n ∧ n ≤ 9223372036854775807) (hl2 : ys.length ≤ 1048576) (htab : Tab w) (hL : Len w) :
    Calls Tryz.prog 7 #[v1, v2] w fun r w' => r = .returned (.bool true) ∧ Bel w w' := by
  have hc : ∀ l, (M.points l = 0 ∧ M.countE l = ((M.badN l : Int), (M.farN l : Int), 0)) ∨ (M.points l ≠ 0 ∧ M.countE l = (0, 0, M.points l)) := fun l => by
    by_cases h : M.points l = 0
    · exact .inl ⟨h, by rw [M.countE, if_neg (by simpa using h)]⟩
    · exact .inr ⟨h, by rw [M.countE, if_pos h]⟩
  obtain ⟨x, y, g, h3⟩ : ∃ x y g, M.countE (xs ++ ys) = (x, y, g) := ⟨_, _, _, rfl⟩
  rcases hc xs with ⟨p1, h1⟩ | ⟨p1, h1⟩
  · rcases hc ys with ⟨p2, h2⟩ | ⟨p2, h2⟩
    · rcases hc (xs ++ ys) with ⟨p3, h4⟩ | ⟨p3, h4⟩
      · have q1 := M.bad_far xs
        have q2 := M.bad_far ys
        rw [M.badN_app, M.farN_app] at h4
        exact count_yes v1 v2 xs ys w hv1 hv2 hl1 hl2 htab hL _ _ _ _ (by omega) (by omega) (by omega) (by omega) (Lib.hid h1) (Lib.hid h2) (Lib.hid (by rw [h4]; simp))
      · exact count_bad3 v1 v2 xs ys w hv1 hv2 hl1 hl2 htab hL _ _ _ _ _ _ _ (by simpa using p3) (Lib.hid h1) (Lib.hid h2) (Lib.hid h4)
    · exact count_bad2 v1 v2 xs ys w hv1 hv2 hl1 hl2 htab hL _ _ _ _ _ _ _ _ (by simpa using p2) (Lib.hid h1) (Lib.hid h2) (Lib.hid h3)
  · obtain ⟨c, d, f, h2⟩ : ∃ x y g, M.countE ys = (x, y, g) := ⟨_, _, _, rfl⟩
    exact count_bad1 v1 v2 xs ys w hv1 hv2 hl1 hl2 htab hL _ _ _ _ _ _ _ (by simpa using p1) (by simpa using p1) (Lib.hid h1) (Lib.hid h2) (Lib.hid h3)
end Go.Proofs.YteingkjdemlhgaaGreatDoor

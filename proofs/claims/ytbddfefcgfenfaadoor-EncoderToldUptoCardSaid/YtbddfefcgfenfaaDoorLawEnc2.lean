/-
  The laws EncoderOut, EncoderTold.
-/
import Derived.Test.YtbddfefcgfenfaaDoorLawEnc
namespace Go.Proofs.YtbddfefcgfenfaaDoor
open Go.RowKit
set_option maxRecDepth 1000000

theorem encoderOutTrue (e p : Int) (w : World) (_ : -9223372036854775808 ≤ e ∧ e ≤ 9223372036854775807) (_ : -9223372036854775808 ≤ p ∧ p ≤ 9223372036854775807) (htab : Tab w) :
    Calls Tryd.prog 7 #[.int .i64 e, .int .i64 p] w fun r w' => r = .returned (.bool true) ∧ Bel w w' := by
  cases hi : M.isEnc e with
  | false =>
    have HO := Lib.hid (show M.outputE e = (0, 6) by rw [M.outputE, hi, if_neg (by decide)])
    clear hi
    go_enter Tryd.func7, Tryd.ntmps7
    go_wp2_with fail
    refine (output_to e _ _ HO.out _).mono ?_
    rintro r w1 ⟨rfl, rfl⟩
    go_wp2_with fail
    refine (encoderBegun_any _ htab).mono ?_
    rintro r w2 ⟨rfl, b2⟩
    go_wp2_with fail
    go_ret
    exact ⟨rfl, b2⟩
  | true =>
    have HO := Lib.hid (show M.outputE e = (M.outE e, 0) by rw [M.outputE, hi, if_pos rfl])
    have hi2 := M.outE_enc e hi
    have HO2 := Lib.hid (show M.outputE (M.outE e) = (M.outE e, 0) by rw [M.outputE, hi2, if_pos rfl, M.outE_out])
    cases hs : M.scalar p with
    | false =>
      have HH := Lib.hid (show M.hasEE e p = (false, 3) by rw [M.hasEE, hi, hs, if_neg (by decide), if_pos rfl])
      have HH2 := Lib.hid (show M.hasEE (M.outE e) p = (false, 3) by rw [M.hasEE, hi2, hs, if_neg (by decide), if_pos rfl])
      clear hi hi2 hs
      generalize M.outE e = n at *
      go_enter Tryd.func7, Tryd.ntmps7
      go_wp2_with fail
      refine (output_to e _ _ HO.out _).mono ?_
      rintro r w1 ⟨rfl, rfl⟩
      go_wp2_with fail
      refine (encoderBegun_any _ htab).mono ?_
      rintro r w2 ⟨rfl, b2⟩
      go_wp2_with fail
      refine (output_to _ _ _ HO2.out _).mono ?_
      rintro r w3 ⟨rfl, rfl⟩
      go_wp2_with fail
      refine (has_to e p _ _ HH.out _).mono ?_
      rintro r w4 ⟨rfl, b4⟩
      go_wp2_with fail
      refine (has_to _ p _ _ HH2.out _).mono ?_
      rintro r w5 ⟨rfl, b5⟩
      go_wp2_with fail
      go_ret
      exact ⟨rfl, (b2.trans b4).trans b5⟩
    | true =>
      have HH := Lib.hid (show M.hasEE e p = (M.hasE (M.outE e) p, 0) by rw [M.hasEE, hi, hs, if_neg (by decide), if_neg (by decide)])
      have HH2 := Lib.hid (show M.hasEE (M.outE e) p = (M.hasE (M.outE e) p, 0) by rw [M.hasEE, hi2, hs, if_neg (by decide), if_neg (by decide), M.outE_out])
      clear hi hi2 hs
      generalize M.outE e = n at *
      by_cases h1 : n = 1
      · subst h1
        have hb : M.hasE 1 p = true := by rw [M.hasE, if_neg (by decide), if_neg (by decide)]
        rw [hb] at HH HH2
        clear hb
        go_enter Tryd.func7, Tryd.ntmps7
        go_wp2_with fail
        refine (output_to e _ _ HO.out _).mono ?_
        rintro r w1 ⟨rfl, rfl⟩
        go_wp2_with fail
        refine (encoderBegun_any _ htab).mono ?_
        rintro r w2 ⟨rfl, b2⟩
        go_wp2_with fail
        refine (output_to _ _ _ HO2.out _).mono ?_
        rintro r w3 ⟨rfl, rfl⟩
        go_wp2_with fail
        refine (has_to e p _ _ HH.out _).mono ?_
        rintro r w4 ⟨rfl, b4⟩
        go_wp2_with fail
        refine (has_to _ p _ _ HH2.out _).mono ?_
        rintro r w5 ⟨rfl, b5⟩
        go_wp2_with fail
        go_ret
        exact ⟨rfl, (b2.trans b4).trans b5⟩
      · have e1 : (n == 1) = false := by simpa using h1
        have e2 : (n != 1) = true := by simpa using h1
        by_cases hp : 97 ≤ p ∧ p ≤ 122
        · have hb : M.hasE n p = true := by
            have := M.hasE_plain n p.toNat (by omega)
            rwa [Int.toNat_of_nonneg (by omega)] at this
          rw [hb] at HH HH2
          clear hb
          obtain ⟨hp1, hp2⟩ := hp
          go_enter Tryd.func7, Tryd.ntmps7
          go_wp2_with fail
          refine (output_to e _ _ HO.out _).mono ?_
          rintro r w1 ⟨rfl, rfl⟩
          go_wp2_with fail
          refine (encoderBegun_any _ htab).mono ?_
          rintro r w2 ⟨rfl, b2⟩
          go_wp2_with fail
          refine (output_to _ _ _ HO2.out _).mono ?_
          rintro r w3 ⟨rfl, rfl⟩
          go_wp2_with fail
          refine (has_to e p _ _ HH.out _).mono ?_
          rintro r w4 ⟨rfl, b4⟩
          go_wp2_with fail
          refine (has_to _ p _ _ HH2.out _).mono ?_
          rintro r w5 ⟨rfl, b5⟩
          go_wp2_with fail
          go_ret
          exact ⟨rfl, (b2.trans b4).trans b5⟩
        · generalize M.hasE n p = b at *
          by_cases hp1 : 97 ≤ p
          · have hp2 : ¬ p ≤ 122 := fun h => hp ⟨hp1, h⟩
            clear hp
            go_enter Tryd.func7, Tryd.ntmps7
            go_wp2_with fail
            refine (output_to e _ _ HO.out _).mono ?_
            rintro r w1 ⟨rfl, rfl⟩
            go_wp2_with fail
            refine (encoderBegun_any _ htab).mono ?_
            rintro r w2 ⟨rfl, b2⟩
            go_wp2_with fail
            refine (output_to _ _ _ HO2.out _).mono ?_
            rintro r w3 ⟨rfl, rfl⟩
            go_wp2_with fail
            refine (has_to e p _ _ HH.out _).mono ?_
            rintro r w4 ⟨rfl, b4⟩
            go_wp2_with fail
            refine (has_to _ p _ _ HH2.out _).mono ?_
            rintro r w5 ⟨rfl, b5⟩
            go_wp2_with fail
            go_ret
            exact ⟨rfl, (b2.trans b4).trans b5⟩
          · clear hp
            go_enter Tryd.func7, Tryd.ntmps7
            go_wp2_with fail
            refine (output_to e _ _ HO.out _).mono ?_
            rintro r w1 ⟨rfl, rfl⟩
            go_wp2_with fail
            refine (encoderBegun_any _ htab).mono ?_
            rintro r w2 ⟨rfl, b2⟩
            go_wp2_with fail
            refine (output_to _ _ _ HO2.out _).mono ?_
            rintro r w3 ⟨rfl, rfl⟩
            go_wp2_with fail
            refine (has_to e p _ _ HH.out _).mono ?_
            rintro r w4 ⟨rfl, b4⟩
            go_wp2_with fail
            refine (has_to _ p _ _ HH2.out _).mono ?_
            rintro r w5 ⟨rfl, b5⟩
            go_wp2_with fail
            go_ret
            exact ⟨rfl, (b2.trans b4).trans b5⟩
theorem points_vals (xs : List Int) : M.points xs = 0 ∨ M.points xs = 2 ∨ M.points xs = 3 := by
  unfold M.points; (repeat' split) <;> simp
theorem encodeS_len (user : Bool) : ∀ (l : List Int) (b : List UInt8), M.encodeS user l = some b → b.length = l.length
  | [], b, h => by injection h with h; subst h; rfl
  | n :: l, b, h => by
    rw [M.encodeS] at h
    split at h
    · cases h
    · obtain ⟨c, hc, rfl⟩ := Option.map_eq_some_iff.1 h
      rw [List.length_cons, List.length_cons, encodeS_len user l c hc]
theorem row8_len (n : Int) : (M.row8 n).length ≤ 4 := by unfold M.row8; (repeat' split) <;> simp
theorem bytes8_len (l : List Int) : (M.bytes8 l).length ≤ 4 * l.length := by
  induction l with
  | nil => exact Nat.zero_le _
  | cons n l ih =>
    have h : M.bytes8 (n :: l) = M.row8 n ++ M.bytes8 l := rfl
    rw [h, List.length_append, List.length_cons]
    have := row8_len n
    omega
theorem writeE_len (e : Int) (l : List Int) (b : List UInt8) (he : e ≠ 6) (h : M.writeE e l = (b, 0)) : b.length ≤ 4 * l.length := by
  unfold M.writeE at h
  split at h
  · unfold M.rawS at h
    split at h
    · rename_i c hc
      injection h with h1 _
      subst h1
      have := encodeS_len _ _ _ hc
      omega
    · injection h with h1 _; subst h1; exact Nat.zero_le _
  · (try rw [if_neg he] at h)
    injection h with h1 _
    subst h1
    exact bytes8_len l
set_option maxHeartbeats 2000000 in
theorem told_six (e : Int) (v1 v2 : Value) (xs ys : List Int) (w : World) (hv1 : IntSl w v1 xs) (hv2 : IntSl w v2 ys) (hl1 : xs.length ≤ 1048576) (hl2 : ys.length ≤ 1048576) (htab : Tab w) (H1 : Hid (M.encE e 1 xs = ([], 6))) (H2 : Hid (M.encE e 1 ys = ([], 6))) (H3 : Hid (M.encE e 1 (xs ++ ys) = ([], 6))) (H4 : Hid (M.encE e 0 xs = ([], 6))) : Calls Tryd.prog 6 #[.int .i64 e, v1, v2] w fun r w' => r = .returned (.bool true) ∧ Bel w w' := by
  go_enter Tryd.func6, Tryd.ntmps6
  go_wp2_with fail
  refine (encoderBegun_any _ htab).mono ?_
  rintro r w1 ⟨rfl, b1⟩
  go_wp2_with fail
  refine (enc_to e 1 v1 xs _ (hv1.bel b1) (htab.bel b1) _ _ H1.out).mono ?_
  rintro r w2 ⟨rfl, b2⟩
  have bA := b1.trans b2
  go_wp2_with fail
  refine (enc_to e 1 v2 ys _ (hv2.bel bA) (htab.bel bA) _ _ H2.out).mono ?_
  rintro r w3 ⟨rfl, b3⟩
  have bB := bA.trans b3
  go_wp2_with (first
    | (at_builtin; refine wpList_appInts (.tmp 31) (.tmp 32) 36 rfl elemInt (by decide) w3.heap.size _ _ (Own.empty _ _ (Nat.le_refl _)) _ xs (hv1.bel (bB.alloc _)) (by simp; omega) (by simp) rfl rfl rfl ?_; intro v4 w4 o4 b4; have hb4 : Bel w3 w4 := ((Bel.refl w3).alloc _).upto b4 (by simp))
    | (at_builtin; refine wpList_appInts (.tmp 33) (.tmp 34) 36 rfl elemInt (by decide) w3.heap.size _ _ o4 _ ys (hv2.bel (bB.trans hb4)) (by simp; omega) hb4.size rfl rfl rfl ?_; intro v5 w5 o5 b5; have hb5 : Bel w3 w5 := hb4.upto b5 (Nat.le_refl _)))
  have i5 : IntSl w5 v5 (xs ++ ys) := Own.ints (by simpa using o5)
  have bC := bB.trans hb5
  refine (enc_to e 1 v5 (xs ++ ys) _ i5 (htab.bel bC) _ _ H3.out).mono ?_
  rintro r w6 ⟨rfl, b6⟩
  have bD := bC.trans b6
  go_wp2_with fail
  refine (enc_to e 0 v1 xs _ (hv1.bel bD) (htab.bel bD) _ _ H4.out).mono ?_
  rintro r w7 ⟨rfl, b7⟩
  have bE := bD.trans b7
  clear b1 b2 b3 b6 b7 bA bB bC bD hb4 hb5
  go_wp2_with fail
  go_ret
  exact ⟨by first | rfl | simp [str_append], bE⟩
set_option maxHeartbeats 2000000 in
theorem told_bad (e : Int) (v1 v2 : Value) (xs ys : List Int) (w : World) (hv1 : IntSl w v1 xs) (hv2 : IntSl w v2 ys) (hl1 : xs.length ≤ 1048576) (hl2 : ys.length ≤ 1048576) (htab : Tab w) (k1 k2 k : Int) (b c : List UInt8) (_g1 : (k1 == 0) = false) (_g2 : (k1 != 0) = true) (_g5 : (k1 == 5) = false) (H1 : Hid (M.encE e 1 xs = ([], k1))) (H2 : Hid (M.encE e 1 ys = (b, k2))) (H3 : Hid (M.encE e 1 (xs ++ ys) = (c, k))) (H4 : Hid (M.encE e 0 xs = ([], k1))) : Calls Tryd.prog 6 #[.int .i64 e, v1, v2] w fun r w' => r = .returned (.bool true) ∧ Bel w w' := by
  go_enter Tryd.func6, Tryd.ntmps6
  go_wp2_with fail
  refine (encoderBegun_any _ htab).mono ?_
  rintro r w1 ⟨rfl, b1⟩
  go_wp2_with fail
  refine (enc_to e 1 v1 xs _ (hv1.bel b1) (htab.bel b1) _ _ H1.out).mono ?_
  rintro r w2 ⟨rfl, b2⟩
  have bA := b1.trans b2
  go_wp2_with fail
  refine (enc_to e 1 v2 ys _ (hv2.bel bA) (htab.bel bA) _ _ H2.out).mono ?_
  rintro r w3 ⟨rfl, b3⟩
  have bB := bA.trans b3
  go_wp2_with (first
    | (at_builtin; refine wpList_appInts (.tmp 31) (.tmp 32) 36 rfl elemInt (by decide) w3.heap.size _ _ (Own.empty _ _ (Nat.le_refl _)) _ xs (hv1.bel (bB.alloc _)) (by simp; omega) (by simp) rfl rfl rfl ?_; intro v4 w4 o4 b4; have hb4 : Bel w3 w4 := ((Bel.refl w3).alloc _).upto b4 (by simp))
    | (at_builtin; refine wpList_appInts (.tmp 33) (.tmp 34) 36 rfl elemInt (by decide) w3.heap.size _ _ o4 _ ys (hv2.bel (bB.trans hb4)) (by simp; omega) hb4.size rfl rfl rfl ?_; intro v5 w5 o5 b5; have hb5 : Bel w3 w5 := hb4.upto b5 (Nat.le_refl _)))
  have i5 : IntSl w5 v5 (xs ++ ys) := Own.ints (by simpa using o5)
  have bC := bB.trans hb5
  refine (enc_to e 1 v5 (xs ++ ys) _ i5 (htab.bel bC) _ _ H3.out).mono ?_
  rintro r w6 ⟨rfl, b6⟩
  have bD := bC.trans b6
  go_wp2_with fail
  refine (enc_to e 0 v1 xs _ (hv1.bel bD) (htab.bel bD) _ _ H4.out).mono ?_
  rintro r w7 ⟨rfl, b7⟩
  have bE := bD.trans b7
  clear b1 b2 b3 b6 b7 bA bB bC bD hb4 hb5
  go_wp2_with fail
  go_ret
  exact ⟨by first | rfl | simp [str_append], bE⟩
set_option maxHeartbeats 2000000 in
theorem told_half_a (e : Int) (v1 v2 : Value) (xs ys : List Int) (w : World) (hv1 : IntSl w v1 xs) (hv2 : IntSl w v2 ys) (hl1 : xs.length ≤ 1048576) (hl2 : ys.length ≤ 1048576) (htab : Tab w) (k2 k : Int) (a c : List UInt8) (_g2 : (k2 != 0) = true) (H1 : Hid (M.encE e 1 xs = (a, 0))) (H2 : Hid (M.encE e 1 ys = ([], k2))) (H3 : Hid (M.encE e 1 (xs ++ ys) = (c, k))) (H4 : Hid (M.encE e 0 xs = (a, 0))) : Calls Tryd.prog 6 #[.int .i64 e, v1, v2] w fun r w' => r = .returned (.bool true) ∧ Bel w w' := by
  go_enter Tryd.func6, Tryd.ntmps6
  go_wp2_with fail
  refine (encoderBegun_any _ htab).mono ?_
  rintro r w1 ⟨rfl, b1⟩
  go_wp2_with fail
  refine (enc_to e 1 v1 xs _ (hv1.bel b1) (htab.bel b1) _ _ H1.out).mono ?_
  rintro r w2 ⟨rfl, b2⟩
  have bA := b1.trans b2
  go_wp2_with fail
  refine (enc_to e 1 v2 ys _ (hv2.bel bA) (htab.bel bA) _ _ H2.out).mono ?_
  rintro r w3 ⟨rfl, b3⟩
  have bB := bA.trans b3
  go_wp2_with (first
    | (at_builtin; refine wpList_appInts (.tmp 31) (.tmp 32) 36 rfl elemInt (by decide) w3.heap.size _ _ (Own.empty _ _ (Nat.le_refl _)) _ xs (hv1.bel (bB.alloc _)) (by simp; omega) (by simp) rfl rfl rfl ?_; intro v4 w4 o4 b4; have hb4 : Bel w3 w4 := ((Bel.refl w3).alloc _).upto b4 (by simp))
    | (at_builtin; refine wpList_appInts (.tmp 33) (.tmp 34) 36 rfl elemInt (by decide) w3.heap.size _ _ o4 _ ys (hv2.bel (bB.trans hb4)) (by simp; omega) hb4.size rfl rfl rfl ?_; intro v5 w5 o5 b5; have hb5 : Bel w3 w5 := hb4.upto b5 (Nat.le_refl _)))
  have i5 : IntSl w5 v5 (xs ++ ys) := Own.ints (by simpa using o5)
  have bC := bB.trans hb5
  refine (enc_to e 1 v5 (xs ++ ys) _ i5 (htab.bel bC) _ _ H3.out).mono ?_
  rintro r w6 ⟨rfl, b6⟩
  have bD := bC.trans b6
  go_wp2_with fail
  refine (enc_to e 0 v1 xs _ (hv1.bel bD) (htab.bel bD) _ _ H4.out).mono ?_
  rintro r w7 ⟨rfl, b7⟩
  have bE := bD.trans b7
  clear b1 b2 b3 b6 b7 bA bB bC bD hb4 hb5
  go_wp2_with fail
  go_ret
  exact ⟨by first | rfl | simp [str_append], bE⟩
set_option maxHeartbeats 2000000 in
theorem told_kana_a_true (e : Int) (v1 v2 : Value) (xs ys : List Int) (w : World) (hv1 : IntSl w v1 xs) (hv2 : IntSl w v2 ys) (hl1 : xs.length ≤ 1048576) (hl2 : ys.length ≤ 1048576) (htab : Tab w) (k : Int) (a b c : List UInt8) (_g6 : (e == 6) = true) (_g2 : (k != 0) = true) (H1 : Hid (M.encE e 1 xs = (a, 0))) (H2 : Hid (M.encE e 1 ys = (b, 0))) (H3 : Hid (M.encE e 1 (xs ++ ys) = (c, k))) (H4 : Hid (M.encE e 0 xs = (a, 0))) : Calls Tryd.prog 6 #[.int .i64 e, v1, v2] w fun r w' => r = .returned (.bool true) ∧ Bel w w' := by
  go_enter Tryd.func6, Tryd.ntmps6
  go_wp2_with fail
  refine (encoderBegun_any _ htab).mono ?_
  rintro r w1 ⟨rfl, b1⟩
  go_wp2_with fail
  refine (enc_to e 1 v1 xs _ (hv1.bel b1) (htab.bel b1) _ _ H1.out).mono ?_
  rintro r w2 ⟨rfl, b2⟩
  have bA := b1.trans b2
  go_wp2_with fail
  refine (enc_to e 1 v2 ys _ (hv2.bel bA) (htab.bel bA) _ _ H2.out).mono ?_
  rintro r w3 ⟨rfl, b3⟩
  have bB := bA.trans b3
  go_wp2_with (first
    | (at_builtin; refine wpList_appInts (.tmp 31) (.tmp 32) 36 rfl elemInt (by decide) w3.heap.size _ _ (Own.empty _ _ (Nat.le_refl _)) _ xs (hv1.bel (bB.alloc _)) (by simp; omega) (by simp) rfl rfl rfl ?_; intro v4 w4 o4 b4; have hb4 : Bel w3 w4 := ((Bel.refl w3).alloc _).upto b4 (by simp))
    | (at_builtin; refine wpList_appInts (.tmp 33) (.tmp 34) 36 rfl elemInt (by decide) w3.heap.size _ _ o4 _ ys (hv2.bel (bB.trans hb4)) (by simp; omega) hb4.size rfl rfl rfl ?_; intro v5 w5 o5 b5; have hb5 : Bel w3 w5 := hb4.upto b5 (Nat.le_refl _)))
  have i5 : IntSl w5 v5 (xs ++ ys) := Own.ints (by simpa using o5)
  have bC := bB.trans hb5
  refine (enc_to e 1 v5 (xs ++ ys) _ i5 (htab.bel bC) _ _ H3.out).mono ?_
  rintro r w6 ⟨rfl, b6⟩
  have bD := bC.trans b6
  go_wp2_with fail
  refine (enc_to e 0 v1 xs _ (hv1.bel bD) (htab.bel bD) _ _ H4.out).mono ?_
  rintro r w7 ⟨rfl, b7⟩
  have bE := bD.trans b7
  clear b1 b2 b3 b6 b7 bA bB bC bD hb4 hb5
  go_wp2_with fail
  go_ret
  exact ⟨by first | rfl | simp [str_append], bE⟩
set_option maxHeartbeats 2000000 in
theorem told_kana_a_false (e : Int) (v1 v2 : Value) (xs ys : List Int) (w : World) (hv1 : IntSl w v1 xs) (hv2 : IntSl w v2 ys) (hl1 : xs.length ≤ 1048576) (hl2 : ys.length ≤ 1048576) (htab : Tab w) (k : Int) (a b c : List UInt8) (_g6 : (e == 6) = true) (_g2 : (k != 0) = false) (H1 : Hid (M.encE e 1 xs = (a, 0))) (H2 : Hid (M.encE e 1 ys = (b, 0))) (H3 : Hid (M.encE e 1 (xs ++ ys) = (c, k))) (H4 : Hid (M.encE e 0 xs = (a, 0))) : Calls Tryd.prog 6 #[.int .i64 e, v1, v2] w fun r w' => r = .returned (.bool true) ∧ Bel w w' := by
  go_enter Tryd.func6, Tryd.ntmps6
  go_wp2_with fail
  refine (encoderBegun_any _ htab).mono ?_
  rintro r w1 ⟨rfl, b1⟩
  go_wp2_with fail
  refine (enc_to e 1 v1 xs _ (hv1.bel b1) (htab.bel b1) _ _ H1.out).mono ?_
  rintro r w2 ⟨rfl, b2⟩
  have bA := b1.trans b2
  go_wp2_with fail
  refine (enc_to e 1 v2 ys _ (hv2.bel bA) (htab.bel bA) _ _ H2.out).mono ?_
  rintro r w3 ⟨rfl, b3⟩
  have bB := bA.trans b3
  go_wp2_with (first
    | (at_builtin; refine wpList_appInts (.tmp 31) (.tmp 32) 36 rfl elemInt (by decide) w3.heap.size _ _ (Own.empty _ _ (Nat.le_refl _)) _ xs (hv1.bel (bB.alloc _)) (by simp; omega) (by simp) rfl rfl rfl ?_; intro v4 w4 o4 b4; have hb4 : Bel w3 w4 := ((Bel.refl w3).alloc _).upto b4 (by simp))
    | (at_builtin; refine wpList_appInts (.tmp 33) (.tmp 34) 36 rfl elemInt (by decide) w3.heap.size _ _ o4 _ ys (hv2.bel (bB.trans hb4)) (by simp; omega) hb4.size rfl rfl rfl ?_; intro v5 w5 o5 b5; have hb5 : Bel w3 w5 := hb4.upto b5 (Nat.le_refl _)))
  have i5 : IntSl w5 v5 (xs ++ ys) := Own.ints (by simpa using o5)
  have bC := bB.trans hb5
  refine (enc_to e 1 v5 (xs ++ ys) _ i5 (htab.bel bC) _ _ H3.out).mono ?_
  rintro r w6 ⟨rfl, b6⟩
  have bD := bC.trans b6
  go_wp2_with fail
  refine (enc_to e 0 v1 xs _ (hv1.bel bD) (htab.bel bD) _ _ H4.out).mono ?_
  rintro r w7 ⟨rfl, b7⟩
  have bE := bD.trans b7
  clear b1 b2 b3 b6 b7 bA bB bC bD hb4 hb5
  go_wp2_with fail
  go_ret
  exact ⟨by first | rfl | simp [str_append], bE⟩
set_option maxHeartbeats 2000000 in
theorem told_long_a (e : Int) (v1 v2 : Value) (xs ys : List Int) (w : World) (hv1 : IntSl w v1 xs) (hv2 : IntSl w v2 ys) (hl1 : xs.length ≤ 1048576) (hl2 : ys.length ≤ 1048576) (htab : Tab w) (a b : List UInt8) (_g6 : (e == 6) = false) (H1 : Hid (M.encE e 1 xs = (a, 0))) (H2 : Hid (M.encE e 1 ys = (b, 0))) (H3 : Hid (M.encE e 1 (xs ++ ys) = ([], 2))) (H4 : Hid (M.encE e 0 xs = (a, 0))) : Calls Tryd.prog 6 #[.int .i64 e, v1, v2] w fun r w' => r = .returned (.bool true) ∧ Bel w w' := by
  go_enter Tryd.func6, Tryd.ntmps6
  go_wp2_with fail
  refine (encoderBegun_any _ htab).mono ?_
  rintro r w1 ⟨rfl, b1⟩
  go_wp2_with fail
  refine (enc_to e 1 v1 xs _ (hv1.bel b1) (htab.bel b1) _ _ H1.out).mono ?_
  rintro r w2 ⟨rfl, b2⟩
  have bA := b1.trans b2
  go_wp2_with fail
  refine (enc_to e 1 v2 ys _ (hv2.bel bA) (htab.bel bA) _ _ H2.out).mono ?_
  rintro r w3 ⟨rfl, b3⟩
  have bB := bA.trans b3
  go_wp2_with (first
    | (at_builtin; refine wpList_appInts (.tmp 31) (.tmp 32) 36 rfl elemInt (by decide) w3.heap.size _ _ (Own.empty _ _ (Nat.le_refl _)) _ xs (hv1.bel (bB.alloc _)) (by simp; omega) (by simp) rfl rfl rfl ?_; intro v4 w4 o4 b4; have hb4 : Bel w3 w4 := ((Bel.refl w3).alloc _).upto b4 (by simp))
    | (at_builtin; refine wpList_appInts (.tmp 33) (.tmp 34) 36 rfl elemInt (by decide) w3.heap.size _ _ o4 _ ys (hv2.bel (bB.trans hb4)) (by simp; omega) hb4.size rfl rfl rfl ?_; intro v5 w5 o5 b5; have hb5 : Bel w3 w5 := hb4.upto b5 (Nat.le_refl _)))
  have i5 : IntSl w5 v5 (xs ++ ys) := Own.ints (by simpa using o5)
  have bC := bB.trans hb5
  refine (enc_to e 1 v5 (xs ++ ys) _ i5 (htab.bel bC) _ _ H3.out).mono ?_
  rintro r w6 ⟨rfl, b6⟩
  have bD := bC.trans b6
  go_wp2_with fail
  refine (enc_to e 0 v1 xs _ (hv1.bel bD) (htab.bel bD) _ _ H4.out).mono ?_
  rintro r w7 ⟨rfl, b7⟩
  have bE := bD.trans b7
  clear b1 b2 b3 b6 b7 bA bB bC bD hb4 hb5
  go_wp2_with fail
  go_ret
  exact ⟨by first | rfl | simp [str_append], bE⟩
set_option maxHeartbeats 2000000 in
theorem told_both_a (e : Int) (v1 v2 : Value) (xs ys : List Int) (w : World) (hv1 : IntSl w v1 xs) (hv2 : IntSl w v2 ys) (hl1 : xs.length ≤ 1048576) (hl2 : ys.length ≤ 1048576) (htab : Tab w) (a b : List UInt8) (_g6 : (e == 6) = false) (_lab : a.length + b.length ≤ 9223372036854775807) (H1 : Hid (M.encE e 1 xs = (a, 0))) (H2 : Hid (M.encE e 1 ys = (b, 0))) (H3 : Hid (M.encE e 1 (xs ++ ys) = (a ++ b, 0))) (H4 : Hid (M.encE e 0 xs = (a, 0))) : Calls Tryd.prog 6 #[.int .i64 e, v1, v2] w fun r w' => r = .returned (.bool true) ∧ Bel w w' := by
  go_enter Tryd.func6, Tryd.ntmps6
  go_wp2_with fail
  refine (encoderBegun_any _ htab).mono ?_
  rintro r w1 ⟨rfl, b1⟩
  go_wp2_with fail
  refine (enc_to e 1 v1 xs _ (hv1.bel b1) (htab.bel b1) _ _ H1.out).mono ?_
  rintro r w2 ⟨rfl, b2⟩
  have bA := b1.trans b2
  go_wp2_with fail
  refine (enc_to e 1 v2 ys _ (hv2.bel bA) (htab.bel bA) _ _ H2.out).mono ?_
  rintro r w3 ⟨rfl, b3⟩
  have bB := bA.trans b3
  go_wp2_with (first
    | (at_builtin; refine wpList_appInts (.tmp 31) (.tmp 32) 36 rfl elemInt (by decide) w3.heap.size _ _ (Own.empty _ _ (Nat.le_refl _)) _ xs (hv1.bel (bB.alloc _)) (by simp; omega) (by simp) rfl rfl rfl ?_; intro v4 w4 o4 b4; have hb4 : Bel w3 w4 := ((Bel.refl w3).alloc _).upto b4 (by simp))
    | (at_builtin; refine wpList_appInts (.tmp 33) (.tmp 34) 36 rfl elemInt (by decide) w3.heap.size _ _ o4 _ ys (hv2.bel (bB.trans hb4)) (by simp; omega) hb4.size rfl rfl rfl ?_; intro v5 w5 o5 b5; have hb5 : Bel w3 w5 := hb4.upto b5 (Nat.le_refl _)))
  have i5 : IntSl w5 v5 (xs ++ ys) := Own.ints (by simpa using o5)
  have bC := bB.trans hb5
  refine (enc_to e 1 v5 (xs ++ ys) _ i5 (htab.bel bC) _ _ H3.out).mono ?_
  rintro r w6 ⟨rfl, b6⟩
  have bD := bC.trans b6
  go_wp2_with fail
  refine (enc_to e 0 v1 xs _ (hv1.bel bD) (htab.bel bD) _ _ H4.out).mono ?_
  rintro r w7 ⟨rfl, b7⟩
  have bE := bD.trans b7
  clear b1 b2 b3 b6 b7 bA bB bC bD hb4 hb5
  go_wp2_with fail
  go_ret
  exact ⟨by first | rfl | simp [str_append], bE⟩
set_option maxHeartbeats 2000000 in
theorem told_half_b (e : Int) (v1 v2 : Value) (xs ys : List Int) (w : World) (hv1 : IntSl w v1 xs) (hv2 : IntSl w v2 ys) (hl1 : xs.length ≤ 1048576) (hl2 : ys.length ≤ 1048576) (htab : Tab w) (k2 k : Int) (a c : List UInt8) (_g2 : (k2 != 0) = true) (H1 : Hid (M.encE e 1 xs = (a, 0))) (H2 : Hid (M.encE e 1 ys = ([], k2))) (H3 : Hid (M.encE e 1 (xs ++ ys) = (c, k))) (H4 : Hid (M.encE e 0 xs = ([], 5))) : Calls Tryd.prog 6 #[.int .i64 e, v1, v2] w fun r w' => r = .returned (.bool true) ∧ Bel w w' := by
  go_enter Tryd.func6, Tryd.ntmps6
  go_wp2_with fail
  refine (encoderBegun_any _ htab).mono ?_
  rintro r w1 ⟨rfl, b1⟩
  go_wp2_with fail
  refine (enc_to e 1 v1 xs _ (hv1.bel b1) (htab.bel b1) _ _ H1.out).mono ?_
  rintro r w2 ⟨rfl, b2⟩
  have bA := b1.trans b2
  go_wp2_with fail
  refine (enc_to e 1 v2 ys _ (hv2.bel bA) (htab.bel bA) _ _ H2.out).mono ?_
  rintro r w3 ⟨rfl, b3⟩
  have bB := bA.trans b3
  go_wp2_with (first
    | (at_builtin; refine wpList_appInts (.tmp 31) (.tmp 32) 36 rfl elemInt (by decide) w3.heap.size _ _ (Own.empty _ _ (Nat.le_refl _)) _ xs (hv1.bel (bB.alloc _)) (by simp; omega) (by simp) rfl rfl rfl ?_; intro v4 w4 o4 b4; have hb4 : Bel w3 w4 := ((Bel.refl w3).alloc _).upto b4 (by simp))
    | (at_builtin; refine wpList_appInts (.tmp 33) (.tmp 34) 36 rfl elemInt (by decide) w3.heap.size _ _ o4 _ ys (hv2.bel (bB.trans hb4)) (by simp; omega) hb4.size rfl rfl rfl ?_; intro v5 w5 o5 b5; have hb5 : Bel w3 w5 := hb4.upto b5 (Nat.le_refl _)))
  have i5 : IntSl w5 v5 (xs ++ ys) := Own.ints (by simpa using o5)
  have bC := bB.trans hb5
  refine (enc_to e 1 v5 (xs ++ ys) _ i5 (htab.bel bC) _ _ H3.out).mono ?_
  rintro r w6 ⟨rfl, b6⟩
  have bD := bC.trans b6
  go_wp2_with fail
  refine (enc_to e 0 v1 xs _ (hv1.bel bD) (htab.bel bD) _ _ H4.out).mono ?_
  rintro r w7 ⟨rfl, b7⟩
  have bE := bD.trans b7
  clear b1 b2 b3 b6 b7 bA bB bC bD hb4 hb5
  go_wp2_with fail
  go_ret
  exact ⟨by first | rfl | simp [str_append], bE⟩
set_option maxHeartbeats 2000000 in
theorem told_kana_b_true (e : Int) (v1 v2 : Value) (xs ys : List Int) (w : World) (hv1 : IntSl w v1 xs) (hv2 : IntSl w v2 ys) (hl1 : xs.length ≤ 1048576) (hl2 : ys.length ≤ 1048576) (htab : Tab w) (k : Int) (a b c : List UInt8) (_g6 : (e == 6) = true) (_g2 : (k != 0) = true) (H1 : Hid (M.encE e 1 xs = (a, 0))) (H2 : Hid (M.encE e 1 ys = (b, 0))) (H3 : Hid (M.encE e 1 (xs ++ ys) = (c, k))) (H4 : Hid (M.encE e 0 xs = ([], 5))) : Calls Tryd.prog 6 #[.int .i64 e, v1, v2] w fun r w' => r = .returned (.bool true) ∧ Bel w w' := by
  go_enter Tryd.func6, Tryd.ntmps6
  go_wp2_with fail
  refine (encoderBegun_any _ htab).mono ?_
  rintro r w1 ⟨rfl, b1⟩
  go_wp2_with fail
  refine (enc_to e 1 v1 xs _ (hv1.bel b1) (htab.bel b1) _ _ H1.out).mono ?_
  rintro r w2 ⟨rfl, b2⟩
  have bA := b1.trans b2
  go_wp2_with fail
  refine (enc_to e 1 v2 ys _ (hv2.bel bA) (htab.bel bA) _ _ H2.out).mono ?_
  rintro r w3 ⟨rfl, b3⟩
  have bB := bA.trans b3
  go_wp2_with (first
    | (at_builtin; refine wpList_appInts (.tmp 31) (.tmp 32) 36 rfl elemInt (by decide) w3.heap.size _ _ (Own.empty _ _ (Nat.le_refl _)) _ xs (hv1.bel (bB.alloc _)) (by simp; omega) (by simp) rfl rfl rfl ?_; intro v4 w4 o4 b4; have hb4 : Bel w3 w4 := ((Bel.refl w3).alloc _).upto b4 (by simp))
    | (at_builtin; refine wpList_appInts (.tmp 33) (.tmp 34) 36 rfl elemInt (by decide) w3.heap.size _ _ o4 _ ys (hv2.bel (bB.trans hb4)) (by simp; omega) hb4.size rfl rfl rfl ?_; intro v5 w5 o5 b5; have hb5 : Bel w3 w5 := hb4.upto b5 (Nat.le_refl _)))
  have i5 : IntSl w5 v5 (xs ++ ys) := Own.ints (by simpa using o5)
  have bC := bB.trans hb5
  refine (enc_to e 1 v5 (xs ++ ys) _ i5 (htab.bel bC) _ _ H3.out).mono ?_
  rintro r w6 ⟨rfl, b6⟩
  have bD := bC.trans b6
  go_wp2_with fail
  refine (enc_to e 0 v1 xs _ (hv1.bel bD) (htab.bel bD) _ _ H4.out).mono ?_
  rintro r w7 ⟨rfl, b7⟩
  have bE := bD.trans b7
  clear b1 b2 b3 b6 b7 bA bB bC bD hb4 hb5
  go_wp2_with fail
  go_ret
  exact ⟨by first | rfl | simp [str_append], bE⟩
set_option maxHeartbeats 2000000 in
theorem told_kana_b_false (e : Int) (v1 v2 : Value) (xs ys : List Int) (w : World) (hv1 : IntSl w v1 xs) (hv2 : IntSl w v2 ys) (hl1 : xs.length ≤ 1048576) (hl2 : ys.length ≤ 1048576) (htab : Tab w) (k : Int) (a b c : List UInt8) (_g6 : (e == 6) = true) (_g2 : (k != 0) = false) (H1 : Hid (M.encE e 1 xs = (a, 0))) (H2 : Hid (M.encE e 1 ys = (b, 0))) (H3 : Hid (M.encE e 1 (xs ++ ys) = (c, k))) (H4 : Hid (M.encE e 0 xs = ([], 5))) : Calls Tryd.prog 6 #[.int .i64 e, v1, v2] w fun r w' => r = .returned (.bool true) ∧ Bel w w' := by
  go_enter Tryd.func6, Tryd.ntmps6
  go_wp2_with fail
  refine (encoderBegun_any _ htab).mono ?_
  rintro r w1 ⟨rfl, b1⟩
  go_wp2_with fail
  refine (enc_to e 1 v1 xs _ (hv1.bel b1) (htab.bel b1) _ _ H1.out).mono ?_
  rintro r w2 ⟨rfl, b2⟩
  have bA := b1.trans b2
  go_wp2_with fail
  refine (enc_to e 1 v2 ys _ (hv2.bel bA) (htab.bel bA) _ _ H2.out).mono ?_
  rintro r w3 ⟨rfl, b3⟩
  have bB := bA.trans b3
  go_wp2_with (first
    | (at_builtin; refine wpList_appInts (.tmp 31) (.tmp 32) 36 rfl elemInt (by decide) w3.heap.size _ _ (Own.empty _ _ (Nat.le_refl _)) _ xs (hv1.bel (bB.alloc _)) (by simp; omega) (by simp) rfl rfl rfl ?_; intro v4 w4 o4 b4; have hb4 : Bel w3 w4 := ((Bel.refl w3).alloc _).upto b4 (by simp))
    | (at_builtin; refine wpList_appInts (.tmp 33) (.tmp 34) 36 rfl elemInt (by decide) w3.heap.size _ _ o4 _ ys (hv2.bel (bB.trans hb4)) (by simp; omega) hb4.size rfl rfl rfl ?_; intro v5 w5 o5 b5; have hb5 : Bel w3 w5 := hb4.upto b5 (Nat.le_refl _)))
  have i5 : IntSl w5 v5 (xs ++ ys) := Own.ints (by simpa using o5)
  have bC := bB.trans hb5
  refine (enc_to e 1 v5 (xs ++ ys) _ i5 (htab.bel bC) _ _ H3.out).mono ?_
  rintro r w6 ⟨rfl, b6⟩
  have bD := bC.trans b6
  go_wp2_with fail
  refine (enc_to e 0 v1 xs _ (hv1.bel bD) (htab.bel bD) _ _ H4.out).mono ?_
  rintro r w7 ⟨rfl, b7⟩
  have bE := bD.trans b7
  clear b1 b2 b3 b6 b7 bA bB bC bD hb4 hb5
  go_wp2_with fail
  go_ret
  exact ⟨by first | rfl | simp [str_append], bE⟩
set_option maxHeartbeats 2000000 in
theorem told_long_b (e : Int) (v1 v2 : Value) (xs ys : List Int) (w : World) (hv1 : IntSl w v1 xs) (hv2 : IntSl w v2 ys) (hl1 : xs.length ≤ 1048576) (hl2 : ys.length ≤ 1048576) (htab : Tab w) (a b : List UInt8) (_g6 : (e == 6) = false) (H1 : Hid (M.encE e 1 xs = (a, 0))) (H2 : Hid (M.encE e 1 ys = (b, 0))) (H3 : Hid (M.encE e 1 (xs ++ ys) = ([], 2))) (H4 : Hid (M.encE e 0 xs = ([], 5))) : Calls Tryd.prog 6 #[.int .i64 e, v1, v2] w fun r w' => r = .returned (.bool true) ∧ Bel w w' := by
  go_enter Tryd.func6, Tryd.ntmps6
  go_wp2_with fail
  refine (encoderBegun_any _ htab).mono ?_
  rintro r w1 ⟨rfl, b1⟩
  go_wp2_with fail
  refine (enc_to e 1 v1 xs _ (hv1.bel b1) (htab.bel b1) _ _ H1.out).mono ?_
  rintro r w2 ⟨rfl, b2⟩
  have bA := b1.trans b2
  go_wp2_with fail
  refine (enc_to e 1 v2 ys _ (hv2.bel bA) (htab.bel bA) _ _ H2.out).mono ?_
  rintro r w3 ⟨rfl, b3⟩
  have bB := bA.trans b3
  go_wp2_with (first
    | (at_builtin; refine wpList_appInts (.tmp 31) (.tmp 32) 36 rfl elemInt (by decide) w3.heap.size _ _ (Own.empty _ _ (Nat.le_refl _)) _ xs (hv1.bel (bB.alloc _)) (by simp; omega) (by simp) rfl rfl rfl ?_; intro v4 w4 o4 b4; have hb4 : Bel w3 w4 := ((Bel.refl w3).alloc _).upto b4 (by simp))
    | (at_builtin; refine wpList_appInts (.tmp 33) (.tmp 34) 36 rfl elemInt (by decide) w3.heap.size _ _ o4 _ ys (hv2.bel (bB.trans hb4)) (by simp; omega) hb4.size rfl rfl rfl ?_; intro v5 w5 o5 b5; have hb5 : Bel w3 w5 := hb4.upto b5 (Nat.le_refl _)))
  have i5 : IntSl w5 v5 (xs ++ ys) := Own.ints (by simpa using o5)
  have bC := bB.trans hb5
  refine (enc_to e 1 v5 (xs ++ ys) _ i5 (htab.bel bC) _ _ H3.out).mono ?_
  rintro r w6 ⟨rfl, b6⟩
  have bD := bC.trans b6
  go_wp2_with fail
  refine (enc_to e 0 v1 xs _ (hv1.bel bD) (htab.bel bD) _ _ H4.out).mono ?_
  rintro r w7 ⟨rfl, b7⟩
  have bE := bD.trans b7
  clear b1 b2 b3 b6 b7 bA bB bC bD hb4 hb5
  go_wp2_with fail
  go_ret
  exact ⟨by first | rfl | simp [str_append], bE⟩
set_option maxHeartbeats 2000000 in
theorem told_both_b (e : Int) (v1 v2 : Value) (xs ys : List Int) (w : World) (hv1 : IntSl w v1 xs) (hv2 : IntSl w v2 ys) (hl1 : xs.length ≤ 1048576) (hl2 : ys.length ≤ 1048576) (htab : Tab w) (a b : List UInt8) (_g6 : (e == 6) = false) (_lab : a.length + b.length ≤ 9223372036854775807) (H1 : Hid (M.encE e 1 xs = (a, 0))) (H2 : Hid (M.encE e 1 ys = (b, 0))) (H3 : Hid (M.encE e 1 (xs ++ ys) = (a ++ b, 0))) (H4 : Hid (M.encE e 0 xs = ([], 5))) : Calls Tryd.prog 6 #[.int .i64 e, v1, v2] w fun r w' => r = .returned (.bool true) ∧ Bel w w' := by
  go_enter Tryd.func6, Tryd.ntmps6
  go_wp2_with fail
  refine (encoderBegun_any _ htab).mono ?_
  rintro r w1 ⟨rfl, b1⟩
  go_wp2_with fail
  refine (enc_to e 1 v1 xs _ (hv1.bel b1) (htab.bel b1) _ _ H1.out).mono ?_
  rintro r w2 ⟨rfl, b2⟩
  have bA := b1.trans b2
  go_wp2_with fail
  refine (enc_to e 1 v2 ys _ (hv2.bel bA) (htab.bel bA) _ _ H2.out).mono ?_
  rintro r w3 ⟨rfl, b3⟩
  have bB := bA.trans b3
  go_wp2_with (first
    | (at_builtin; refine wpList_appInts (.tmp 31) (.tmp 32) 36 rfl elemInt (by decide) w3.heap.size _ _ (Own.empty _ _ (Nat.le_refl _)) _ xs (hv1.bel (bB.alloc _)) (by simp; omega) (by simp) rfl rfl rfl ?_; intro v4 w4 o4 b4; have hb4 : Bel w3 w4 := ((Bel.refl w3).alloc _).upto b4 (by simp))
    | (at_builtin; refine wpList_appInts (.tmp 33) (.tmp 34) 36 rfl elemInt (by decide) w3.heap.size _ _ o4 _ ys (hv2.bel (bB.trans hb4)) (by simp; omega) hb4.size rfl rfl rfl ?_; intro v5 w5 o5 b5; have hb5 : Bel w3 w5 := hb4.upto b5 (Nat.le_refl _)))
  have i5 : IntSl w5 v5 (xs ++ ys) := Own.ints (by simpa using o5)
  have bC := bB.trans hb5
  refine (enc_to e 1 v5 (xs ++ ys) _ i5 (htab.bel bC) _ _ H3.out).mono ?_
  rintro r w6 ⟨rfl, b6⟩
  have bD := bC.trans b6
  go_wp2_with fail
  refine (enc_to e 0 v1 xs _ (hv1.bel bD) (htab.bel bD) _ _ H4.out).mono ?_
  rintro r w7 ⟨rfl, b7⟩
  have bE := bD.trans b7
  clear b1 b2 b3 b6 b7 bA bB bC bD hb4 hb5
  go_wp2_with fail
  go_ret
  exact ⟨by first | rfl | simp [str_append], bE⟩
theorem encoderToldTrue (e : Int) (v1 v2 : Value) (xs ys : List Int) (w : World) (hv1 : IntSl w v1 xs) (hv2 : IntSl w v2 ys) (hl1 : xs.length ≤ 1048576) (hl2 : ys.length ≤ 1048576) (htab : Tab w) :
    Calls Tryd.prog 6 #[.int .i64 e, v1, v2] w fun r w' => r = .returned (.bool true) ∧ Bel w w' := by
  cases hi : M.isEnc e with
  | false =>
    have HA : ∀ m l, M.encE e m l = ([], 6) := fun m l => by rw [M.encE, hi, if_pos rfl]
    exact told_six e v1 v2 xs ys w hv1 hv2 hl1 hl2 htab (Lib.hid (HA 1 xs)) (Lib.hid (HA 1 ys)) (Lib.hid (HA 1 (xs ++ ys))) (Lib.hid (HA 0 xs))
  | true =>
    have hE : ∀ m l, m = 0 ∨ m = 1 → M.encE e m l = if M.points l ≠ 0 then ([], M.points l) else M.writeE (M.outE e) (if m = 1 then M.toldE (M.outE e) l else l) := fun m l hm => by
      rw [M.encE, hi, if_neg (by decide), if_neg (by omega)]
    obtain ⟨c, k, h3⟩ : ∃ c k, M.encE e 1 (xs ++ ys) = (c, k) := ⟨_, _, rfl⟩
    by_cases hp1 : M.points xs = 0
    · have hq1 := points_scalars xs hp1
      have hb1 : ∀ n ∈ xs, 0 ≤ n := fun n hn => by have := scalar_bounds n (hq1.2 n hn); omega
      have hw1 := M.writeE_ok (M.outE e) _ (M.toldE_has (M.outE e) xs hb1)
      obtain ⟨a, ha⟩ : ∃ a, M.writeE (M.outE e) (M.toldE (M.outE e) xs) = (a, 0) := ⟨_, Prod.ext rfl hw1⟩
      have h1 : M.encE e 1 xs = (a, 0) := by rw [hE 1 xs (.inr rfl), if_neg (by simpa using hp1), if_pos rfl, ha]
      have h4 : M.encE e 0 xs = (a, 0) ∨ M.encE e 0 xs = ([], 5) := by
        rw [hE 0 xs (.inl rfl), if_neg (by simpa using hp1), if_neg (by decide)]
        rcases M.writeE_cases (M.outE e) xs with ⟨h8, b, h9⟩ | ⟨_, h9⟩
        · rw [M.toldE_all _ _ h8] at ha
          exact .inl ha
        · exact .inr h9
      by_cases hp2 : M.points ys = 0
      · have hq2 := points_scalars ys hp2
        have hb2 : ∀ n ∈ ys, 0 ≤ n := fun n hn => by have := scalar_bounds n (hq2.2 n hn); omega
        have hw2 := M.writeE_ok (M.outE e) _ (M.toldE_has (M.outE e) ys hb2)
        obtain ⟨b, hb⟩ : ∃ b, M.writeE (M.outE e) (M.toldE (M.outE e) ys) = (b, 0) := ⟨_, Prod.ext rfl hw2⟩
        have h2 : M.encE e 1 ys = (b, 0) := by rw [hE 1 ys (.inr rfl), if_neg (by simpa using hp2), if_pos rfl, hb]
        by_cases h6 : e = 6
        · have g6 : (e == 6) = true := by simpa using h6
          cases hk : (k != 0) with
          | true =>
            rcases h4 with h4 | h4
            · exact told_kana_a_true e v1 v2 xs ys w hv1 hv2 hl1 hl2 htab k a b c g6 hk (Lib.hid h1) (Lib.hid h2) (Lib.hid h3) (Lib.hid h4)
            · exact told_kana_b_true e v1 v2 xs ys w hv1 hv2 hl1 hl2 htab k a b c g6 hk (Lib.hid h1) (Lib.hid h2) (Lib.hid h3) (Lib.hid h4)
          | false =>
            rcases h4 with h4 | h4
            · exact told_kana_a_false e v1 v2 xs ys w hv1 hv2 hl1 hl2 htab k a b c g6 hk (Lib.hid h1) (Lib.hid h2) (Lib.hid h3) (Lib.hid h4)
            · exact told_kana_b_false e v1 v2 xs ys w hv1 hv2 hl1 hl2 htab k a b c g6 hk (Lib.hid h1) (Lib.hid h2) (Lib.hid h3) (Lib.hid h4)
        · have ho6 : M.outE e ≠ 6 := fun hh => by unfold M.outE at hh; split at hh <;> omega
          have g6 : (e == 6) = false := by simpa using h6
          have la := writeE_len _ _ _ ho6 ha
          have lb := writeE_len _ _ _ ho6 hb
          have la2 := toldE_len (M.outE e) xs (fun n hn => by have := scalar_bounds n (hq1.2 n hn); omega)
          have lb2 := toldE_len (M.outE e) ys (fun n hn => by have := scalar_bounds n (hq2.2 n hn); omega)
          have lab : a.length + b.length ≤ 9223372036854775807 := by omega
          by_cases hl : 3000 < (xs ++ ys).length
          · have h5 : M.encE e 1 (xs ++ ys) = ([], 2) := by
              have : M.points (xs ++ ys) = 2 := by rw [M.points, if_pos hl]
              rw [hE 1 (xs ++ ys) (.inr rfl), this, if_pos (by decide)]
            rcases h4 with h4 | h4
            · exact told_long_a e v1 v2 xs ys w hv1 hv2 hl1 hl2 htab a b g6 (Lib.hid h1) (Lib.hid h2) (Lib.hid h5) (Lib.hid h4)
            · exact told_long_b e v1 v2 xs ys w hv1 hv2 hl1 hl2 htab a b g6 (Lib.hid h1) (Lib.hid h2) (Lib.hid h5) (Lib.hid h4)
          · have h5 : M.encE e 1 (xs ++ ys) = (a ++ b, 0) := by
              have : M.points (xs ++ ys) = 0 := by
                rw [M.points, if_neg hl, if_pos]
                rw [List.all_append, Bool.and_eq_true, List.all_eq_true, List.all_eq_true]
                exact ⟨hq1.2, hq2.2⟩
              rw [hE 1 (xs ++ ys) (.inr rfl), this, if_neg (by decide), if_pos rfl, M.toldE_app, M.writeE_app _ _ _ a b ho6 ha hb]
            rcases h4 with h4 | h4
            · exact told_both_a e v1 v2 xs ys w hv1 hv2 hl1 hl2 htab a b g6 lab (Lib.hid h1) (Lib.hid h2) (Lib.hid h5) (Lib.hid h4)
            · exact told_both_b e v1 v2 xs ys w hv1 hv2 hl1 hl2 htab a b g6 lab (Lib.hid h1) (Lib.hid h2) (Lib.hid h5) (Lib.hid h4)
      · have g2 : (M.points ys != 0) = true := by simpa using hp2
        have h2 : M.encE e 1 ys = ([], M.points ys) := by rw [hE 1 ys (.inr rfl), if_pos hp2]
        rcases h4 with h4 | h4
        · exact told_half_a e v1 v2 xs ys w hv1 hv2 hl1 hl2 htab _ k a c g2 (Lib.hid h1) (Lib.hid h2) (Lib.hid h3) (Lib.hid h4)
        · exact told_half_b e v1 v2 xs ys w hv1 hv2 hl1 hl2 htab _ k a c g2 (Lib.hid h1) (Lib.hid h2) (Lib.hid h3) (Lib.hid h4)
    · obtain ⟨b, k2, h2⟩ : ∃ c k, M.encE e 1 ys = (c, k) := ⟨_, _, rfl⟩
      have h1 : M.encE e 1 xs = ([], M.points xs) := by rw [hE 1 xs (.inr rfl), if_pos hp1]
      have h4 : M.encE e 0 xs = ([], M.points xs) := by rw [hE 0 xs (.inl rfl), if_pos hp1]
      exact told_bad e v1 v2 xs ys w hv1 hv2 hl1 hl2 htab _ k2 k b c (by simpa using hp1) (by simpa using hp1) (by rcases points_vals xs with h | h | h <;> rw [h] <;> rfl) (Lib.hid h1) (Lib.hid h2) (Lib.hid h3) (Lib.hid h4)
end Go.Proofs.YtbddfefcgfenfaaDoor

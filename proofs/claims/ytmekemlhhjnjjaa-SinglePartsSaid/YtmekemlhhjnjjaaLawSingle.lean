/-
  The walks of the laws on encodings of a byte a sign.
-/
import Derived.Test.YtmekemlhhjnjjaaRSingle
import Derived.Test.YtmekemlhhjnjjaaRLong
import Derived.Deep.RegionWith
namespace Go.Proofs.Ytmekemlhhjnjjaa
open Go.RowKit

theorem sdec_to (user : Bool) (s : ByteArray) (xs : List Int) (n : Int) (h : M.decS user s.data.toList = (xs, n)) (w : World) : Calls Try.prog 25 #[.bool user, .string s] w fun e w' => ∃ v, e = .returned (.tuple #[v, .int .i64 n]) ∧ Own w.heap.size 3 w' v (xs.map (Value.int .i64)) ∧ Bel w w' := by
  have := decode_any user s w; rw [h] at this; exact this
theorem stell_to (user : Bool) (p n k : Int) (h : M.tellsS user p = (n, k)) (w : World) : Calls Try.prog 26 #[.bool user, .int .i64 p] w fun e w' => e = .returned (.tuple #[.int .i64 n, .int .i64 k]) ∧ Bel w w' := by
  have := tells_any user p w; rw [h] at this; exact this
theorem senc_to (user : Bool) (v : Value) (xs : List Int) (l : List UInt8) (k : Int) (h : M.encS user xs = (l, k)) (w : World) (hv : IntSl w v xs) (hbd : ∀ n ∈ xs, -9223372036854775808 ≤ n ∧ n ≤ 9223372036854775807) :
    Calls Try.prog 27 #[.bool user, v] w fun e w' => e = .returned (.tuple #[.string ⟨l.toArray⟩, .int .i64 k]) ∧ Bel w w' := by
  have := encode_any user v xs w hv hbd; rw [h] at this; exact this

set_option maxRecDepth 100000 in
theorem singleBegun_any (w : World) : Calls Try.prog 32 #[] w fun e w' => e = .returned (.bool true) ∧ Bel w w' := by
  have f1 := Lib.hid (show M.decS false [97, 128, 255] = ([97, 8364, 255], 0) by decide +kernel)
  have f2 := Lib.hid (show M.decS true [97, 128, 255] = ([97, 63360, 63487], 0) by decide +kernel)
  have f3 := Lib.hid (show M.tellsS false 8364 = (128, 0) by decide +kernel)
  have f4 := Lib.hid (show M.tellsS true 8364 = (0, 5) by decide +kernel)
  have f5 := Lib.hid (show M.encS true [63360, 98] = ([128, 98], 0) by decide +kernel)
  go_enter Try.func32, Try.ntmps32
  go_wp2_with fail
  refine (sdec_to false _ _ _ f1.out _).mono ?_
  rintro e w1 ⟨v1, rfl, o1, b1⟩
  go_wp2_with fail
  refine (sdec_to true _ _ _ f2.out _).mono ?_
  rintro e w2 ⟨v2, rfl, o2, b2⟩
  go_wp2_with fail
  refine (stell_to false _ _ _ f3.out _).mono ?_
  rintro e w3 ⟨rfl, b3⟩
  go_wp2_with fail
  refine (stell_to true _ _ _ f4.out _).mono ?_
  rintro e w4 ⟨rfl, b4⟩
  go_wp2_with fail
  refine (senc_to true _ _ _ _ f5.out _ (IntSl.lit _ _ [63360, 98] (by decide)) (by decide)).mono ?_
  rintro e w5 ⟨rfl, b5⟩
  go_wp2_with fail
  refine (sameInts_yes _ _ _ _ _ (o1.ints.bel (by repeat (first | exact Bel.refl _ | refine Bel.drewN ?_ _ | refine Bel.drew ?_ | refine Bel.alloc ?_ _ | refine Bel.trans ?_ (by assumption) | refine Bel.setCell ?_ (by simp; omega) _))) (IntSl.lit _ _ [97, 8364, 255] (by decide)) rfl).mono ?_
  rintro e w6 ⟨rfl, b6⟩
  go_wp2_with fail
  refine (sameInts_yes _ _ _ _ _ (o2.ints.bel (by repeat (first | exact Bel.refl _ | refine Bel.drewN ?_ _ | refine Bel.drew ?_ | refine Bel.alloc ?_ _ | refine Bel.trans ?_ (by assumption) | refine Bel.setCell ?_ (by simp; omega) _))) (IntSl.lit _ _ [97, 63360, 63487] (by decide)) rfl).mono ?_
  rintro e w7 ⟨rfl, b7⟩
  go_wp2_with fail
  go_ret
  exact ⟨rfl, (by repeat (first | exact Bel.refl _ | refine Bel.drewN ?_ _ | refine Bel.drew ?_ | refine Bel.alloc ?_ _ | refine Bel.trans ?_ (by assumption) | refine Bel.setCell ?_ (by simp; omega) _))⟩

theorem ltl_to (s : ByteArray) (n : Int) (h : M.long s.data.toList = n) (w : World) : Calls Try.prog 28 #[.string s] w fun e w' => e = .returned (.int .i64 n) ∧ w = w' := by
  have := tooLong_any s w; rw [h] at this; exact this
theorem rbyte_to (user : Bool) (p n : Int) (h : M.byteOf user p = n) (w : World) : Calls Try.prog 30 #[.bool user, .int .i64 p] w fun e w' => e = .returned (.int .i64 n) ∧ Bel w w' := by
  have := byteOf_any user p w; rw [h] at this; exact this
theorem rencS_to (user : Bool) (v : Value) (xs : List Int) (l : List UInt8) (k : Int) (h : M.rawS user xs = (l, k)) (w : World) (hv : IntSl w v xs) (hlen : xs.length ≤ 1000000) :
    Calls Try.prog 31 #[.bool user, v] w fun e w' => e = .returned (.tuple #[.string ⟨l.toArray⟩, .bool (k == 0)]) ∧ Bel w w' := by
  have := encodeSingle_any user v xs w hv hlen; rw [h] at this; exact this
set_option maxRecDepth 100000 in
theorem singleTellsTrue (user : Bool) (s : ByteArray) (v : Value) (xs : List Int) (p : Int) (w : World) (hs : s.size ≤ reachBytes) (hv : IntSl w v xs) (hreach : xs.length * 8 ≤ reachBytes) (hbd : ∀ n ∈ xs, -9223372036854775808 ≤ n ∧ n ≤ 9223372036854775807) (_ : -9223372036854775808 ≤ p ∧ p ≤ 9223372036854775807) :
    Calls Try.prog 4 #[.bool user, .string s, v, .int .i64 p] w fun e w' => e = .returned (.bool true) ∧ Bel w w' := by
  simp only [reachBytes] at hs hreach
  obtain ⟨b, hb⟩ : ∃ b, M.byteOf user p = b := ⟨_, rfl⟩
  have Hb := Lib.hid hb
  have hv0 := hv
  obtain ⟨va, vc, rfl, hvc1, hvc2, _, _⟩ := hv0
  unfold maxLen at hvc2
  rcases (show (b < 0 ∧ M.tellsS user p = (0, 5)) ∨ (0 ≤ b ∧ M.tellsS user p = (b, 0)) by
    by_cases h : b < 0
    · exact .inl ⟨h, by rw [M.tellsS, hb, if_pos h]⟩
    · exact .inr ⟨by omega, by rw [M.tellsS, hb, if_neg h]⟩) with ⟨hb0, ht⟩ | ⟨hb0, ht⟩
  all_goals
    have Ht := Lib.hid ht
    clear hb ht
    rcases (show (3000 < s.size ∧ M.decS user s.data.toList = ([], 2) ∧ M.long s.data.toList = 2) ∨ (s.size ≤ 3000 ∧ M.decS user s.data.toList = (M.decodeS user s.data.toList, 0) ∧ M.long s.data.toList = 0) by
      by_cases h : 3000 < s.size
      · exact .inl ⟨h, by rw [M.decS, if_pos (by rw [← Lib.size_eq]; exact h)], by rw [M.long, if_pos (by rw [← Lib.size_eq]; exact h)]⟩
      · exact .inr ⟨by omega, by rw [M.decS, if_neg (by rw [← Lib.size_eq]; exact h)], by rw [M.long, if_neg (by rw [← Lib.size_eq]; exact h)]⟩) with ⟨hs1, hd, hl⟩ | ⟨hs1, hd, hl⟩
    · have Hd := Lib.hid hd
      have Hl := Lib.hid hl
      clear hd hl
      rcases (show (3000 < xs.length ∧ M.encS user xs = ([], 2)) ∨ (xs.length ≤ 3000 ∧ M.encS user xs = M.rawS user xs) by
        by_cases h : 3000 < xs.length
        · exact .inl ⟨h, by rw [M.encS, if_pos h]⟩
        · exact .inr ⟨by omega, by rw [M.encS, if_neg h]⟩) with ⟨hx1, he⟩ | ⟨hx1, he⟩
      · have He := Lib.hid he
        clear he
        go_enter Try.func4, Try.ntmps4
        go_wp2_with (first | (go_at_call 32; refine (singleBegun_any _).mono ?_; rintro e w' ⟨rfl, b9⟩) | (go_at_call 25; refine (sdec_to _ _ _ _ Hd.out _).mono ?_; rintro e w' ⟨v1, rfl, o1, b1⟩) | (go_at_call 26; refine (stell_to _ _ _ _ Ht.out _).mono ?_; rintro e w' ⟨rfl, b2⟩) | (go_at_call 27; refine (senc_to _ _ _ _ _ He.out _ (hv.bel (by repeat (first | exact Bel.refl _ | refine Bel.drewN ?_ _ | refine Bel.drew ?_ | refine Bel.alloc ?_ _ | refine Bel.trans ?_ (by assumption) | refine Bel.setCell ?_ (by simp; omega) _))) hbd).mono ?_; rintro e w' ⟨rfl, b3⟩) | (go_at_call 28; refine (ltl_to _ _ Hl.out _).mono ?_; rintro e w' ⟨rfl, rfl⟩) | (go_at_call 29; refine (decodeSingle_any _ _ _ (by omega)).mono ?_; rintro e w' ⟨v4, rfl, o4, b4⟩) | (go_at_call 30; refine (rbyte_to _ _ _ Hb.out _).mono ?_; rintro e w' ⟨rfl, b5⟩) | (go_at_call 31; refine (rencS_to _ _ _ _ _ Hr.out _ (hv.bel (by repeat (first | exact Bel.refl _ | refine Bel.drewN ?_ _ | refine Bel.drew ?_ | refine Bel.alloc ?_ _ | refine Bel.trans ?_ (by assumption) | refine Bel.setCell ?_ (by simp; omega) _))) (by omega)).mono ?_; rintro e w' ⟨rfl, b6⟩) | (go_at_call 33; refine (intsAre_yes _ _ _ [] 2 _ (o1.ints.bel (by repeat (first | exact Bel.refl _ | refine Bel.drewN ?_ _ | refine Bel.drew ?_ | refine Bel.alloc ?_ _ | refine Bel.trans ?_ (by assumption) | refine Bel.setCell ?_ (by simp; omega) _))) (IntSl.nil_ _) rfl).mono ?_; rintro e w' ⟨rfl, b7⟩))
        go_ret
        exact ⟨rfl, (by repeat (first | exact Bel.refl _ | refine Bel.drewN ?_ _ | refine Bel.drew ?_ | refine Bel.alloc ?_ _ | refine Bel.trans ?_ (by assumption) | refine Bel.setCell ?_ (by simp; omega) _))⟩
      · rcases M.rawS_cases user xs with hr | ⟨l, hr⟩
        all_goals
          have He := Lib.hid (he.trans hr)
          have Hr := Lib.hid hr
          clear he hr
          go_enter Try.func4, Try.ntmps4
          go_wp2_with (first | (go_at_call 32; refine (singleBegun_any _).mono ?_; rintro e w' ⟨rfl, b9⟩) | (go_at_call 25; refine (sdec_to _ _ _ _ Hd.out _).mono ?_; rintro e w' ⟨v1, rfl, o1, b1⟩) | (go_at_call 26; refine (stell_to _ _ _ _ Ht.out _).mono ?_; rintro e w' ⟨rfl, b2⟩) | (go_at_call 27; refine (senc_to _ _ _ _ _ He.out _ (hv.bel (by repeat (first | exact Bel.refl _ | refine Bel.drewN ?_ _ | refine Bel.drew ?_ | refine Bel.alloc ?_ _ | refine Bel.trans ?_ (by assumption) | refine Bel.setCell ?_ (by simp; omega) _))) hbd).mono ?_; rintro e w' ⟨rfl, b3⟩) | (go_at_call 28; refine (ltl_to _ _ Hl.out _).mono ?_; rintro e w' ⟨rfl, rfl⟩) | (go_at_call 29; refine (decodeSingle_any _ _ _ (by omega)).mono ?_; rintro e w' ⟨v4, rfl, o4, b4⟩) | (go_at_call 30; refine (rbyte_to _ _ _ Hb.out _).mono ?_; rintro e w' ⟨rfl, b5⟩) | (go_at_call 31; refine (rencS_to _ _ _ _ _ Hr.out _ (hv.bel (by repeat (first | exact Bel.refl _ | refine Bel.drewN ?_ _ | refine Bel.drew ?_ | refine Bel.alloc ?_ _ | refine Bel.trans ?_ (by assumption) | refine Bel.setCell ?_ (by simp; omega) _))) (by omega)).mono ?_; rintro e w' ⟨rfl, b6⟩) | (go_at_call 33; refine (intsAre_yes _ _ _ [] 2 _ (o1.ints.bel (by repeat (first | exact Bel.refl _ | refine Bel.drewN ?_ _ | refine Bel.drew ?_ | refine Bel.alloc ?_ _ | refine Bel.trans ?_ (by assumption) | refine Bel.setCell ?_ (by simp; omega) _))) (IntSl.nil_ _) rfl).mono ?_; rintro e w' ⟨rfl, b7⟩))
          go_ret
          exact ⟨rfl, (by repeat (first | exact Bel.refl _ | refine Bel.drewN ?_ _ | refine Bel.drew ?_ | refine Bel.alloc ?_ _ | refine Bel.trans ?_ (by assumption) | refine Bel.setCell ?_ (by simp; omega) _))⟩
    · have Hd := Lib.hid hd
      have Hl := Lib.hid hl
      clear hd hl
      rcases (show (3000 < xs.length ∧ M.encS user xs = ([], 2)) ∨ (xs.length ≤ 3000 ∧ M.encS user xs = M.rawS user xs) by
        by_cases h : 3000 < xs.length
        · exact .inl ⟨h, by rw [M.encS, if_pos h]⟩
        · exact .inr ⟨by omega, by rw [M.encS, if_neg h]⟩) with ⟨hx1, he⟩ | ⟨hx1, he⟩
      · have He := Lib.hid he
        clear he
        go_enter Try.func4, Try.ntmps4
        go_wp2_with (first | (go_at_call 32; refine (singleBegun_any _).mono ?_; rintro e w' ⟨rfl, b9⟩) | (go_at_call 25; refine (sdec_to _ _ _ _ Hd.out _).mono ?_; rintro e w' ⟨v1, rfl, o1, b1⟩) | (go_at_call 26; refine (stell_to _ _ _ _ Ht.out _).mono ?_; rintro e w' ⟨rfl, b2⟩) | (go_at_call 27; refine (senc_to _ _ _ _ _ He.out _ (hv.bel (by repeat (first | exact Bel.refl _ | refine Bel.drewN ?_ _ | refine Bel.drew ?_ | refine Bel.alloc ?_ _ | refine Bel.trans ?_ (by assumption) | refine Bel.setCell ?_ (by simp; omega) _))) hbd).mono ?_; rintro e w' ⟨rfl, b3⟩) | (go_at_call 28; refine (ltl_to _ _ Hl.out _).mono ?_; rintro e w' ⟨rfl, rfl⟩) | (go_at_call 29; refine (decodeSingle_any _ _ _ (by omega)).mono ?_; rintro e w' ⟨v4, rfl, o4, b4⟩) | (go_at_call 30; refine (rbyte_to _ _ _ Hb.out _).mono ?_; rintro e w' ⟨rfl, b5⟩) | (go_at_call 31; refine (rencS_to _ _ _ _ _ Hr.out _ (hv.bel (by repeat (first | exact Bel.refl _ | refine Bel.drewN ?_ _ | refine Bel.drew ?_ | refine Bel.alloc ?_ _ | refine Bel.trans ?_ (by assumption) | refine Bel.setCell ?_ (by simp; omega) _))) (by omega)).mono ?_; rintro e w' ⟨rfl, b6⟩) | (go_at_call 33; refine (intsAre_yes _ _ _ _ 0 _ (o1.ints.bel (by repeat (first | exact Bel.refl _ | refine Bel.drewN ?_ _ | refine Bel.drew ?_ | refine Bel.alloc ?_ _ | refine Bel.trans ?_ (by assumption) | refine Bel.setCell ?_ (by simp; omega) _))) (o4.ints.bel (by repeat (first | exact Bel.refl _ | refine Bel.drewN ?_ _ | refine Bel.drew ?_ | refine Bel.alloc ?_ _ | refine Bel.trans ?_ (by assumption) | refine Bel.setCell ?_ (by simp; omega) _))) rfl).mono ?_; rintro e w' ⟨rfl, b7⟩))
        go_ret
        exact ⟨rfl, (by repeat (first | exact Bel.refl _ | refine Bel.drewN ?_ _ | refine Bel.drew ?_ | refine Bel.alloc ?_ _ | refine Bel.trans ?_ (by assumption) | refine Bel.setCell ?_ (by simp; omega) _))⟩
      · rcases M.rawS_cases user xs with hr | ⟨l, hr⟩
        all_goals
          have He := Lib.hid (he.trans hr)
          have Hr := Lib.hid hr
          clear he hr
          go_enter Try.func4, Try.ntmps4
          go_wp2_with (first | (go_at_call 32; refine (singleBegun_any _).mono ?_; rintro e w' ⟨rfl, b9⟩) | (go_at_call 25; refine (sdec_to _ _ _ _ Hd.out _).mono ?_; rintro e w' ⟨v1, rfl, o1, b1⟩) | (go_at_call 26; refine (stell_to _ _ _ _ Ht.out _).mono ?_; rintro e w' ⟨rfl, b2⟩) | (go_at_call 27; refine (senc_to _ _ _ _ _ He.out _ (hv.bel (by repeat (first | exact Bel.refl _ | refine Bel.drewN ?_ _ | refine Bel.drew ?_ | refine Bel.alloc ?_ _ | refine Bel.trans ?_ (by assumption) | refine Bel.setCell ?_ (by simp; omega) _))) hbd).mono ?_; rintro e w' ⟨rfl, b3⟩) | (go_at_call 28; refine (ltl_to _ _ Hl.out _).mono ?_; rintro e w' ⟨rfl, rfl⟩) | (go_at_call 29; refine (decodeSingle_any _ _ _ (by omega)).mono ?_; rintro e w' ⟨v4, rfl, o4, b4⟩) | (go_at_call 30; refine (rbyte_to _ _ _ Hb.out _).mono ?_; rintro e w' ⟨rfl, b5⟩) | (go_at_call 31; refine (rencS_to _ _ _ _ _ Hr.out _ (hv.bel (by repeat (first | exact Bel.refl _ | refine Bel.drewN ?_ _ | refine Bel.drew ?_ | refine Bel.alloc ?_ _ | refine Bel.trans ?_ (by assumption) | refine Bel.setCell ?_ (by simp; omega) _))) (by omega)).mono ?_; rintro e w' ⟨rfl, b6⟩) | (go_at_call 33; refine (intsAre_yes _ _ _ _ 0 _ (o1.ints.bel (by repeat (first | exact Bel.refl _ | refine Bel.drewN ?_ _ | refine Bel.drew ?_ | refine Bel.alloc ?_ _ | refine Bel.trans ?_ (by assumption) | refine Bel.setCell ?_ (by simp; omega) _))) (o4.ints.bel (by repeat (first | exact Bel.refl _ | refine Bel.drewN ?_ _ | refine Bel.drew ?_ | refine Bel.alloc ?_ _ | refine Bel.trans ?_ (by assumption) | refine Bel.setCell ?_ (by simp; omega) _))) rfl).mono ?_; rintro e w' ⟨rfl, b7⟩))
          go_ret
          exact ⟨rfl, (by repeat (first | exact Bel.refl _ | refine Bel.drewN ?_ _ | refine Bel.drew ?_ | refine Bel.alloc ?_ _ | refine Bel.trans ?_ (by assumption) | refine Bel.setCell ?_ (by simp; omega) _))⟩
end Go.Proofs.Ytmekemlhhjnjjaa

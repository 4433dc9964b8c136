/-
  The laws of UTF-16.
-/
import Derived.Test.YtmekemlhhjnjjaaLawUtf8
import Derived.Test.YtmekemlhhjnjjaaUtf16b
import Derived.Test.YtmekemlhhjnjjaaRUtf16
namespace Go.Proofs.Ytmekemlhhjnjjaa
open Go.RowKit
set_option maxRecDepth 1000000

theorem dec16_sl (big : Bool) (s : ByteArray) (xs : List Int) (n : Int) (h : M.dec16 big s.data.toList = (xs, n)) (w : World) : Calls Try.prog 35 #[.bool big, .string s] w fun e w' => ∃ A c, e = .returned (.tuple #[.slice A xs.length c, .int .i64 n]) ∧ Own w.heap.size 3 w' (.slice A xs.length c) (xs.map (Value.int .i64)) ∧ Bel w w' := by
  have := dec16_any big s w
  rw [h] at this
  refine this.mono ?_
  rintro e w' ⟨v, rfl, ho, hb⟩
  obtain ⟨A, c, hv, _⟩ := ho.form
  rw [List.length_map] at hv
  subst hv
  exact ⟨A, c, rfl, ho, hb⟩
theorem enc16_to (big : Bool) (v : Value) (xs : List Int) (l : List UInt8) (k : Int) (h : M.enc16 big xs = (l, k)) (w : World) (hv : IntSl w v xs) : Calls Try.prog 36 #[.bool big, v] w fun e w' => e = .returned (.tuple #[.string ⟨l.toArray⟩, .int .i64 k]) ∧ Bel w w' := by
  have := enc16_any big v xs w hv; rw [h] at this; exact this
theorem dec16_ok (big : Bool) (l : List UInt8) (h : l.length ≤ 3000) : M.dec16 big l = (M.all16 big l, 0) := by rw [M.dec16, if_neg (by omega)]
theorem utf16Begun_any (w : World) : Calls Try.prog 40 #[] w fun e w' => e = .returned (.bool true) ∧ Bel w w' := by
  have f1 := Lib.hid (show M.dec16 true [0, 97, 216, 0, 220, 1, 220, 0, 216] = ([97, 65537, 65533, 65533], 0) by decide +kernel)
  have f2 := Lib.hid (show M.enc16 false [97, 65537] = ([97, 0, 0, 216, 1, 220], 0) by decide +kernel)
  go_enter Try.func40, Try.ntmps40
  go_wp2_with fail
  refine (dec16_sl _ _ _ _ f1.out _).mono ?_
  rintro e w1 ⟨A1, c1, rfl, o1, b1⟩
  go_wp2_with fail
  refine (enc16_to _ _ _ _ _ f2.out _ (IntSl.lit _ _ [97, 65537] (by decide))).mono ?_
  rintro e w2 ⟨rfl, b2⟩
  go_wp2_with fail
  refine (sameInts_yes _ _ _ _ _ (o1.ints.bel (by repeat (first | exact Bel.refl _ | refine Bel.drewN ?_ _ | refine Bel.drew ?_ | refine Bel.alloc ?_ _ | refine Bel.trans ?_ (by assumption) | refine Bel.setCell ?_ (by simp; omega) _))) (IntSl.lit _ _ [97, 65537, 65533, 65533] (by decide)) rfl).mono ?_
  rintro e w4 ⟨rfl, b4⟩
  go_wp2_with fail
  go_ret
  exact ⟨rfl, (by repeat (first | exact Bel.refl _ | refine Bel.drewN ?_ _ | refine Bel.drew ?_ | refine Bel.alloc ?_ _ | refine Bel.trans ?_ (by assumption) | refine Bel.setCell ?_ (by simp; omega) _))⟩
theorem decodeUtf16_to (big : Bool) (s : ByteArray) (xs : List Int) (l : List UInt8) (h : M.told16 big s.data.toList = (xs, l)) (hs : s.size ≤ 68719476735) (w : World) : Calls Try.prog 74 #[.bool big, .string s] w fun e w' => ∃ v, e = .returned (.tuple #[v, .string ⟨l.toArray⟩]) ∧ Own w.heap.size 3 w' v (xs.map (Value.int .i64)) ∧ Bel w w' := by
  have := decodeUtf16_any big s hs w; rw [h] at this; exact this
theorem allUtf16_any (big : Bool) (s : ByteArray) (hs : s.size ≤ 68719476734) (w : World) : Calls Try.prog 38 #[.bool big, .string s] w fun e w' => ∃ v, e = .returned v ∧ Own w.heap.size 3 w' v ((M.all16 big s.data.toList).map (Value.int .i64)) ∧ Bel w w' := by
  obtain ⟨⟨xs, l⟩, ht⟩ : ∃ r, M.told16 big s.data.toList = r := ⟨_, rfl⟩
  have hlen := (M.told16_len big _ s.data.toList (Nat.le_refl _)).1
  rw [ht, ← Lib.size_eq] at hlen
  have Ht := Lib.hid ht
  by_cases he : l = []
  · subst he
    have HA := Lib.hid (show M.all16 big s.data.toList = xs by rw [M.all16, ht, if_pos rfl])
    clear ht hlen
    go_enter Try.func38, Try.ntmps38
    go_wp2_with (go_at_call 74; refine (decodeUtf16_to _ _ _ _ Ht.out (by omega) _).mono ?_; rintro e w' ⟨v, rfl, ho, hb⟩)
    go_ret
    rw [HA.out]
    exact ⟨_, rfl, by assumption, by assumption⟩
  · have HA := Lib.hid (show M.all16 big s.data.toList = xs ++ [65533] by rw [M.all16, ht, if_neg he])
    have e1 : (!l.isEmpty) = true := by simpa using he
    have hl2 : xs.length ≤ s.size := by simp only at hlen; omega
    clear ht hlen he
    go_enter Try.func38, Try.ntmps38
    go_wp2_with (first | (go_at_call 74; refine (decodeUtf16_to _ _ _ _ Ht.out (by omega) _).mono ?_; rintro e w' ⟨v, rfl, ho, hb⟩; have hB := hb.size) | (at_builtin; refine wpList_app rfl (.tmp 15) (.tmp 16) 30 rfl elemInt (by decide) w.heap.size _ _ _ rfl rfl ho rfl (by simp; omega) (by first | exact Nat.le_refl _ | assumption | (have := hb.size; omega)) ?_; intro v' w1 hown' hb1))
    go_ret
    rw [HA.out]
    exact ⟨_, rfl, by rw [List.map_append]; exact hown', hb.upto hb1 (Nat.le_refl _)⟩
set_option maxHeartbeats 4000000 in
theorem utf16TellsTrue (big : Bool) (s : ByteArray) (v : Value) (xs : List Int) (w : World) (hs : s.size ≤ reachBytes) (hv : IntSl w v xs) (_ : xs.length * 8 ≤ reachBytes) (_ : ∀ n ∈ xs, -9223372036854775808 ≤ n ∧ n ≤ 9223372036854775807) : Calls Try.prog 7 #[.bool big, .string s, v] w fun e w' => e = .returned (.bool true) ∧ Bel w w' := by
  simp only [reachBytes] at hs
  have hv0 := hv
  obtain ⟨va, vc, rfl, hvc1, hvc2, _, _⟩ := hv0
  unfold maxLen at hvc2
  obtain ⟨p, hp⟩ : ∃ p, M.points xs = p := ⟨_, rfl⟩
  have Hp := Lib.hid hp
  rcases long_cases s with ⟨hs1, hl⟩ | ⟨hs1, hl⟩
  · have Hl := Lib.hid hl
    have Hd := Lib.hid (show M.dec16 big s.data.toList = ([], 2) by rw [M.dec16, if_pos (by rw [← Lib.size_eq]; exact hs1)])
    clear hl
    by_cases h0 : p = 0
    · subst h0
      obtain ⟨q1, q2⟩ := points_scalars xs hp
      have hsc : ∀ n ∈ xs, 0 ≤ n ∧ n ≤ 1114111 := fun n hn => ⟨(scalar_bounds n (q2 n hn)).1, (scalar_bounds n (q2 n hn)).2.1⟩
      have He := Lib.hid (show M.enc16 big xs = (M.bytes16 big xs, 0) by rw [M.enc16, if_pos hp])
      clear hp q2
      go_enter Try.func7, Try.ntmps7
      go_wp2_with fail
      refine (dec16_sl _ _ _ _ Hd.out _).mono ?_
      rintro e w1 ⟨A1, c1, rfl, o1, b1⟩
      go_wp2_with fail
      refine (enc16_to _ _ _ _ _ He.out _ (hv.bel (by repeat (first | exact Bel.refl _ | refine Bel.drewN ?_ _ | refine Bel.drew ?_ | refine Bel.alloc ?_ _ | refine Bel.trans ?_ (by assumption) | refine Bel.setCell ?_ (by simp; omega) _)))).mono ?_
      rintro e w2 ⟨rfl, b2⟩
      go_wp2_with fail
      refine (long_to _ _ Hl.out _).mono ?_
      rintro e w3' ⟨rfl, rfl⟩
      go_wp2_with fail
      refine (checkPoints_to _ _ _ Hp.out _ (hv.bel (by repeat (first | exact Bel.refl _ | refine Bel.drewN ?_ _ | refine Bel.drew ?_ | refine Bel.alloc ?_ _ | refine Bel.trans ?_ (by assumption) | refine Bel.setCell ?_ (by simp; omega) _)))).mono ?_
      rintro e w3' ⟨rfl, rfl⟩
      go_wp2_with fail
      refine (encodeUtf16_any _ _ _ _ (hv.bel (by repeat (first | exact Bel.refl _ | refine Bel.drewN ?_ _ | refine Bel.drew ?_ | refine Bel.alloc ?_ _ | refine Bel.trans ?_ (by assumption) | refine Bel.setCell ?_ (by simp; omega) _))) (by omega) hsc).mono ?_
      rintro e w7 ⟨rfl, b7⟩
      go_wp2_with fail
      refine (utf16Begun_any _).mono ?_
      rintro e w8 ⟨rfl, b8⟩
      go_wp2_with fail
      refine (intsAre_yes _ _ _ [] _ _ (o1.ints.bel (by repeat (first | exact Bel.refl _ | refine Bel.drewN ?_ _ | refine Bel.drew ?_ | refine Bel.alloc ?_ _ | refine Bel.trans ?_ (by assumption) | refine Bel.setCell ?_ (by simp; omega) _))) (IntSl.nil_ _) rfl).mono ?_
      rintro e w9 ⟨rfl, b9⟩
      go_wp2_with fail
      go_ret
      exact ⟨rfl, (by repeat (first | exact Bel.refl _ | refine Bel.drewN ?_ _ | refine Bel.drew ?_ | refine Bel.alloc ?_ _ | refine Bel.trans ?_ (by assumption) | refine Bel.setCell ?_ (by simp; omega) _))⟩
    · have He := Lib.hid (show M.enc16 big xs = ([], p) by rw [M.enc16, if_neg (by rw [hp]; exact h0), hp])
      have hne : (p == 0) = false := by simpa using h0
      clear hp h0
      go_enter Try.func7, Try.ntmps7
      go_wp2_with fail
      refine (dec16_sl _ _ _ _ Hd.out _).mono ?_
      rintro e w1 ⟨A1, c1, rfl, o1, b1⟩
      go_wp2_with fail
      refine (enc16_to _ _ _ _ _ He.out _ (hv.bel (by repeat (first | exact Bel.refl _ | refine Bel.drewN ?_ _ | refine Bel.drew ?_ | refine Bel.alloc ?_ _ | refine Bel.trans ?_ (by assumption) | refine Bel.setCell ?_ (by simp; omega) _)))).mono ?_
      rintro e w2 ⟨rfl, b2⟩
      go_wp2_with fail
      refine (long_to _ _ Hl.out _).mono ?_
      rintro e w3' ⟨rfl, rfl⟩
      go_wp2_with fail
      refine (checkPoints_to _ _ _ Hp.out _ (hv.bel (by repeat (first | exact Bel.refl _ | refine Bel.drewN ?_ _ | refine Bel.drew ?_ | refine Bel.alloc ?_ _ | refine Bel.trans ?_ (by assumption) | refine Bel.setCell ?_ (by simp; omega) _)))).mono ?_
      rintro e w3' ⟨rfl, rfl⟩
      go_wp2_with fail
      refine (utf16Begun_any _).mono ?_
      rintro e w8 ⟨rfl, b8⟩
      go_wp2_with fail
      refine (intsAre_yes _ _ _ [] _ _ (o1.ints.bel (by repeat (first | exact Bel.refl _ | refine Bel.drewN ?_ _ | refine Bel.drew ?_ | refine Bel.alloc ?_ _ | refine Bel.trans ?_ (by assumption) | refine Bel.setCell ?_ (by simp; omega) _))) (IntSl.nil_ _) rfl).mono ?_
      rintro e w9 ⟨rfl, b9⟩
      go_wp2_with fail
      go_ret
      exact ⟨rfl, (by repeat (first | exact Bel.refl _ | refine Bel.drewN ?_ _ | refine Bel.drew ?_ | refine Bel.alloc ?_ _ | refine Bel.trans ?_ (by assumption) | refine Bel.setCell ?_ (by simp; omega) _))⟩
  · have Hl := Lib.hid hl
    have Hd := Lib.hid (dec16_ok big s.data.toList (by rw [← Lib.size_eq]; exact hs1))
    clear hl
    by_cases h0 : p = 0
    · subst h0
      obtain ⟨q1, q2⟩ := points_scalars xs hp
      have hsc : ∀ n ∈ xs, 0 ≤ n ∧ n ≤ 1114111 := fun n hn => ⟨(scalar_bounds n (q2 n hn)).1, (scalar_bounds n (q2 n hn)).2.1⟩
      have He := Lib.hid (show M.enc16 big xs = (M.bytes16 big xs, 0) by rw [M.enc16, if_pos hp])
      clear hp q2
      go_enter Try.func7, Try.ntmps7
      go_wp2_with fail
      refine (dec16_sl _ _ _ _ Hd.out _).mono ?_
      rintro e w1 ⟨A1, c1, rfl, o1, b1⟩
      go_wp2_with fail
      refine (enc16_to _ _ _ _ _ He.out _ (hv.bel (by repeat (first | exact Bel.refl _ | refine Bel.drewN ?_ _ | refine Bel.drew ?_ | refine Bel.alloc ?_ _ | refine Bel.trans ?_ (by assumption) | refine Bel.setCell ?_ (by simp; omega) _)))).mono ?_
      rintro e w2 ⟨rfl, b2⟩
      go_wp2_with fail
      refine (long_to _ _ Hl.out _).mono ?_
      rintro e w3' ⟨rfl, rfl⟩
      go_wp2_with fail
      refine (checkPoints_to _ _ _ Hp.out _ (hv.bel (by repeat (first | exact Bel.refl _ | refine Bel.drewN ?_ _ | refine Bel.drew ?_ | refine Bel.alloc ?_ _ | refine Bel.trans ?_ (by assumption) | refine Bel.setCell ?_ (by simp; omega) _)))).mono ?_
      rintro e w3' ⟨rfl, rfl⟩
      go_wp2_with fail
      refine (allUtf16_any _ _ (by omega) _).mono ?_
      rintro e w4 ⟨v4, rfl, o4, b4⟩
      go_wp2_with fail
      refine (encodeUtf16_any _ _ _ _ (hv.bel (by repeat (first | exact Bel.refl _ | refine Bel.drewN ?_ _ | refine Bel.drew ?_ | refine Bel.alloc ?_ _ | refine Bel.trans ?_ (by assumption) | refine Bel.setCell ?_ (by simp; omega) _))) (by omega) hsc).mono ?_
      rintro e w7 ⟨rfl, b7⟩
      go_wp2_with fail
      refine (utf16Begun_any _).mono ?_
      rintro e w8 ⟨rfl, b8⟩
      go_wp2_with fail
      refine (intsAre_yes _ _ _ _ _ _ (o1.ints.bel (by repeat (first | exact Bel.refl _ | refine Bel.drewN ?_ _ | refine Bel.drew ?_ | refine Bel.alloc ?_ _ | refine Bel.trans ?_ (by assumption) | refine Bel.setCell ?_ (by simp; omega) _))) (o4.ints.bel (by repeat (first | exact Bel.refl _ | refine Bel.drewN ?_ _ | refine Bel.drew ?_ | refine Bel.alloc ?_ _ | refine Bel.trans ?_ (by assumption) | refine Bel.setCell ?_ (by simp; omega) _))) rfl).mono ?_
      rintro e w9 ⟨rfl, b9⟩
      go_wp2_with fail
      go_ret
      exact ⟨rfl, (by repeat (first | exact Bel.refl _ | refine Bel.drewN ?_ _ | refine Bel.drew ?_ | refine Bel.alloc ?_ _ | refine Bel.trans ?_ (by assumption) | refine Bel.setCell ?_ (by simp; omega) _))⟩
    · have He := Lib.hid (show M.enc16 big xs = ([], p) by rw [M.enc16, if_neg (by rw [hp]; exact h0), hp])
      have hne : (p == 0) = false := by simpa using h0
      clear hp h0
      go_enter Try.func7, Try.ntmps7
      go_wp2_with fail
      refine (dec16_sl _ _ _ _ Hd.out _).mono ?_
      rintro e w1 ⟨A1, c1, rfl, o1, b1⟩
      go_wp2_with fail
      refine (enc16_to _ _ _ _ _ He.out _ (hv.bel (by repeat (first | exact Bel.refl _ | refine Bel.drewN ?_ _ | refine Bel.drew ?_ | refine Bel.alloc ?_ _ | refine Bel.trans ?_ (by assumption) | refine Bel.setCell ?_ (by simp; omega) _)))).mono ?_
      rintro e w2 ⟨rfl, b2⟩
      go_wp2_with fail
      refine (long_to _ _ Hl.out _).mono ?_
      rintro e w3' ⟨rfl, rfl⟩
      go_wp2_with fail
      refine (checkPoints_to _ _ _ Hp.out _ (hv.bel (by repeat (first | exact Bel.refl _ | refine Bel.drewN ?_ _ | refine Bel.drew ?_ | refine Bel.alloc ?_ _ | refine Bel.trans ?_ (by assumption) | refine Bel.setCell ?_ (by simp; omega) _)))).mono ?_
      rintro e w3' ⟨rfl, rfl⟩
      go_wp2_with fail
      refine (allUtf16_any _ _ (by omega) _).mono ?_
      rintro e w4 ⟨v4, rfl, o4, b4⟩
      go_wp2_with fail
      refine (utf16Begun_any _).mono ?_
      rintro e w8 ⟨rfl, b8⟩
      go_wp2_with fail
      refine (intsAre_yes _ _ _ _ _ _ (o1.ints.bel (by repeat (first | exact Bel.refl _ | refine Bel.drewN ?_ _ | refine Bel.drew ?_ | refine Bel.alloc ?_ _ | refine Bel.trans ?_ (by assumption) | refine Bel.setCell ?_ (by simp; omega) _))) (o4.ints.bel (by repeat (first | exact Bel.refl _ | refine Bel.drewN ?_ _ | refine Bel.drew ?_ | refine Bel.alloc ?_ _ | refine Bel.trans ?_ (by assumption) | refine Bel.setCell ?_ (by simp; omega) _))) rfl).mono ?_
      rintro e w9 ⟨rfl, b9⟩
      go_wp2_with fail
      go_ret
      exact ⟨rfl, (by repeat (first | exact Bel.refl _ | refine Bel.drewN ?_ _ | refine Bel.drew ?_ | refine Bel.alloc ?_ _ | refine Bel.trans ?_ (by assumption) | refine Bel.setCell ?_ (by simp; omega) _))⟩
end Go.Proofs.Ytmekemlhhjnjjaa

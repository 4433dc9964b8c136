/-
  Utf8Tells.
-/
import Derived.Test.YtmekemlhhjnjjaaLawUtf8
import Derived.Test.YtmekemlhhjnjjaaRUtf8d
namespace Go.Proofs.Ytmekemlhhjnjjaa
open Go.RowKit
set_option maxRecDepth 1000000

theorem long_to (s : ByteArray) (n : Int) (h : M.long s.data.toList = n) (w : World) : Calls Try.prog 28 #[.string s] w fun e w' => e = .returned (.int .i64 n) ∧ w = w' := by
  have := tooLong_any s w; rw [h] at this; exact this
theorem long_cases (s : ByteArray) : (3000 < s.size ∧ M.long s.data.toList = 2) ∨ (s.size ≤ 3000 ∧ M.long s.data.toList = 0) := by
  by_cases h : 3000 < s.size
  · exact .inl ⟨h, by rw [M.long, if_pos (by rw [← Lib.size_eq]; exact h)]⟩
  · exact .inr ⟨by omega, by rw [M.long, if_neg (by rw [← Lib.size_eq]; exact h)]⟩
theorem checkPoints_to (v : Value) (xs : List Int) (n : Int) (h : M.points xs = n) (w : World) (hv : IntSl w v xs) : Calls Try.prog 37 #[v] w fun e w' => e = .returned (.int .i64 n) ∧ w = w' := by
  have := checkPoints_any v xs w hv; rw [h] at this; exact this
theorem decodeUtf8_to (s : ByteArray) (xs : List Int) (l : List UInt8) (h : M.told8 s.data.toList = (xs, l)) (hs : s.size ≤ 68719476735) (w : World) : Calls Try.prog 48 #[.string s] w fun e w' => ∃ v, e = .returned (.tuple #[v, .string ⟨l.toArray⟩]) ∧ Own w.heap.size 3 w' v (xs.map (Value.int .i64)) ∧ Bel w w' := by
  have := decodeUtf8_any s hs w; rw [h] at this; exact this
theorem allUtf8_any (s : ByteArray) (hs : s.size ≤ 68719476734) (w : World) : Calls Try.prog 47 #[.string s] w fun e w' => ∃ v, e = .returned v ∧ Own w.heap.size 3 w' v ((M.all8 s.data.toList).map (Value.int .i64)) ∧ Bel w w' := by
  obtain ⟨⟨xs, l⟩, ht⟩ : ∃ r, M.told8 s.data.toList = r := ⟨_, rfl⟩
  have hlen := M.told8_len s.data.toList
  rw [ht, ← Lib.size_eq] at hlen
  have Ht := Lib.hid ht
  by_cases he : l = []
  · subst he
    have HA := Lib.hid (show M.all8 s.data.toList = xs by rw [M.all8, ht, if_pos rfl])
    clear ht hlen
    go_enter Try.func47, Try.ntmps47
    go_wp2_with (go_at_call 48; refine (decodeUtf8_to _ _ _ Ht.out (by omega) _).mono ?_; rintro e w' ⟨v, rfl, ho, hb⟩)
    go_ret
    rw [HA.out]
    exact ⟨_, rfl, by assumption, by assumption⟩
  · have HA := Lib.hid (show M.all8 s.data.toList = xs ++ [65533] by rw [M.all8, ht, if_neg he])
    have e1 : (!l.isEmpty) = true := by simpa using he
    have hl2 : xs.length ≤ s.size := by simp only at hlen; omega
    clear ht hlen he
    go_enter Try.func47, Try.ntmps47
    go_wp2_with (first | (go_at_call 48; refine (decodeUtf8_to _ _ _ Ht.out (by omega) _).mono ?_; rintro e w' ⟨v, rfl, ho, hb⟩; have hB := hb.size) | (at_builtin; refine wpList_app rfl (.tmp 12) (.tmp 13) 30 rfl elemInt (by decide) w.heap.size _ _ _ rfl rfl ho rfl (by simp; omega) (by first | exact Nat.le_refl _ | assumption | (have := hb.size; omega)) ?_; intro v' w1 hown' hb1))
    go_ret
    rw [HA.out]
    exact ⟨_, rfl, by rw [List.map_append]; exact hown', hb.upto hb1 (Nat.le_refl _)⟩
set_option maxHeartbeats 4000000 in
theorem utf8TellsTrue (s : ByteArray) (v : Value) (xs : List Int) (w : World) (hs : s.size ≤ reachBytes) (hv : IntSl w v xs) (_ : xs.length * 8 ≤ reachBytes) (_ : ∀ n ∈ xs, -9223372036854775808 ≤ n ∧ n ≤ 9223372036854775807) : Calls Try.prog 12 #[.string s, v] w fun e w' => e = .returned (.bool true) ∧ Bel w w' := by
  simp only [reachBytes] at hs
  have hv0 := hv
  obtain ⟨va, vc, rfl, hvc1, hvc2, _, _⟩ := hv0
  unfold maxLen at hvc2
  obtain ⟨p, hp⟩ : ∃ p, M.points xs = p := ⟨_, rfl⟩
  have Hp := Lib.hid hp
  rcases long_cases s with ⟨hs1, hl⟩ | ⟨hs1, hl⟩
  · have Hl := Lib.hid hl
    have Hd := Lib.hid (show M.dec8 s.data.toList = ([], 2) by rw [M.dec8, if_pos (by rw [← Lib.size_eq]; exact hs1)])
    have Hs := Lib.hid (show M.split8 s.data.toList = (0, 2) by rw [M.split8, if_pos (by rw [← Lib.size_eq]; exact hs1)])
    clear hl
    by_cases h0 : p = 0
    · subst h0
      obtain ⟨q1, q2⟩ := points_scalars xs hp
      have hsc : ∀ n ∈ xs, 0 ≤ n ∧ n ≤ 1114111 := fun n hn => ⟨(scalar_bounds n (q2 n hn)).1, (scalar_bounds n (q2 n hn)).2.1⟩
      have He := Lib.hid (show M.enc8 xs = (M.bytes8 xs, 0) by rw [M.enc8, if_pos hp])
      clear hp q2
      go_enter Try.func12, Try.ntmps12
      go_wp2_with fail
      refine (dec8_sl _ _ _ Hd.out _).mono ?_
      rintro e w1 ⟨A1, c1, rfl, o1, b1⟩
      go_wp2_with fail
      refine (enc8_to _ _ _ _ He.out _ (hv.bel (by repeat (first | exact Bel.refl _ | refine Bel.drewN ?_ _ | refine Bel.drew ?_ | refine Bel.alloc ?_ _ | refine Bel.trans ?_ (by assumption) | refine Bel.setCell ?_ (by simp; omega) _)))).mono ?_
      rintro e w2 ⟨rfl, b2⟩
      go_wp2_with fail
      refine (split8_to _ _ _ Hs.out _).mono ?_
      rintro e w3 ⟨rfl, b3⟩
      go_wp2_with fail
      refine (long_to _ _ Hl.out _).mono ?_
      rintro e w3' ⟨rfl, rfl⟩
      go_wp2_with fail
      refine (checkPoints_to _ _ _ Hp.out _ (hv.bel (by repeat (first | exact Bel.refl _ | refine Bel.drewN ?_ _ | refine Bel.drew ?_ | refine Bel.alloc ?_ _ | refine Bel.trans ?_ (by assumption) | refine Bel.setCell ?_ (by simp; omega) _)))).mono ?_
      rintro e w3' ⟨rfl, rfl⟩
      go_wp2_with fail
      refine (encodeUtf8_any _ _ _ (hv.bel (by repeat (first | exact Bel.refl _ | refine Bel.drewN ?_ _ | refine Bel.drew ?_ | refine Bel.alloc ?_ _ | refine Bel.trans ?_ (by assumption) | refine Bel.setCell ?_ (by simp; omega) _))) (by omega) hsc).mono ?_
      rintro e w7 ⟨rfl, b7⟩
      go_wp2_with fail
      refine (utf8Begun_any _).mono ?_
      rintro e w8 ⟨rfl, b8⟩
      go_wp2_with fail
      refine (intsAre_yes _ _ _ [] _ _ (o1.ints.bel (by repeat (first | exact Bel.refl _ | refine Bel.drewN ?_ _ | refine Bel.drew ?_ | refine Bel.alloc ?_ _ | refine Bel.trans ?_ (by assumption) | refine Bel.setCell ?_ (by simp; omega) _))) (IntSl.nil_ _) rfl).mono ?_
      rintro e w9 ⟨rfl, b9⟩
      go_wp2_with fail
      go_ret
      exact ⟨rfl, (by repeat (first | exact Bel.refl _ | refine Bel.drewN ?_ _ | refine Bel.drew ?_ | refine Bel.alloc ?_ _ | refine Bel.trans ?_ (by assumption) | refine Bel.setCell ?_ (by simp; omega) _))⟩
    · have He := Lib.hid (show M.enc8 xs = ([], p) by rw [M.enc8, if_neg (by rw [hp]; exact h0), hp])
      have hne : (p == 0) = false := by simpa using h0
      clear hp h0
      go_enter Try.func12, Try.ntmps12
      go_wp2_with fail
      refine (dec8_sl _ _ _ Hd.out _).mono ?_
      rintro e w1 ⟨A1, c1, rfl, o1, b1⟩
      go_wp2_with fail
      refine (enc8_to _ _ _ _ He.out _ (hv.bel (by repeat (first | exact Bel.refl _ | refine Bel.drewN ?_ _ | refine Bel.drew ?_ | refine Bel.alloc ?_ _ | refine Bel.trans ?_ (by assumption) | refine Bel.setCell ?_ (by simp; omega) _)))).mono ?_
      rintro e w2 ⟨rfl, b2⟩
      go_wp2_with fail
      refine (split8_to _ _ _ Hs.out _).mono ?_
      rintro e w3 ⟨rfl, b3⟩
      go_wp2_with fail
      refine (long_to _ _ Hl.out _).mono ?_
      rintro e w3' ⟨rfl, rfl⟩
      go_wp2_with fail
      refine (checkPoints_to _ _ _ Hp.out _ (hv.bel (by repeat (first | exact Bel.refl _ | refine Bel.drewN ?_ _ | refine Bel.drew ?_ | refine Bel.alloc ?_ _ | refine Bel.trans ?_ (by assumption) | refine Bel.setCell ?_ (by simp; omega) _)))).mono ?_
      rintro e w3' ⟨rfl, rfl⟩
      go_wp2_with fail
      refine (utf8Begun_any _).mono ?_
      rintro e w8 ⟨rfl, b8⟩
      go_wp2_with fail
      refine (intsAre_yes _ _ _ [] _ _ (o1.ints.bel (by repeat (first | exact Bel.refl _ | refine Bel.drewN ?_ _ | refine Bel.drew ?_ | refine Bel.alloc ?_ _ | refine Bel.trans ?_ (by assumption) | refine Bel.setCell ?_ (by simp; omega) _))) (IntSl.nil_ _) rfl).mono ?_
      rintro e w9 ⟨rfl, b9⟩
      go_wp2_with fail
      go_ret
      exact ⟨rfl, (by repeat (first | exact Bel.refl _ | refine Bel.drewN ?_ _ | refine Bel.drew ?_ | refine Bel.alloc ?_ _ | refine Bel.trans ?_ (by assumption) | refine Bel.setCell ?_ (by simp; omega) _))⟩
  · have Hl := Lib.hid hl
    have Hd := Lib.hid (dec8_ok s.data.toList (by rw [← Lib.size_eq]; exact hs1))
    obtain ⟨⟨ys, l⟩, ht⟩ : ∃ r, M.told8 s.data.toList = r := ⟨_, rfl⟩
    have Ht := Lib.hid ht
    have Hs := Lib.hid (show M.split8 s.data.toList = ((l.length : Int), 0) by rw [M.split8, if_neg (by rw [← Lib.size_eq]; omega), ht])
    clear hl ht
    by_cases h0 : p = 0
    · subst h0
      obtain ⟨q1, q2⟩ := points_scalars xs hp
      have hsc : ∀ n ∈ xs, 0 ≤ n ∧ n ≤ 1114111 := fun n hn => ⟨(scalar_bounds n (q2 n hn)).1, (scalar_bounds n (q2 n hn)).2.1⟩
      have He := Lib.hid (show M.enc8 xs = (M.bytes8 xs, 0) by rw [M.enc8, if_pos hp])
      clear hp q2
      go_enter Try.func12, Try.ntmps12
      go_wp2_with fail
      refine (dec8_sl _ _ _ Hd.out _).mono ?_
      rintro e w1 ⟨A1, c1, rfl, o1, b1⟩
      go_wp2_with fail
      refine (enc8_to _ _ _ _ He.out _ (hv.bel (by repeat (first | exact Bel.refl _ | refine Bel.drewN ?_ _ | refine Bel.drew ?_ | refine Bel.alloc ?_ _ | refine Bel.trans ?_ (by assumption) | refine Bel.setCell ?_ (by simp; omega) _)))).mono ?_
      rintro e w2 ⟨rfl, b2⟩
      go_wp2_with fail
      refine (split8_to _ _ _ Hs.out _).mono ?_
      rintro e w3 ⟨rfl, b3⟩
      go_wp2_with fail
      refine (long_to _ _ Hl.out _).mono ?_
      rintro e w3' ⟨rfl, rfl⟩
      go_wp2_with fail
      refine (checkPoints_to _ _ _ Hp.out _ (hv.bel (by repeat (first | exact Bel.refl _ | refine Bel.drewN ?_ _ | refine Bel.drew ?_ | refine Bel.alloc ?_ _ | refine Bel.trans ?_ (by assumption) | refine Bel.setCell ?_ (by simp; omega) _)))).mono ?_
      rintro e w3' ⟨rfl, rfl⟩
      go_wp2_with fail
      refine (allUtf8_any _ (by omega) _).mono ?_
      rintro e w4 ⟨v4, rfl, o4, b4⟩
      go_wp2_with fail
      refine (decodeUtf8_to _ _ _ Ht.out (by omega) _).mono ?_
      rintro e w5 ⟨v5, rfl, _, b5⟩
      go_wp2_with fail
      refine (encodeUtf8_any _ _ _ (hv.bel (by repeat (first | exact Bel.refl _ | refine Bel.drewN ?_ _ | refine Bel.drew ?_ | refine Bel.alloc ?_ _ | refine Bel.trans ?_ (by assumption) | refine Bel.setCell ?_ (by simp; omega) _))) (by omega) hsc).mono ?_
      rintro e w7 ⟨rfl, b7⟩
      go_wp2_with fail
      refine (utf8Begun_any _).mono ?_
      rintro e w8 ⟨rfl, b8⟩
      go_wp2_with fail
      refine (intsAre_yes _ _ _ _ _ _ (o1.ints.bel (by repeat (first | exact Bel.refl _ | refine Bel.drewN ?_ _ | refine Bel.drew ?_ | refine Bel.alloc ?_ _ | refine Bel.trans ?_ (by assumption) | refine Bel.setCell ?_ (by simp; omega) _))) (o4.ints.bel (by repeat (first | exact Bel.refl _ | refine Bel.drewN ?_ _ | refine Bel.drew ?_ | refine Bel.alloc ?_ _ | refine Bel.trans ?_ (by assumption) | refine Bel.setCell ?_ (by simp; omega) _))) rfl).mono ?_
      rintro e w9 ⟨rfl, b9⟩
      go_wp2_with fail
      go_ret
      exact ⟨rfl, (by repeat (first | exact Bel.refl _ | refine Bel.drewN ?_ _ | refine Bel.drew ?_ | refine Bel.alloc ?_ _ | refine Bel.trans ?_ (by assumption) | refine Bel.setCell ?_ (by simp; omega) _))⟩
    · have He := Lib.hid (show M.enc8 xs = ([], p) by rw [M.enc8, if_neg (by rw [hp]; exact h0), hp])
      have hne : (p == 0) = false := by simpa using h0
      clear hp h0
      go_enter Try.func12, Try.ntmps12
      go_wp2_with fail
      refine (dec8_sl _ _ _ Hd.out _).mono ?_
      rintro e w1 ⟨A1, c1, rfl, o1, b1⟩
      go_wp2_with fail
      refine (enc8_to _ _ _ _ He.out _ (hv.bel (by repeat (first | exact Bel.refl _ | refine Bel.drewN ?_ _ | refine Bel.drew ?_ | refine Bel.alloc ?_ _ | refine Bel.trans ?_ (by assumption) | refine Bel.setCell ?_ (by simp; omega) _)))).mono ?_
      rintro e w2 ⟨rfl, b2⟩
      go_wp2_with fail
      refine (split8_to _ _ _ Hs.out _).mono ?_
      rintro e w3 ⟨rfl, b3⟩
      go_wp2_with fail
      refine (long_to _ _ Hl.out _).mono ?_
      rintro e w3' ⟨rfl, rfl⟩
      go_wp2_with fail
      refine (checkPoints_to _ _ _ Hp.out _ (hv.bel (by repeat (first | exact Bel.refl _ | refine Bel.drewN ?_ _ | refine Bel.drew ?_ | refine Bel.alloc ?_ _ | refine Bel.trans ?_ (by assumption) | refine Bel.setCell ?_ (by simp; omega) _)))).mono ?_
      rintro e w3' ⟨rfl, rfl⟩
      go_wp2_with fail
      refine (allUtf8_any _ (by omega) _).mono ?_
      rintro e w4 ⟨v4, rfl, o4, b4⟩
      go_wp2_with fail
      refine (decodeUtf8_to _ _ _ Ht.out (by omega) _).mono ?_
      rintro e w5 ⟨v5, rfl, _, b5⟩
      go_wp2_with fail
      refine (utf8Begun_any _).mono ?_
      rintro e w8 ⟨rfl, b8⟩
      go_wp2_with fail
      refine (intsAre_yes _ _ _ _ _ _ (o1.ints.bel (by repeat (first | exact Bel.refl _ | refine Bel.drewN ?_ _ | refine Bel.drew ?_ | refine Bel.alloc ?_ _ | refine Bel.trans ?_ (by assumption) | refine Bel.setCell ?_ (by simp; omega) _))) (o4.ints.bel (by repeat (first | exact Bel.refl _ | refine Bel.drewN ?_ _ | refine Bel.drew ?_ | refine Bel.alloc ?_ _ | refine Bel.trans ?_ (by assumption) | refine Bel.setCell ?_ (by simp; omega) _))) rfl).mono ?_
      rintro e w9 ⟨rfl, b9⟩
      go_wp2_with fail
      go_ret
      exact ⟨rfl, (by repeat (first | exact Bel.refl _ | refine Bel.drewN ?_ _ | refine Bel.drew ?_ | refine Bel.alloc ?_ _ | refine Bel.trans ?_ (by assumption) | refine Bel.setCell ?_ (by simp; omega) _))⟩
end Go.Proofs.Ytmekemlhhjnjjaa

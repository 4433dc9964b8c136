/-
  The laws of UTF-8 that stand without the document's answer.
-/
import Derived.Test.YtmekemlhhjnjjaaRUtf8
import Derived.Test.YtmekemlhhjnjjaaPlainUtf8b
import Derived.Test.YtmekemlhhjnjjaaUtf8b
import Derived.Test.YtmekemlhhjnjjaaRLong
namespace Go.Proofs.Ytmekemlhhjnjjaa
open Go.RowKit
set_option maxRecDepth 1000000

theorem dec8_sl (s : ByteArray) (xs : List Int) (n : Int) (h : M.dec8 s.data.toList = (xs, n)) (w : World) : Calls Try.prog 44 #[.string s] w fun e w' => ∃ A c, e = .returned (.tuple #[.slice A xs.length c, .int .i64 n]) ∧ Own w.heap.size 3 w' (.slice A xs.length c) (xs.map (Value.int .i64)) ∧ Bel w w' := by
  have := dec8_any s w
  rw [h] at this
  refine this.mono ?_
  rintro e w' ⟨v, rfl, ho, hb⟩
  obtain ⟨A, c, hv, _⟩ := ho.form
  rw [List.length_map] at hv
  subst hv
  exact ⟨A, c, rfl, ho, hb⟩
theorem enc8_to (v : Value) (xs : List Int) (l : List UInt8) (k : Int) (h : M.enc8 xs = (l, k)) (w : World) (hv : IntSl w v xs) : Calls Try.prog 45 #[v] w fun e w' => e = .returned (.tuple #[.string ⟨l.toArray⟩, .int .i64 k]) ∧ Bel w w' := by
  have := enc8_any v xs w hv; rw [h] at this; exact this
theorem split8_to (s : ByteArray) (n k : Int) (h : M.split8 s.data.toList = (n, k)) (w : World) : Calls Try.prog 46 #[.string s] w fun e w' => e = .returned (.tuple #[.int .i64 n, .int .i64 k]) ∧ Bel w w' := by
  have := split8_any s w; rw [h] at this; exact this
theorem dec8_ok (l : List UInt8) (h : l.length ≤ 3000) : M.dec8 l = (M.all8 l, 0) := by rw [M.dec8, if_neg (by omega)]
theorem long_to (s : ByteArray) (n : Int) (h : M.long s.data.toList = n) (w : World) : Calls Try.prog 28 #[.string s] w fun e w' => e = .returned (.int .i64 n) ∧ w = w' := by
  have := tooLong_any s w; rw [h] at this; exact this
theorem long_cases (s : ByteArray) : (3000 < s.size ∧ M.long s.data.toList = 2) ∨ (s.size ≤ 3000 ∧ M.long s.data.toList = 0) := by
  by_cases h : 3000 < s.size
  · exact .inl ⟨h, by rw [M.long, if_pos (by rw [← Lib.size_eq]; exact h)]⟩
  · exact .inr ⟨by omega, by rw [M.long, if_neg (by rw [← Lib.size_eq]; exact h)]⟩
theorem checkPoints_to (v : Value) (xs : List Int) (n : Int) (h : M.points xs = n) (w : World) (hv : IntSl w v xs) : Calls Try.prog 37 #[v] w fun e w' => e = .returned (.int .i64 n) ∧ w = w' := by
  have := checkPoints_any v xs w hv; rw [h] at this; exact this
theorem utf8Begun_any (w : World) : Calls Try.prog 50 #[] w fun e w' => e = .returned (.bool true) ∧ Bel w w' := by
  have f1 := Lib.hid (show M.dec8 [97, 226, 130, 172, 226, 130, 192, 240] = ([97, 8364, 65533, 65533, 65533], 0) by decide +kernel)
  have f2 := Lib.hid (show M.enc8 [8364, 1114111] = ([226, 130, 172, 244, 143, 191, 191], 0) by decide +kernel)
  have f3 := Lib.hid (show M.split8 [97, 226, 130] = (2, 0) by decide +kernel)
  go_enter Try.func50, Try.ntmps50
  go_wp2_with fail
  refine (dec8_sl _ _ _ f1.out _).mono ?_
  rintro e w1 ⟨A1, c1, rfl, o1, b1⟩
  go_wp2_with fail
  refine (enc8_to _ _ _ _ f2.out _ (IntSl.lit _ _ [8364, 1114111] (by decide))).mono ?_
  rintro e w2 ⟨rfl, b2⟩
  go_wp2_with fail
  refine (split8_to _ _ _ f3.out _).mono ?_
  rintro e w3 ⟨rfl, b3⟩
  go_wp2_with fail
  refine (sameInts_yes _ _ _ _ _ (o1.ints.bel (by repeat (first | exact Bel.refl _ | refine Bel.drewN ?_ _ | refine Bel.drew ?_ | refine Bel.alloc ?_ _ | refine Bel.trans ?_ (by assumption) | refine Bel.setCell ?_ (by simp; omega) _))) (IntSl.lit _ _ [97, 8364, 65533, 65533, 65533] (by decide)) rfl).mono ?_
  rintro e w4 ⟨rfl, b4⟩
  go_wp2_with fail
  go_ret
  exact ⟨rfl, (by repeat (first | exact Bel.refl _ | refine Bel.drewN ?_ _ | refine Bel.drew ?_ | refine Bel.alloc ?_ _ | refine Bel.trans ?_ (by assumption) | refine Bel.setCell ?_ (by simp; omega) _))⟩
theorem utf8ManyTrue (s : ByteArray) (w : World) (hs : s.size ≤ reachBytes) : Calls Try.prog 15 #[.string s] w fun e w' => e = .returned (.bool true) ∧ Bel w w' := by
  simp only [reachBytes] at hs
  by_cases h : 3000 < s.size
  · have d1 := Lib.hid (show M.dec8 s.data.toList = ([], 2) by rw [M.dec8, if_pos (by rw [← Lib.size_eq]; exact h)])
    go_enter Try.func15, Try.ntmps15
    go_wp2_with fail
    refine (dec8_sl _ _ _ d1.out _).mono ?_
    rintro e w1 ⟨A1, c1, rfl, o1, b1⟩
    go_wp2_with fail
    refine (utf8Begun_any _).mono ?_
    rintro e w2 ⟨rfl, b2⟩
    go_wp2_with fail
    go_ret
    exact ⟨rfl, (by repeat (first | exact Bel.refl _ | refine Bel.drewN ?_ _ | refine Bel.drew ?_ | refine Bel.alloc ?_ _ | refine Bel.trans ?_ (by assumption) | refine Bel.setCell ?_ (by simp; omega) _))⟩
  · have d1 := Lib.hid (dec8_ok s.data.toList (by rw [← Lib.size_eq]; omega))
    obtain ⟨m1, m2, m3⟩ := M.all8_many _ s.data.toList (Nat.le_refl _)
    obtain ⟨xs, hx⟩ : ∃ xs, xs = M.all8 s.data.toList := ⟨_, rfl⟩
    rw [← hx] at d1 m1 m2 m3
    rw [← Lib.size_eq] at m1 m2
    clear hx
    go_enter Try.func15, Try.ntmps15
    go_wp2_with fail
    refine (dec8_sl _ _ _ d1.out _).mono ?_
    rintro e w1 ⟨A1, c1, rfl, o1, b1⟩
    go_wp2_with fail
    refine (utf8Begun_any _).mono ?_
    rintro e w2 ⟨rfl, b2⟩
    have b12 : Bel w w2 := b1.trans b2
    obtain ⟨a, c, hac, hc1, hc2, hn, hxc⟩ := o1.ints.bel b2
    obtain ⟨rfl, rfl⟩ : A1 = a ∧ c1 = c := by injection hac with h1 _ h3; exact ⟨h1, h3⟩
    unfold maxLen at hc2
    go_wp2_with fail
    go_loop [5] (fun i => ∃ k : Nat, k ≤ xs.length ∧ i = .int .i64 k) (fun i => xs.length - (intOf i).toNat)
    case atStart => exact ⟨0, by omega, rfl⟩
    case round =>
      obtain ⟨k, hk, rfl⟩ := hrel
      by_cases hlt : k < xs.length
      · obtain ⟨y, hy⟩ : ∃ y, xs[k]? = some y := ⟨_, List.getElem?_eq_getElem hlt⟩
        cases A1 with
        | none => exfalso; have h3 := hlt; rw [hn rfl, List.length_nil] at h3; omega
        | some x =>
          have hcell := hxc x rfl k y hy
          obtain ⟨y0, y1, y2⟩ := scalar_bounds y (m3 y (List.mem_of_getElem? hy))
          have i1 : (k : Int) < (xs.length : Int) := by omega
          have i0 : (0 : Int) ≤ (k : Int) := by omega
          clear hxc hn hy m3
          rcases y2 with y2 | y2
          all_goals
            go_wp2_with fail
            go_round
            case rel => exact ⟨k + 1, by omega, by go_num⟩
            case measure => simp [intOf]; omega
      · obtain rfl : k = xs.length := by omega
        go_wp2_with fail
        go_ret
        exact ⟨ret_bool (by simp; omega), b12⟩
theorem take_str (s : ByteArray) (k : Nat) : (s.extract 0 k).data.toList = s.data.toList.take k := by
  rw [Lib.extract_data, List.drop_zero, Nat.sub_zero]
set_option maxHeartbeats 4000000 in
theorem utf8PartsTrue (s t : ByteArray) (w : World) (hs : s.size ≤ reachBytes) (ht : t.size ≤ reachBytes) : Calls Try.prog 14 #[.string s, .string t] w fun e w' => e = .returned (.bool true) ∧ Bel w w' := by
  simp only [reachBytes] at hs ht
  by_cases h : 3000 < s.size
  · have d1 := Lib.hid (show M.split8 s.data.toList = (0, 2) by rw [M.split8, if_pos (by rw [← Lib.size_eq]; exact h)])
    go_enter Try.func14, Try.ntmps14
    go_wp2_with fail
    refine (utf8Begun_any _).mono ?_
    rintro e w1 ⟨rfl, b1⟩
    go_wp2_with fail
    refine (split8_to _ _ _ d1.out _).mono ?_
    rintro e w2 ⟨rfl, b2⟩
    go_wp2_with fail
    go_ret
    exact ⟨rfl, (by repeat (first | exact Bel.refl _ | refine Bel.drewN ?_ _ | refine Bel.drew ?_ | refine Bel.alloc ?_ _ | refine Bel.trans ?_ (by assumption) | refine Bel.setCell ?_ (by simp; omega) _))⟩
  · obtain ⟨⟨xs, r⟩, hx⟩ : ∃ p, M.told8 s.data.toList = p := ⟨_, rfl⟩
    obtain ⟨a, c1, c2, c3, c4, c5⟩ := M.told8_cut _ s.data.toList (Nat.le_refl _)
    have d1 := Lib.hid (show M.split8 s.data.toList = ((r.length : Int), 0) by rw [M.split8, if_neg (by rw [← Lib.size_eq]; exact h), hx])
    rw [hx] at c1 c2 c3 c4 c5
    simp only at c1 c2 c3 c4 c5
    have hsz : s.size = a.length + r.length := by rw [Lib.size_eq, c1, List.length_append]
    by_cases h2 : 3000 < s.size + t.size
    · generalize r.length = q at d1 c2 hsz
      clear hx c1 c3 c4 c5
      go_enter Try.func14, Try.ntmps14
      go_wp2_with fail
      refine (utf8Begun_any _).mono ?_
      rintro e w1 ⟨rfl, b1⟩
      go_wp2_with fail
      refine (split8_to _ _ _ d1.out _).mono ?_
      rintro e w2 ⟨rfl, b2⟩
      go_wp2_with fail
      go_ret
      exact ⟨rfl, (by repeat (first | exact Bel.refl _ | refine Bel.drewN ?_ _ | refine Bel.drew ?_ | refine Bel.alloc ?_ _ | refine Bel.trans ?_ (by assumption) | refine Bel.setCell ?_ (by simp; omega) _))⟩
    · have t1 : (s.extract 0 a.length).data.toList = a := by rw [take_str, c1, List.take_left]
      have t2 : (s.extract a.length s.size).data.toList = r := by rw [drop_str, c1, List.drop_left]
      have d2 := Lib.hid (show M.dec8 (s.extract 0 a.length).data.toList = (xs, 0) by
        rw [t1, dec8_ok _ (by omega), c3])
      have d3 := Lib.hid (show M.dec8 (s.extract a.length s.size ++ t).data.toList = (M.all8 (r ++ t.data.toList), 0) by
        rw [data_append, t2, dec8_ok _ (by rw [List.length_append, ← Lib.size_eq]; omega)])
      have d4 := Lib.hid (show M.dec8 (s ++ t).data.toList = (xs ++ M.all8 (r ++ t.data.toList), 0) by
        rw [data_append, dec8_ok _ (by rw [List.length_append, ← Lib.size_eq, ← Lib.size_eq]; omega), c4])
      have d5 := Lib.hid (show M.dec8 (s.extract a.length s.size).data.toList = (M.all8 r, 0) by
        rw [t2, dec8_ok _ (by omega)])
      have l1 := (M.all8_many _ a (Nat.le_refl _)).1
      have l2 := (M.all8_many _ (r ++ t.data.toList) (Nat.le_refl _)).1
      rw [c3] at l1
      rw [List.length_append, ← Lib.size_eq] at l2
      have HZ := Lib.hid (show r.length ≠ 0 → M.all8 r = [65533] from fun hq => c5 (by intro hh; rw [hh] at hq; exact hq rfl))
      generalize M.all8 (r ++ t.data.toList) = ys at d3 d4 l2
      generalize M.all8 r = zs at d5 HZ
      have hk : (s.size : Int) - (r.length : Int) = (a.length : Int) := by omega
      generalize r.length = q at d1 c2 hsz l2 HZ hk
      generalize a.length = k at d2 d3 d5 hsz l1 hk
      clear hx c1 c3 c4 c5 t1 t2
      have n1 : xs.length ≤ 3000 := by omega
      have n2 : ys.length ≤ 3000 := by omega
      have k1 : k ≤ s.size := by omega
      have k2 : q ≤ s.size := by omega
      clear hsz
      obtain ⟨e1, hz⟩ | ⟨e1, _⟩ : (((q : Int) == 0) = false ∧ zs = [65533]) ∨ (((q : Int) == 0) = true ∧ True) := by
        by_cases hq : q = 0
        · exact .inr ⟨by rw [hq]; rfl, trivial⟩
        · exact .inl ⟨by simpa using hq, HZ.out hq⟩
      · -- something is left
        have Hz := Lib.hid hz
        clear hz
        clear HZ
        go_enter Try.func14, Try.ntmps14
        go_wp2_with fail
        refine (utf8Begun_any _).mono ?_
        rintro e w1 ⟨rfl, b1⟩
        go_wp2_with fail
        refine (split8_to _ _ _ d1.out _).mono ?_
        rintro e w2 ⟨rfl, b2⟩
        go_wp2_with fail
        refine (dec8_sl _ _ _ d2.out _).mono ?_
        rintro e w3 ⟨A3, c3, rfl, o3, b3⟩
        go_wp2_with fail
        refine (dec8_sl _ _ _ d3.out _).mono ?_
        rintro e w4 ⟨A4, c4, rfl, o4, b4⟩
        go_wp2_with fail
        refine (dec8_sl _ _ _ d4.out _).mono ?_
        rintro e w5 ⟨A5, c5, rfl, o5, b5⟩
        go_wp2_with fail
        refine (dec8_sl _ _ _ d5.out _).mono ?_
        rintro e w6 ⟨A6, c6, rfl, o6, b6⟩
        go_wp2_with (first
          | (at_builtin; refine wpList_appInts (.tmp 100) (.tmp 101) 30 rfl elemInt (by decide) w6.heap.size _ _ (Own.empty _ _ (Nat.le_refl _)) _ xs (o3.ints.bel (by repeat (first | exact Bel.refl _ | refine Bel.drewN ?_ _ | refine Bel.drew ?_ | refine Bel.alloc ?_ _ | refine Bel.trans ?_ (by assumption) | refine Bel.setCell ?_ (by simp; omega) _))) (by simp; omega) (by simp) rfl rfl rfl ?_; intro v7 w7 o7 b7; have hb7 : Bel w6 w7 := ((Bel.refl w6).alloc _).upto b7 (by simp))
          | (at_builtin; refine wpList_appInts (.tmp 102) (.tmp 103) 30 rfl elemInt (by decide) w6.heap.size _ _ o7 _ ys (o4.ints.bel (by repeat (first | exact Bel.refl _ | refine Bel.drewN ?_ _ | refine Bel.drew ?_ | refine Bel.alloc ?_ _ | refine Bel.trans ?_ (by assumption) | refine Bel.setCell ?_ (by simp; omega) _))) (by simp; omega) hb7.size rfl rfl rfl ?_; intro v8 w8 o8 b8; have hb8 : Bel w6 w8 := hb7.upto b8 (Nat.le_refl _)))
        have i5 : IntSl w8 (.slice A5 (xs.length + ys.length) c5) (xs ++ ys) := by
          have := o5.ints.bel (b6.trans hb8)
          rwa [List.length_append] at this
        have i8 : IntSl w8 v8 (xs ++ ys) := Own.ints (by simpa using o8)
        refine (sameInts_yes _ _ _ _ _ i5 i8 rfl).mono ?_
        rintro e w9 ⟨rfl, b9⟩
        go_wp2_with fail
        refine (sameInts_yes _ _ _ _ _ (o6.ints.bel (by repeat (first | exact Bel.refl _ | refine Bel.drewN ?_ _ | refine Bel.drew ?_ | refine Bel.alloc ?_ _ | refine Bel.trans ?_ (by assumption) | refine Bel.setCell ?_ (by simp; omega) _))) (IntSl.lit _ _ [65533] (by decide)) Hz.out).mono ?_
        rintro e w10 ⟨rfl, b10⟩
        go_wp2_with fail
        go_ret
        exact ⟨rfl, (by repeat (first | exact Bel.refl _ | refine Bel.drewN ?_ _ | refine Bel.drew ?_ | refine Bel.alloc ?_ _ | refine Bel.trans ?_ (by assumption) | refine Bel.setCell ?_ (by simp; omega) _))⟩
      · -- nothing is left
        clear HZ
        go_enter Try.func14, Try.ntmps14
        go_wp2_with fail
        refine (utf8Begun_any _).mono ?_
        rintro e w1 ⟨rfl, b1⟩
        go_wp2_with fail
        refine (split8_to _ _ _ d1.out _).mono ?_
        rintro e w2 ⟨rfl, b2⟩
        go_wp2_with fail
        refine (dec8_sl _ _ _ d2.out _).mono ?_
        rintro e w3 ⟨A3, c3, rfl, o3, b3⟩
        go_wp2_with fail
        refine (dec8_sl _ _ _ d3.out _).mono ?_
        rintro e w4 ⟨A4, c4, rfl, o4, b4⟩
        go_wp2_with fail
        refine (dec8_sl _ _ _ d4.out _).mono ?_
        rintro e w5 ⟨A5, c5, rfl, o5, b5⟩
        go_wp2_with fail
        refine (dec8_sl _ _ _ d5.out _).mono ?_
        rintro e w6 ⟨A6, c6, rfl, o6, b6⟩
        go_wp2_with (first
          | (at_builtin; refine wpList_appInts (.tmp 100) (.tmp 101) 30 rfl elemInt (by decide) w6.heap.size _ _ (Own.empty _ _ (Nat.le_refl _)) _ xs (o3.ints.bel (by repeat (first | exact Bel.refl _ | refine Bel.drewN ?_ _ | refine Bel.drew ?_ | refine Bel.alloc ?_ _ | refine Bel.trans ?_ (by assumption) | refine Bel.setCell ?_ (by simp; omega) _))) (by simp; omega) (by simp) rfl rfl rfl ?_; intro v7 w7 o7 b7; have hb7 : Bel w6 w7 := ((Bel.refl w6).alloc _).upto b7 (by simp))
          | (at_builtin; refine wpList_appInts (.tmp 102) (.tmp 103) 30 rfl elemInt (by decide) w6.heap.size _ _ o7 _ ys (o4.ints.bel (by repeat (first | exact Bel.refl _ | refine Bel.drewN ?_ _ | refine Bel.drew ?_ | refine Bel.alloc ?_ _ | refine Bel.trans ?_ (by assumption) | refine Bel.setCell ?_ (by simp; omega) _))) (by simp; omega) hb7.size rfl rfl rfl ?_; intro v8 w8 o8 b8; have hb8 : Bel w6 w8 := hb7.upto b8 (Nat.le_refl _)))
        have i5 : IntSl w8 (.slice A5 (xs.length + ys.length) c5) (xs ++ ys) := by
          have := o5.ints.bel (b6.trans hb8)
          rwa [List.length_append] at this
        have i8 : IntSl w8 v8 (xs ++ ys) := Own.ints (by simpa using o8)
        refine (sameInts_yes _ _ _ _ _ i5 i8 rfl).mono ?_
        rintro e w9 ⟨rfl, b9⟩
        go_wp2_with fail
        go_ret
        exact ⟨rfl, (by repeat (first | exact Bel.refl _ | refine Bel.drewN ?_ _ | refine Bel.drew ?_ | refine Bel.alloc ?_ _ | refine Bel.trans ?_ (by assumption) | refine Bel.setCell ?_ (by simp; omega) _))⟩
end Go.Proofs.Ytmekemlhhjnjjaa

/-
  Utf16Parts.
-/
import Derived.Test.YtmekemlhhjnjjaaLawUtf16
namespace Go.Proofs.Ytmekemlhhjnjjaa
open Go.RowKit
set_option maxRecDepth 1000000

theorem app_str (s t : ByteArray) : (s ++ t).data.toList = s.data.toList ++ t.data.toList := data_append s t
theorem turn_snoc : ∀ (l : List UInt8) (a b : UInt8), l.length % 2 = 0 → M.turn16 (l ++ [a, b]) = M.turn16 l ++ [b, a]
  | [], a, b, _ => rfl
  | [_], _, _, h => by simp at h
  | x :: y :: t, a, b, h => by
    simp only [List.length_cons] at h
    rw [List.cons_append, List.cons_append, M.turn16, M.turn16, turn_snoc t a b (by omega)]; rfl
set_option maxHeartbeats 4000000 in
theorem utf16PartsTrue (big : Bool) (s t : ByteArray) (w : World) (hs : s.size ≤ reachBytes) (ht : t.size ≤ reachBytes) : Calls Try.prog 9 #[.bool big, .string s, .string t] w fun e w' => e = .returned (.bool true) ∧ Bel w w' := by
  simp only [reachBytes] at hs ht
  have hm0 : (s.size : Int) % 2 = 0 ∨ (s.size : Int) % 2 = 1 := by omega
  by_cases hodd : (s.size : Int) % 2 = 1
  · have ho : ((s.size : Int) % 2 == 1) = true := by rw [beq_iff_eq]; exact hodd
    clear hodd hm0
    go_enter Try.func9, Try.ntmps9
    go_wp2_with fail
    refine (utf16Begun_any _).mono ?_
    rintro e w0 ⟨rfl, b0⟩
    go_wp2_with fail
    go_ret
    exact ⟨rfl, b0⟩
  · have ho : ((s.size : Int) % 2 == 1) = false := by rw [beq_eq_false_iff_ne]; exact hodd
    have heven : s.data.toList.length % 2 = 0 := by rw [← Lib.size_eq]; omega
    clear hodd hm0
    by_cases h : 3000 < s.size + t.size
    · clear heven
      go_enter Try.func9, Try.ntmps9
      go_wp2_with fail
      refine (utf16Begun_any _).mono ?_
      rintro e w0 ⟨rfl, b0⟩
      go_wp2_with fail
      go_ret
      exact ⟨rfl, b0⟩
    · have d1 := Lib.hid (dec16_ok big s.data.toList (by rw [← Lib.size_eq]; omega))
      have d2 := Lib.hid (dec16_ok big t.data.toList (by rw [← Lib.size_eq]; omega))
      have d3 := Lib.hid (show M.dec16 big (s ++ t).data.toList = (M.all16 big (s.data.toList ++ t.data.toList), 0) by
        rw [data_append, dec16_ok big _ (by rw [List.length_append, ← Lib.size_eq, ← Lib.size_eq]; omega)])
      have l1 := M.all16_len big s.data.toList
      have l2 := M.all16_len big t.data.toList
      rw [← Lib.size_eq] at l1 l2
      obtain ⟨p1, p2⟩ := M.all16_parts big _ s.data.toList t.data.toList (Nat.le_refl _) heven
      have hlast := M.lastHi_byte big _ s.data.toList (Nat.le_refl _) heven
      have hlast0 : s.data.toList = [] → M.lastHi big s.data.toList = false := fun h => by rw [h]; rfl
      have hz := (Lib.size_eq s).symm
      have hat := fun k hk => byte_at s k hk
      by_cases hpos : s.size = 0
      · have hnil : s.data.toList = [] := List.eq_nil_of_length_eq_zero (by rw [hz]; exact hpos)
        rw [p2 (hlast0 hnil)] at d3
        obtain ⟨xs, hx⟩ : ∃ xs, xs = M.all16 big s.data.toList := ⟨_, rfl⟩
        obtain ⟨ys, hy⟩ : ∃ ys, ys = M.all16 big t.data.toList := ⟨_, rfl⟩
        rw [← hx] at d1 d3 l1
        rw [← hy] at d2 d3 l2
        have hle : s.size ≤ 0 := by omega
        clear p1 p2 hlast hlast0 hz hat hnil hx hy hpos heven
        go_enter Try.func9, Try.ntmps9
        go_wp2_with fail
        refine (utf16Begun_any _).mono ?_
        rintro e w0 ⟨rfl, b0⟩
        go_wp2_with fail
        refine (dec16_sl big s _ _ d1.out _).mono ?_
        rintro e w1 ⟨A1, c1, rfl, o1, b1⟩
        go_wp2_with fail
        refine (dec16_sl big t _ _ d2.out _).mono ?_
        rintro e w2 ⟨A2, c2, rfl, o2, b2⟩
        go_wp2_with fail
        refine (dec16_sl big (s ++ t) _ _ d3.out _).mono ?_
        rintro e w3 ⟨A3, c3, rfl, o3, b3⟩
        go_wp2_with (first
          | (at_builtin; refine wpList_appInts (.tmp 87) (.tmp 88) 30 rfl elemInt (by decide) w3.heap.size _ _ (Own.empty _ _ (Nat.le_refl _)) _ xs (o1.ints.bel (by repeat (first | exact Bel.refl _ | refine Bel.drewN ?_ _ | refine Bel.drew ?_ | refine Bel.alloc ?_ _ | refine Bel.trans ?_ (by assumption) | refine Bel.setCell ?_ (by simp; omega) _))) (by simp; omega) (by simp) rfl rfl rfl ?_; intro v4 w4 o4 b4; have hb4 : Bel w3 w4 := ((Bel.refl w3).alloc _).upto b4 (by simp))
          | (at_builtin; refine wpList_appInts (.tmp 89) (.tmp 90) 30 rfl elemInt (by decide) w3.heap.size _ _ o4 _ ys (o2.ints.bel (by repeat (first | exact Bel.refl _ | refine Bel.drewN ?_ _ | refine Bel.drew ?_ | refine Bel.alloc ?_ _ | refine Bel.trans ?_ (by assumption) | refine Bel.setCell ?_ (by simp; omega) _))) (by simp; omega) hb4.size rfl rfl rfl ?_; intro v5 w5 o5 b5; have hb5 : Bel w3 w5 := hb4.upto b5 (Nat.le_refl _)))
        have i3 : IntSl w5 (.slice A3 (xs ++ ys).length c3) (xs ++ ys) := o3.ints.bel hb5
        have i5 : IntSl w5 v5 (xs ++ ys) := Own.ints (by simpa using o5)
        rw [List.length_append] at i3
        refine (sameInts_yes _ _ _ _ _ i3 i5 rfl).mono ?_
        rintro e w6 ⟨rfl, b6⟩
        go_wp2_with fail
        go_ret
        exact ⟨rfl, (by repeat (first | exact Bel.refl _ | refine Bel.drewN ?_ _ | refine Bel.drew ?_ | refine Bel.alloc ?_ _ | refine Bel.trans ?_ (by assumption) | refine Bel.setCell ?_ (by simp; omega) _))⟩
      · have hge : 2 ≤ s.size := by omega
        obtain ⟨c, hc, hcs⟩ : ∃ c, s.data.toList[s.data.toList.length - (if big = true then 2 else 1)]? = some c ∧ M.lastHi big s.data.toList = decide (216 ≤ c.toNat ∧ c.toNat ≤ 219) := by
          have hk : s.data.toList.length - (if big = true then 2 else 1) < s.data.toList.length := by split <;> omega
          refine ⟨_, List.getElem?_eq_getElem hk, hlast (by intro hn; rw [hn] at hz; simp at hz; omega) _ (List.getElem?_eq_getElem hk)⟩
        rw [hz] at hc
        have HP := Lib.hid p2
        obtain ⟨xs, hx⟩ : ∃ xs, xs = M.all16 big s.data.toList := ⟨_, rfl⟩
        obtain ⟨ys, hy⟩ : ∃ ys, ys = M.all16 big t.data.toList := ⟨_, rfl⟩
        obtain ⟨zs, hzz⟩ : ∃ zs, zs = M.all16 big (s.data.toList ++ t.data.toList) := ⟨_, rfl⟩
        rw [← hx] at d1 l1 p1
        rw [← hy] at d2 l2 p1
        rw [← hzz] at d3 p1
        cases big
        · have hc : s.data.toList[s.size - 1]? = some c := by simpa using hc
          have i0 : (s.size : Int) - 1 = ((s.size - 1 : Nat) : Int) := by omega
          obtain ⟨k0, h0⟩ := head_at s (s.size - 1) c hc
          clear hlast hlast0 hat hc heven hz hpos
          by_cases hhi : 216 ≤ c.toNat ∧ c.toNat ≤ 219
          · have j1 : (216 : Int) ≤ (c.toNat : Int) := by omega
            have j2 : (c.toNat : Int) ≤ 219 := by omega
            clear hx hy hzz p2 HP hhi hcs
            go_enter Try.func9, Try.ntmps9
            go_wp2_with fail
            refine (utf16Begun_any _).mono ?_
            rintro e w0 ⟨rfl, b0⟩
            go_wp2_with fail
            refine (dec16_sl _ s _ _ d1.out _).mono ?_
            rintro e w1 ⟨A1, c1, rfl, o1, b1⟩
            go_wp2_with fail
            refine (dec16_sl _ t _ _ d2.out _).mono ?_
            rintro e w2 ⟨A2, c2, rfl, o2, b2⟩
            go_wp2_with fail
            refine (dec16_sl _ (s ++ t) _ _ d3.out _).mono ?_
            rintro e w3 ⟨A3, c3, rfl, o3, b3⟩
            go_wp2_with fail
            go_ret
            exact ⟨ret_bool (by rw [decide_eq_true_eq]; omega), (by repeat (first | exact Bel.refl _ | refine Bel.drewN ?_ _ | refine Bel.drew ?_ | refine Bel.alloc ?_ _ | refine Bel.trans ?_ (by assumption) | refine Bel.setCell ?_ (by simp; omega) _))⟩
          · have hzs : zs = xs ++ ys := by rw [hzz, hx, hy]; exact HP.out (by rw [hcs, decide_eq_false_iff_not]; exact hhi)
            subst hzs
            clear hx hy hzz p2 HP hcs p1
            by_cases j1 : (216 : Int) ≤ (c.toNat : Int)
            · have j2 : (219 : Int) < (c.toNat : Int) := by omega
              clear hhi
              go_enter Try.func9, Try.ntmps9
              go_wp2_with fail
              refine (utf16Begun_any _).mono ?_
              rintro e w0 ⟨rfl, b0⟩
              go_wp2_with fail
              refine (dec16_sl _ s _ _ d1.out _).mono ?_
              rintro e w1 ⟨A1, c1, rfl, o1, b1⟩
              go_wp2_with fail
              refine (dec16_sl _ t _ _ d2.out _).mono ?_
              rintro e w2 ⟨A2, c2, rfl, o2, b2⟩
              go_wp2_with fail
              refine (dec16_sl _ (s ++ t) _ _ d3.out _).mono ?_
              rintro e w3 ⟨A3, c3, rfl, o3, b3⟩
              go_wp2_with (first
                | (at_builtin; refine wpList_appInts (.tmp 87) (.tmp 88) 30 rfl elemInt (by decide) w3.heap.size _ _ (Own.empty _ _ (Nat.le_refl _)) _ xs (o1.ints.bel (by repeat (first | exact Bel.refl _ | refine Bel.drewN ?_ _ | refine Bel.drew ?_ | refine Bel.alloc ?_ _ | refine Bel.trans ?_ (by assumption) | refine Bel.setCell ?_ (by simp; omega) _))) (by simp; omega) (by simp) rfl rfl rfl ?_; intro v4 w4 o4 b4; have hb4 : Bel w3 w4 := ((Bel.refl w3).alloc _).upto b4 (by simp))
                | (at_builtin; refine wpList_appInts (.tmp 89) (.tmp 90) 30 rfl elemInt (by decide) w3.heap.size _ _ o4 _ ys (o2.ints.bel (by repeat (first | exact Bel.refl _ | refine Bel.drewN ?_ _ | refine Bel.drew ?_ | refine Bel.alloc ?_ _ | refine Bel.trans ?_ (by assumption) | refine Bel.setCell ?_ (by simp; omega) _))) (by simp; omega) hb4.size rfl rfl rfl ?_; intro v5 w5 o5 b5; have hb5 : Bel w3 w5 := hb4.upto b5 (Nat.le_refl _)))
              have i3 : IntSl w5 (.slice A3 (xs ++ ys).length c3) (xs ++ ys) := o3.ints.bel hb5
              have i5 : IntSl w5 v5 (xs ++ ys) := Own.ints (by simpa using o5)
              rw [List.length_append] at i3
              refine (sameInts_yes _ _ _ _ _ i3 i5 rfl).mono ?_
              rintro e w6 ⟨rfl, b6⟩
              go_wp2_with fail
              go_ret
              exact ⟨rfl, (by repeat (first | exact Bel.refl _ | refine Bel.drewN ?_ _ | refine Bel.drew ?_ | refine Bel.alloc ?_ _ | refine Bel.trans ?_ (by assumption) | refine Bel.setCell ?_ (by simp; omega) _))⟩
            · clear hhi
              have j2 : (c.toNat : Int) < 216 := by omega
              go_enter Try.func9, Try.ntmps9
              go_wp2_with fail
              refine (utf16Begun_any _).mono ?_
              rintro e w0 ⟨rfl, b0⟩
              go_wp2_with fail
              refine (dec16_sl _ s _ _ d1.out _).mono ?_
              rintro e w1 ⟨A1, c1, rfl, o1, b1⟩
              go_wp2_with fail
              refine (dec16_sl _ t _ _ d2.out _).mono ?_
              rintro e w2 ⟨A2, c2, rfl, o2, b2⟩
              go_wp2_with fail
              refine (dec16_sl _ (s ++ t) _ _ d3.out _).mono ?_
              rintro e w3 ⟨A3, c3, rfl, o3, b3⟩
              go_wp2_with (first
                | (at_builtin; refine wpList_appInts (.tmp 87) (.tmp 88) 30 rfl elemInt (by decide) w3.heap.size _ _ (Own.empty _ _ (Nat.le_refl _)) _ xs (o1.ints.bel (by repeat (first | exact Bel.refl _ | refine Bel.drewN ?_ _ | refine Bel.drew ?_ | refine Bel.alloc ?_ _ | refine Bel.trans ?_ (by assumption) | refine Bel.setCell ?_ (by simp; omega) _))) (by simp; omega) (by simp) rfl rfl rfl ?_; intro v4 w4 o4 b4; have hb4 : Bel w3 w4 := ((Bel.refl w3).alloc _).upto b4 (by simp))
                | (at_builtin; refine wpList_appInts (.tmp 89) (.tmp 90) 30 rfl elemInt (by decide) w3.heap.size _ _ o4 _ ys (o2.ints.bel (by repeat (first | exact Bel.refl _ | refine Bel.drewN ?_ _ | refine Bel.drew ?_ | refine Bel.alloc ?_ _ | refine Bel.trans ?_ (by assumption) | refine Bel.setCell ?_ (by simp; omega) _))) (by simp; omega) hb4.size rfl rfl rfl ?_; intro v5 w5 o5 b5; have hb5 : Bel w3 w5 := hb4.upto b5 (Nat.le_refl _)))
              have i3 : IntSl w5 (.slice A3 (xs ++ ys).length c3) (xs ++ ys) := o3.ints.bel hb5
              have i5 : IntSl w5 v5 (xs ++ ys) := Own.ints (by simpa using o5)
              rw [List.length_append] at i3
              refine (sameInts_yes _ _ _ _ _ i3 i5 rfl).mono ?_
              rintro e w6 ⟨rfl, b6⟩
              go_wp2_with fail
              go_ret
              exact ⟨rfl, (by repeat (first | exact Bel.refl _ | refine Bel.drewN ?_ _ | refine Bel.drew ?_ | refine Bel.alloc ?_ _ | refine Bel.trans ?_ (by assumption) | refine Bel.setCell ?_ (by simp; omega) _))⟩
        · have hc : s.data.toList[s.size - 2]? = some c := by simpa using hc
          have i0 : (s.size : Int) - 2 = ((s.size - 2 : Nat) : Int) := by omega
          obtain ⟨k0, h0⟩ := head_at s (s.size - 2) c hc
          clear hlast hlast0 hat hc heven hz hpos
          by_cases hhi : 216 ≤ c.toNat ∧ c.toNat ≤ 219
          · have j1 : (216 : Int) ≤ (c.toNat : Int) := by omega
            have j2 : (c.toNat : Int) ≤ 219 := by omega
            clear hx hy hzz p2 HP hhi hcs
            go_enter Try.func9, Try.ntmps9
            go_wp2_with fail
            refine (utf16Begun_any _).mono ?_
            rintro e w0 ⟨rfl, b0⟩
            go_wp2_with fail
            refine (dec16_sl _ s _ _ d1.out _).mono ?_
            rintro e w1 ⟨A1, c1, rfl, o1, b1⟩
            go_wp2_with fail
            refine (dec16_sl _ t _ _ d2.out _).mono ?_
            rintro e w2 ⟨A2, c2, rfl, o2, b2⟩
            go_wp2_with fail
            refine (dec16_sl _ (s ++ t) _ _ d3.out _).mono ?_
            rintro e w3 ⟨A3, c3, rfl, o3, b3⟩
            go_wp2_with fail
            go_ret
            exact ⟨ret_bool (by rw [decide_eq_true_eq]; omega), (by repeat (first | exact Bel.refl _ | refine Bel.drewN ?_ _ | refine Bel.drew ?_ | refine Bel.alloc ?_ _ | refine Bel.trans ?_ (by assumption) | refine Bel.setCell ?_ (by simp; omega) _))⟩
          · have hzs : zs = xs ++ ys := by rw [hzz, hx, hy]; exact HP.out (by rw [hcs, decide_eq_false_iff_not]; exact hhi)
            subst hzs
            clear hx hy hzz p2 HP hcs p1
            by_cases j1 : (216 : Int) ≤ (c.toNat : Int)
            · have j2 : (219 : Int) < (c.toNat : Int) := by omega
              clear hhi
              go_enter Try.func9, Try.ntmps9
              go_wp2_with fail
              refine (utf16Begun_any _).mono ?_
              rintro e w0 ⟨rfl, b0⟩
              go_wp2_with fail
              refine (dec16_sl _ s _ _ d1.out _).mono ?_
              rintro e w1 ⟨A1, c1, rfl, o1, b1⟩
              go_wp2_with fail
              refine (dec16_sl _ t _ _ d2.out _).mono ?_
              rintro e w2 ⟨A2, c2, rfl, o2, b2⟩
              go_wp2_with fail
              refine (dec16_sl _ (s ++ t) _ _ d3.out _).mono ?_
              rintro e w3 ⟨A3, c3, rfl, o3, b3⟩
              go_wp2_with (first
                | (at_builtin; refine wpList_appInts (.tmp 87) (.tmp 88) 30 rfl elemInt (by decide) w3.heap.size _ _ (Own.empty _ _ (Nat.le_refl _)) _ xs (o1.ints.bel (by repeat (first | exact Bel.refl _ | refine Bel.drewN ?_ _ | refine Bel.drew ?_ | refine Bel.alloc ?_ _ | refine Bel.trans ?_ (by assumption) | refine Bel.setCell ?_ (by simp; omega) _))) (by simp; omega) (by simp) rfl rfl rfl ?_; intro v4 w4 o4 b4; have hb4 : Bel w3 w4 := ((Bel.refl w3).alloc _).upto b4 (by simp))
                | (at_builtin; refine wpList_appInts (.tmp 89) (.tmp 90) 30 rfl elemInt (by decide) w3.heap.size _ _ o4 _ ys (o2.ints.bel (by repeat (first | exact Bel.refl _ | refine Bel.drewN ?_ _ | refine Bel.drew ?_ | refine Bel.alloc ?_ _ | refine Bel.trans ?_ (by assumption) | refine Bel.setCell ?_ (by simp; omega) _))) (by simp; omega) hb4.size rfl rfl rfl ?_; intro v5 w5 o5 b5; have hb5 : Bel w3 w5 := hb4.upto b5 (Nat.le_refl _)))
              have i3 : IntSl w5 (.slice A3 (xs ++ ys).length c3) (xs ++ ys) := o3.ints.bel hb5
              have i5 : IntSl w5 v5 (xs ++ ys) := Own.ints (by simpa using o5)
              rw [List.length_append] at i3
              refine (sameInts_yes _ _ _ _ _ i3 i5 rfl).mono ?_
              rintro e w6 ⟨rfl, b6⟩
              go_wp2_with fail
              go_ret
              exact ⟨rfl, (by repeat (first | exact Bel.refl _ | refine Bel.drewN ?_ _ | refine Bel.drew ?_ | refine Bel.alloc ?_ _ | refine Bel.trans ?_ (by assumption) | refine Bel.setCell ?_ (by simp; omega) _))⟩
            · clear hhi
              have j2 : (c.toNat : Int) < 216 := by omega
              go_enter Try.func9, Try.ntmps9
              go_wp2_with fail
              refine (utf16Begun_any _).mono ?_
              rintro e w0 ⟨rfl, b0⟩
              go_wp2_with fail
              refine (dec16_sl _ s _ _ d1.out _).mono ?_
              rintro e w1 ⟨A1, c1, rfl, o1, b1⟩
              go_wp2_with fail
              refine (dec16_sl _ t _ _ d2.out _).mono ?_
              rintro e w2 ⟨A2, c2, rfl, o2, b2⟩
              go_wp2_with fail
              refine (dec16_sl _ (s ++ t) _ _ d3.out _).mono ?_
              rintro e w3 ⟨A3, c3, rfl, o3, b3⟩
              go_wp2_with (first
                | (at_builtin; refine wpList_appInts (.tmp 87) (.tmp 88) 30 rfl elemInt (by decide) w3.heap.size _ _ (Own.empty _ _ (Nat.le_refl _)) _ xs (o1.ints.bel (by repeat (first | exact Bel.refl _ | refine Bel.drewN ?_ _ | refine Bel.drew ?_ | refine Bel.alloc ?_ _ | refine Bel.trans ?_ (by assumption) | refine Bel.setCell ?_ (by simp; omega) _))) (by simp; omega) (by simp) rfl rfl rfl ?_; intro v4 w4 o4 b4; have hb4 : Bel w3 w4 := ((Bel.refl w3).alloc _).upto b4 (by simp))
                | (at_builtin; refine wpList_appInts (.tmp 89) (.tmp 90) 30 rfl elemInt (by decide) w3.heap.size _ _ o4 _ ys (o2.ints.bel (by repeat (first | exact Bel.refl _ | refine Bel.drewN ?_ _ | refine Bel.drew ?_ | refine Bel.alloc ?_ _ | refine Bel.trans ?_ (by assumption) | refine Bel.setCell ?_ (by simp; omega) _))) (by simp; omega) hb4.size rfl rfl rfl ?_; intro v5 w5 o5 b5; have hb5 : Bel w3 w5 := hb4.upto b5 (Nat.le_refl _)))
              have i3 : IntSl w5 (.slice A3 (xs ++ ys).length c3) (xs ++ ys) := o3.ints.bel hb5
              have i5 : IntSl w5 v5 (xs ++ ys) := Own.ints (by simpa using o5)
              rw [List.length_append] at i3
              refine (sameInts_yes _ _ _ _ _ i3 i5 rfl).mono ?_
              rintro e w6 ⟨rfl, b6⟩
              go_wp2_with fail
              go_ret
              exact ⟨rfl, (by repeat (first | exact Bel.refl _ | refine Bel.drewN ?_ _ | refine Bel.drew ?_ | refine Bel.alloc ?_ _ | refine Bel.trans ?_ (by assumption) | refine Bel.setCell ?_ (by simp; omega) _))⟩
end Go.Proofs.Ytmekemlhhjnjjaa

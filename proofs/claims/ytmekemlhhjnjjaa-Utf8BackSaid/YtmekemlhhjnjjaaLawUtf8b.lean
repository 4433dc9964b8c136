/-
  Utf8Back.
-/
import Derived.Test.YtmekemlhhjnjjaaLawUtf8
namespace Go.Proofs.Ytmekemlhhjnjjaa
open Go.RowKit
set_option maxRecDepth 1000000

theorem enc8_cases (xs : List Int) : (∃ l p, M.enc8 xs = (l, p) ∧ ((p == 0) = false ∨ (p = 0 ∧ 3000 < l.length))) ∨ (∃ bs, M.enc8 xs = (bs, 0) ∧ bs.length ≤ 3000 ∧ M.dec8 bs = (xs, 0)) := by
  by_cases h : M.points xs = 0
  · obtain ⟨h1, h2⟩ := points_scalars xs h
    have he : M.enc8 xs = (M.bytes8 xs, 0) := by rw [M.enc8, if_pos h]
    by_cases hl : 3000 < (M.bytes8 xs).length
    · exact .inl ⟨_, _, he, .inr ⟨rfl, hl⟩⟩
    · exact .inr ⟨_, he, by omega, by rw [dec8_ok _ (by omega), M.all8_bytes xs h2]⟩
  · exact .inl ⟨[], M.points xs, by rw [M.enc8, if_neg h], .inl (by simpa using h)⟩
theorem points_ok (xs : List Int) (h1 : xs.length ≤ 3000) (h2 : ∀ n ∈ xs, M.scalar n = true) : M.points xs = 0 := by
  rw [M.points, if_neg (by omega), if_pos (List.all_eq_true.2 h2)]
/-- What the second half of Utf8Back asks. -/
theorem back8 (s : ByteArray) (h : s.size ≤ 3000) : ∃ ys T B, M.dec8 s.data.toList = (ys, 0) ∧ ys.length ≤ 3000 ∧ M.enc8 ys = (T, 0) ∧ ys.any (· == 65533) = B ∧ (B = false → (⟨T.toArray⟩ : ByteArray) = s) := by
  obtain ⟨m1, m2, m3⟩ := M.all8_many _ s.data.toList (Nat.le_refl _)
  rw [← Lib.size_eq] at m1
  have hp := points_ok _ (by omega) m3
  refine ⟨M.all8 s.data.toList, M.bytes8 (M.all8 s.data.toList), _, dec8_ok _ (by rw [← Lib.size_eq]; exact h), by omega, by rw [M.enc8, if_pos hp], rfl, fun hb => ?_⟩
  rw [M.bytes8_all _ _ (Nat.le_refl _) (fun hm => ?_)]
  rw [List.any_eq_false] at hb
  exact hb 65533 hm (by decide)
set_option maxHeartbeats 4000000 in
theorem utf8BackTrue (s : ByteArray) (v : Value) (xs : List Int) (w : World) (hs : s.size ≤ reachBytes) (hv : IntSl w v xs) (_ : xs.length * 8 ≤ reachBytes) (_ : ∀ n ∈ xs, -9223372036854775808 ≤ n ∧ n ≤ 9223372036854775807) : Calls Try.prog 13 #[.string s, v] w fun e w' => e = .returned (.bool true) ∧ Bel w w' := by
  simp only [reachBytes] at hs
  have hv0 := hv
  obtain ⟨va, vc, rfl, _, _, _, _⟩ := hv0
  rcases enc8_cases xs with ⟨l, p, hp, hg | ⟨rfl, hg⟩⟩ | ⟨bs, hp, hl, hd⟩
  · have H1 := Lib.hid hp
    clear hp
    go_enter Try.func13, Try.ntmps13
    go_wp2_with fail
    refine (utf8Begun_any _).mono ?_
    rintro e w1 ⟨rfl, b1⟩
    go_wp2_with fail
    refine (enc8_to _ _ _ _ H1.out _ (hv.bel (by repeat (first | exact Bel.refl _ | refine Bel.drewN ?_ _ | refine Bel.drew ?_ | refine Bel.alloc ?_ _ | refine Bel.trans ?_ (by assumption) | refine Bel.setCell ?_ (by simp; omega) _)))).mono ?_
    rintro e w2 ⟨rfl, b2⟩
    by_cases h : 3000 < s.size
    · have d1 := Lib.hid (show M.dec8 s.data.toList = ([], 2) by rw [M.dec8, if_pos (by rw [← Lib.size_eq]; exact h)])
      go_wp2_with fail
      refine (dec8_sl _ _ _ d1.out _).mono ?_
      rintro e w5 ⟨A5, c5, rfl, o5, b5⟩
      go_wp2_with fail
      go_ret
      exact ⟨rfl, (by repeat (first | exact Bel.refl _ | refine Bel.drewN ?_ _ | refine Bel.drew ?_ | refine Bel.alloc ?_ _ | refine Bel.trans ?_ (by assumption) | refine Bel.setCell ?_ (by simp; omega) _))⟩
    · obtain ⟨ys, T, B, d1, hy, d2, hB, hT⟩ := back8 s (by omega)
      have D1 := Lib.hid d1
      have D2 := Lib.hid d2
      have HB := Lib.hid hB
      clear d1 d2 hB
      go_wp2_with fail
      refine (dec8_sl _ _ _ D1.out _).mono ?_
      rintro e w5 ⟨A5, c5, rfl, o5, b5⟩
      go_wp2_with fail
      refine (enc8_to _ _ _ _ D2.out _ (by simpa using o5.ints)).mono ?_
      rintro e w6 ⟨rfl, b6⟩
      have bb : Bel w w6 := (by repeat (first | exact Bel.refl _ | refine Bel.drewN ?_ _ | refine Bel.drew ?_ | refine Bel.alloc ?_ _ | refine Bel.trans ?_ (by assumption) | refine Bel.setCell ?_ (by simp; omega) _))
      obtain ⟨a, c, hac, hc1, hc2, hn, hxc⟩ := (show IntSl w6 _ ys from o5.ints.bel b6)
      obtain ⟨rfl, rfl⟩ : A5 = a ∧ c5 = c := by injection hac with h1 _ h3; exact ⟨h1, h3⟩
      unfold maxLen at hc2
      go_wp2_with fail
      go_loop [10, 11] (fun b i => ∃ (k : Nat) (bb : Bool), k ≤ ys.length ∧ i = .int .i64 k ∧ b = .bool bb ∧ Hid ((ys.take k).any (· == 65533) = bb)) (fun _ i => ys.length - (intOf i).toNat)
      case atStart => exact ⟨0, false, by omega, rfl, rfl, Lib.hid rfl⟩
      case round =>
        obtain ⟨k, bb, hk, rfl, rfl, hno⟩ := hrel
        by_cases hlt : k < ys.length
        · obtain ⟨y, hy⟩ : ∃ y, ys[k]? = some y := ⟨_, List.getElem?_eq_getElem hlt⟩
          cases A5 with
          | none => exfalso; have h3 := hlt; rw [hn rfl, List.length_nil] at h3; omega
          | some x =>
            have hcell := hxc x rfl k y hy
            have HN := Lib.hid (show (ys.take (k + 1)).any (· == 65533) = (bb || (y == 65533)) by
              rw [List.take_add_one, hy, List.any_append, hno.out]; simp)
            clear hxc hn hy
            cases bb with
            | true =>
              go_wp2_with fail
              go_round
              case rel => exact ⟨k + 1, true, by omega, by go_num, rfl, HN⟩
              case measure => simp [intOf]; omega
            | false =>
              rw [Bool.false_or] at HN
              cases hyb : (y == 65533) with
              | true =>
                rw [hyb] at HN
                go_wp2_with fail
                go_round
                case rel => exact ⟨k + 1, true, by omega, by go_num, rfl, HN⟩
                case measure => simp [intOf]; omega
              | false =>
                rw [hyb] at HN
                go_wp2_with fail
                go_round
                case rel => exact ⟨k + 1, false, by omega, by go_num, rfl, HN⟩
                case measure => simp [intOf]; omega
        · obtain rfl : k = ys.length := by omega
          have hbb := hno.out
          rw [List.take_length, HB.out] at hbb
          subst hbb
          cases B with
          | true =>
            go_wp2_with fail
            go_ret
            exact ⟨rfl, bb⟩
          | false =>
            have HT := Lib.hid (hT rfl)
            clear hT
            rw [HT.out]
            go_wp2_with fail
            go_ret
            exact ⟨ret_bool (by simp), bb⟩
  · have H1 := Lib.hid hp
    clear hp
    go_enter Try.func13, Try.ntmps13
    go_wp2_with fail
    refine (utf8Begun_any _).mono ?_
    rintro e w1 ⟨rfl, b1⟩
    go_wp2_with fail
    refine (enc8_to _ _ _ _ H1.out _ (hv.bel (by repeat (first | exact Bel.refl _ | refine Bel.drewN ?_ _ | refine Bel.drew ?_ | refine Bel.alloc ?_ _ | refine Bel.trans ?_ (by assumption) | refine Bel.setCell ?_ (by simp; omega) _)))).mono ?_
    rintro e w2 ⟨rfl, b2⟩
    by_cases h : 3000 < s.size
    · have d1 := Lib.hid (show M.dec8 s.data.toList = ([], 2) by rw [M.dec8, if_pos (by rw [← Lib.size_eq]; exact h)])
      go_wp2_with fail
      refine (dec8_sl _ _ _ d1.out _).mono ?_
      rintro e w5 ⟨A5, c5, rfl, o5, b5⟩
      go_wp2_with fail
      go_ret
      exact ⟨rfl, (by repeat (first | exact Bel.refl _ | refine Bel.drewN ?_ _ | refine Bel.drew ?_ | refine Bel.alloc ?_ _ | refine Bel.trans ?_ (by assumption) | refine Bel.setCell ?_ (by simp; omega) _))⟩
    · obtain ⟨ys, T, B, d1, hy, d2, hB, hT⟩ := back8 s (by omega)
      have D1 := Lib.hid d1
      have D2 := Lib.hid d2
      have HB := Lib.hid hB
      clear d1 d2 hB
      go_wp2_with fail
      refine (dec8_sl _ _ _ D1.out _).mono ?_
      rintro e w5 ⟨A5, c5, rfl, o5, b5⟩
      go_wp2_with fail
      refine (enc8_to _ _ _ _ D2.out _ (by simpa using o5.ints)).mono ?_
      rintro e w6 ⟨rfl, b6⟩
      have bb : Bel w w6 := (by repeat (first | exact Bel.refl _ | refine Bel.drewN ?_ _ | refine Bel.drew ?_ | refine Bel.alloc ?_ _ | refine Bel.trans ?_ (by assumption) | refine Bel.setCell ?_ (by simp; omega) _))
      obtain ⟨a, c, hac, hc1, hc2, hn, hxc⟩ := (show IntSl w6 _ ys from o5.ints.bel b6)
      obtain ⟨rfl, rfl⟩ : A5 = a ∧ c5 = c := by injection hac with h1 _ h3; exact ⟨h1, h3⟩
      unfold maxLen at hc2
      go_wp2_with fail
      go_loop [10, 11] (fun b i => ∃ (k : Nat) (bb : Bool), k ≤ ys.length ∧ i = .int .i64 k ∧ b = .bool bb ∧ Hid ((ys.take k).any (· == 65533) = bb)) (fun _ i => ys.length - (intOf i).toNat)
      case atStart => exact ⟨0, false, by omega, rfl, rfl, Lib.hid rfl⟩
      case round =>
        obtain ⟨k, bb, hk, rfl, rfl, hno⟩ := hrel
        by_cases hlt : k < ys.length
        · obtain ⟨y, hy⟩ : ∃ y, ys[k]? = some y := ⟨_, List.getElem?_eq_getElem hlt⟩
          cases A5 with
          | none => exfalso; have h3 := hlt; rw [hn rfl, List.length_nil] at h3; omega
          | some x =>
            have hcell := hxc x rfl k y hy
            have HN := Lib.hid (show (ys.take (k + 1)).any (· == 65533) = (bb || (y == 65533)) by
              rw [List.take_add_one, hy, List.any_append, hno.out]; simp)
            clear hxc hn hy
            cases bb with
            | true =>
              go_wp2_with fail
              go_round
              case rel => exact ⟨k + 1, true, by omega, by go_num, rfl, HN⟩
              case measure => simp [intOf]; omega
            | false =>
              rw [Bool.false_or] at HN
              cases hyb : (y == 65533) with
              | true =>
                rw [hyb] at HN
                go_wp2_with fail
                go_round
                case rel => exact ⟨k + 1, true, by omega, by go_num, rfl, HN⟩
                case measure => simp [intOf]; omega
              | false =>
                rw [hyb] at HN
                go_wp2_with fail
                go_round
                case rel => exact ⟨k + 1, false, by omega, by go_num, rfl, HN⟩
                case measure => simp [intOf]; omega
        · obtain rfl : k = ys.length := by omega
          have hbb := hno.out
          rw [List.take_length, HB.out] at hbb
          subst hbb
          cases B with
          | true =>
            go_wp2_with fail
            go_ret
            exact ⟨rfl, bb⟩
          | false =>
            have HT := Lib.hid (hT rfl)
            clear hT
            rw [HT.out]
            go_wp2_with fail
            go_ret
            exact ⟨ret_bool (by simp), bb⟩
  · have H1 := Lib.hid hp
    have H2 := Lib.hid hd
    clear hp hd
    go_enter Try.func13, Try.ntmps13
    go_wp2_with fail
    refine (utf8Begun_any _).mono ?_
    rintro e w1 ⟨rfl, b1⟩
    go_wp2_with fail
    refine (enc8_to _ _ _ _ H1.out _ (hv.bel (by repeat (first | exact Bel.refl _ | refine Bel.drewN ?_ _ | refine Bel.drew ?_ | refine Bel.alloc ?_ _ | refine Bel.trans ?_ (by assumption) | refine Bel.setCell ?_ (by simp; omega) _)))).mono ?_
    rintro e w2 ⟨rfl, b2⟩
    go_wp2_with fail
    refine (dec8_sl _ _ _ H2.out _).mono ?_
    rintro e w3 ⟨A3, c3, rfl, o3, b3⟩
    go_wp2_with fail
    refine (sameInts_yes _ _ _ _ _ (by simpa using o3.ints) (hv.bel (by repeat (first | exact Bel.refl _ | refine Bel.drewN ?_ _ | refine Bel.drew ?_ | refine Bel.alloc ?_ _ | refine Bel.trans ?_ (by assumption) | refine Bel.setCell ?_ (by simp; omega) _))) rfl).mono ?_
    rintro e w4 ⟨rfl, b4⟩
    by_cases h : 3000 < s.size
    · have d1 := Lib.hid (show M.dec8 s.data.toList = ([], 2) by rw [M.dec8, if_pos (by rw [← Lib.size_eq]; exact h)])
      go_wp2_with fail
      refine (dec8_sl _ _ _ d1.out _).mono ?_
      rintro e w5 ⟨A5, c5, rfl, o5, b5⟩
      go_wp2_with fail
      go_ret
      exact ⟨rfl, (by repeat (first | exact Bel.refl _ | refine Bel.drewN ?_ _ | refine Bel.drew ?_ | refine Bel.alloc ?_ _ | refine Bel.trans ?_ (by assumption) | refine Bel.setCell ?_ (by simp; omega) _))⟩
    · obtain ⟨ys, T, B, d1, hy, d2, hB, hT⟩ := back8 s (by omega)
      have D1 := Lib.hid d1
      have D2 := Lib.hid d2
      have HB := Lib.hid hB
      clear d1 d2 hB
      go_wp2_with fail
      refine (dec8_sl _ _ _ D1.out _).mono ?_
      rintro e w5 ⟨A5, c5, rfl, o5, b5⟩
      go_wp2_with fail
      refine (enc8_to _ _ _ _ D2.out _ (by simpa using o5.ints)).mono ?_
      rintro e w6 ⟨rfl, b6⟩
      have bb : Bel w w6 := (by repeat (first | exact Bel.refl _ | refine Bel.drewN ?_ _ | refine Bel.drew ?_ | refine Bel.alloc ?_ _ | refine Bel.trans ?_ (by assumption) | refine Bel.setCell ?_ (by simp; omega) _))
      obtain ⟨a, c, hac, hc1, hc2, hn, hxc⟩ := (show IntSl w6 _ ys from o5.ints.bel b6)
      obtain ⟨rfl, rfl⟩ : A5 = a ∧ c5 = c := by injection hac with h1 _ h3; exact ⟨h1, h3⟩
      unfold maxLen at hc2
      go_wp2_with fail
      go_loop [10, 11] (fun b i => ∃ (k : Nat) (bb : Bool), k ≤ ys.length ∧ i = .int .i64 k ∧ b = .bool bb ∧ Hid ((ys.take k).any (· == 65533) = bb)) (fun _ i => ys.length - (intOf i).toNat)
      case atStart => exact ⟨0, false, by omega, rfl, rfl, Lib.hid rfl⟩
      case round =>
        obtain ⟨k, bb, hk, rfl, rfl, hno⟩ := hrel
        by_cases hlt : k < ys.length
        · obtain ⟨y, hy⟩ : ∃ y, ys[k]? = some y := ⟨_, List.getElem?_eq_getElem hlt⟩
          cases A5 with
          | none => exfalso; have h3 := hlt; rw [hn rfl, List.length_nil] at h3; omega
          | some x =>
            have hcell := hxc x rfl k y hy
            have HN := Lib.hid (show (ys.take (k + 1)).any (· == 65533) = (bb || (y == 65533)) by
              rw [List.take_add_one, hy, List.any_append, hno.out]; simp)
            clear hxc hn hy
            cases bb with
            | true =>
              go_wp2_with fail
              go_round
              case rel => exact ⟨k + 1, true, by omega, by go_num, rfl, HN⟩
              case measure => simp [intOf]; omega
            | false =>
              rw [Bool.false_or] at HN
              cases hyb : (y == 65533) with
              | true =>
                rw [hyb] at HN
                go_wp2_with fail
                go_round
                case rel => exact ⟨k + 1, true, by omega, by go_num, rfl, HN⟩
                case measure => simp [intOf]; omega
              | false =>
                rw [hyb] at HN
                go_wp2_with fail
                go_round
                case rel => exact ⟨k + 1, false, by omega, by go_num, rfl, HN⟩
                case measure => simp [intOf]; omega
        · obtain rfl : k = ys.length := by omega
          have hbb := hno.out
          rw [List.take_length, HB.out] at hbb
          subst hbb
          cases B with
          | true =>
            go_wp2_with fail
            go_ret
            exact ⟨rfl, bb⟩
          | false =>
            have HT := Lib.hid (hT rfl)
            clear hT
            rw [HT.out]
            go_wp2_with fail
            go_ret
            exact ⟨ret_bool (by simp), bb⟩
end Go.Proofs.Ytmekemlhhjnjjaa

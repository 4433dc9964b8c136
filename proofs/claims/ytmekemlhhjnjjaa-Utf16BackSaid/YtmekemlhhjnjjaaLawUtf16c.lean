/-
  Utf16Back.
-/
import Derived.Test.YtmekemlhhjnjjaaLawUtf16b
namespace Go.Proofs.Ytmekemlhhjnjjaa
open Go.RowKit
set_option maxRecDepth 1000000

theorem enc16_cases (big : Bool) (xs : List Int) : (∃ l p, M.enc16 big xs = (l, p) ∧ ((p == 0) = false ∨ (p = 0 ∧ 3000 < l.length))) ∨ (∃ bs, M.enc16 big xs = (bs, 0) ∧ bs.length ≤ 3000 ∧ M.dec16 big bs = (xs, 0)) := by
  by_cases h : M.points xs = 0
  · obtain ⟨h1, h2⟩ := points_scalars xs h
    have he : M.enc16 big xs = (M.bytes16 big xs, 0) := by rw [M.enc16, if_pos h]
    by_cases hl : 3000 < (M.bytes16 big xs).length
    · exact .inl ⟨_, _, he, .inr ⟨rfl, hl⟩⟩
    · exact .inr ⟨_, he, by omega, by rw [dec16_ok _ _ (by omega), M.all16_bytes big xs h2]⟩
  · exact .inl ⟨[], M.points xs, by rw [M.enc16, if_neg h], .inl (by simpa using h)⟩
theorem take_two (l : List UInt8) (j : Nat) (a b : UInt8) (ha : l[j]? = some a) (hb : l[j + 1]? = some b) : l.take (j + 2) = l.take j ++ [a, b] := by
  rw [show j + 2 = (j + 1) + 1 from rfl, List.take_add_one, hb, List.take_add_one, ha]
  simp
theorem one_str (s : ByteArray) (j : Nat) (a : UInt8) (ha : s.data.toList[j]? = some a) : s.extract j (j + 1) = ⟨[a].toArray⟩ := by
  rw [Lib.extract_eq]
  have h : (s.data.toList.drop j).take (j + 1 - j) = [a] := by
    have hj := (List.getElem?_eq_some_iff.1 ha).1
    rw [show j + 1 - j = 1 by omega, List.drop_eq_getElem_cons hj]
    have := (List.getElem?_eq_some_iff.1 ha).2
    simp [this]
  rw [h]
set_option maxHeartbeats 4000000 in
theorem utf16BackTrue (s : ByteArray) (v : Value) (xs : List Int) (w : World) (hs : s.size ≤ reachBytes) (hv : IntSl w v xs) (_ : xs.length * 8 ≤ reachBytes) (_ : ∀ n ∈ xs, -9223372036854775808 ≤ n ∧ n ≤ 9223372036854775807) : Calls Try.prog 8 #[.string s, v] w fun e w' => e = .returned (.bool true) ∧ Bel w w' := by
  simp only [reachBytes] at hs
  have hv0 := hv
  obtain ⟨va, vc, rfl, _, _, _, _⟩ := hv0
  go_enter Try.func8, Try.ntmps8
  go_wp2_with fail
  refine (utf16Begun_any _).mono ?_
  rintro e w0 ⟨rfl, b0⟩
  go_wp2_with fail
  go_loopw [5] (fun i wr => ∃ k : Nat, k ≤ 2 ∧ i = .int .i64 k ∧ Bel w wr) (fun i _ => 2 - (intOf i).toNat)
  case atStart => exact ⟨0, by omega, rfl, b0⟩
  case round =>
    obtain ⟨k, hk, rfl, hb⟩ := hrel
    by_cases hlt : k < 2
    · obtain ⟨big, hbig⟩ : ∃ big, ((k : Int) == 0) = big := ⟨_, rfl⟩
      rcases enc16_cases big xs with ⟨l, p, hp, hg | ⟨rfl, hg⟩⟩ | ⟨bs, hp, hl, hd⟩
      · have H1 := Lib.hid hp
        clear hp
        go_wp2_with fail
        refine (enc16_to _ _ _ _ _ H1.out _ (hv.bel (by repeat (first | exact Bel.refl _ | refine Bel.drewN ?_ _ | refine Bel.drew ?_ | refine Bel.alloc ?_ _ | refine Bel.trans ?_ (by assumption) | refine Bel.setCell ?_ (by simp; omega) _)))).mono ?_
        rintro e w2 ⟨rfl, b2⟩
        go_wp2_with fail
        go_roundw
        case rel => exact ⟨k + 1, by omega, by go_num, (by repeat (first | exact Bel.refl _ | refine Bel.drewN ?_ _ | refine Bel.drew ?_ | refine Bel.alloc ?_ _ | refine Bel.trans ?_ (by assumption) | refine Bel.setCell ?_ (by simp; omega) _))⟩
        case measure => simp [intOf]; omega
      · have H1 := Lib.hid hp
        clear hp
        go_wp2_with fail
        refine (enc16_to _ _ _ _ _ H1.out _ (hv.bel (by repeat (first | exact Bel.refl _ | refine Bel.drewN ?_ _ | refine Bel.drew ?_ | refine Bel.alloc ?_ _ | refine Bel.trans ?_ (by assumption) | refine Bel.setCell ?_ (by simp; omega) _)))).mono ?_
        rintro e w2 ⟨rfl, b2⟩
        go_wp2_with fail
        go_roundw
        case rel => exact ⟨k + 1, by omega, by go_num, (by repeat (first | exact Bel.refl _ | refine Bel.drewN ?_ _ | refine Bel.drew ?_ | refine Bel.alloc ?_ _ | refine Bel.trans ?_ (by assumption) | refine Bel.setCell ?_ (by simp; omega) _))⟩
        case measure => simp [intOf]; omega
      · have H1 := Lib.hid hp
        have H2 := Lib.hid hd
        clear hp hd
        go_wp2_with fail
        refine (enc16_to _ _ _ _ _ H1.out _ (hv.bel (by repeat (first | exact Bel.refl _ | refine Bel.drewN ?_ _ | refine Bel.drew ?_ | refine Bel.alloc ?_ _ | refine Bel.trans ?_ (by assumption) | refine Bel.setCell ?_ (by simp; omega) _)))).mono ?_
        rintro e w2 ⟨rfl, b2⟩
        go_wp2_with fail
        refine (dec16_sl _ _ _ _ H2.out _).mono ?_
        rintro e w3 ⟨A3, c3, rfl, o3, b3⟩
        go_wp2_with fail
        refine (sameInts_yes _ _ _ _ _ (by simpa using o3.ints) (hv.bel (by repeat (first | exact Bel.refl _ | refine Bel.drewN ?_ _ | refine Bel.drew ?_ | refine Bel.alloc ?_ _ | refine Bel.trans ?_ (by assumption) | refine Bel.setCell ?_ (by simp; omega) _))) rfl).mono ?_
        rintro e w4 ⟨rfl, b4⟩
        go_wp2_with fail
        go_roundw
        case rel => exact ⟨k + 1, by omega, by go_num, (by repeat (first | exact Bel.refl _ | refine Bel.drewN ?_ _ | refine Bel.drew ?_ | refine Bel.alloc ?_ _ | refine Bel.trans ?_ (by assumption) | refine Bel.setCell ?_ (by simp; omega) _))⟩
        case measure => simp [intOf]; omega
    · obtain rfl : k = 2 := by omega
      by_cases h : 3000 < s.size
      · go_wp2_with fail
        go_ret
        exact ⟨rfl, hb⟩
      · have hs1 : s.size ≤ 3000 := by omega
        by_cases hodd : (s.size : Int) % 2 = 1
        · have ho : ((s.size : Int) % 2 == 1) = true := by rw [beq_iff_eq]; exact hodd
          clear hodd
          go_wp2_with fail
          go_ret
          exact ⟨rfl, hb⟩
        · have ho : ((s.size : Int) % 2 == 1) = false := by rw [beq_eq_false_iff_ne]; exact hodd
          have heven : s.data.toList.length % 2 = 0 := by rw [← Lib.size_eq]; omega
          have HE := Lib.hid heven
          have HEs := Lib.hid (show s.size % 2 = 0 by omega)
          clear hodd heven
          obtain ⟨wo, rfl⟩ : ∃ wo : World, wo = wr := ⟨_, rfl⟩
          go_wp2_with fail
          go_loopw [10, 11] (fun vs i wr => ∃ (j : Nat) (acc : List UInt8), j ≤ s.size ∧ Hid (j % 2 = 0) ∧ i = .int .i64 j ∧ vs = .string ⟨acc.toArray⟩ ∧ Hid (acc = M.turn16 (s.data.toList.take j)) ∧ acc.length ≤ j ∧ Bel wo wr) (fun _ i _ => s.size - (intOf i).toNat)
          case atStart => exact ⟨0, [], by omega, Lib.hid rfl, rfl, rfl, Lib.hid (by simp [M.turn16]), by simp, Bel.refl _⟩
          case round =>
            obtain ⟨j, acc, hj, HJ, rfl, rfl, HA, hal, hbi⟩ := hrel
            by_cases hjl : j < s.size
            · have hj2 : j + 2 ≤ s.size := by have := HJ.out; have := HEs.out; omega
              obtain ⟨a, ha⟩ : ∃ a, s.data.toList[j]? = some a := ⟨_, List.getElem?_eq_getElem (by rw [← Lib.size_eq]; omega)⟩
              obtain ⟨b, hbb⟩ : ∃ b, s.data.toList[j + 1]? = some b := ⟨_, List.getElem?_eq_getElem (by rw [← Lib.size_eq]; omega)⟩
              have X1 := Lib.hid (one_str s j a ha)
              have X2 := Lib.hid (show s.extract (j + 1) (j + 2) = ⟨[b].toArray⟩ from one_str s (j + 1) b hbb)
              have HT := Lib.hid (show acc ++ [b, a] = M.turn16 (s.data.toList.take (j + 2)) by
                rw [take_two _ j a b ha hbb, turn_snoc _ a b (by rw [List.length_take, ← Lib.size_eq]; have := HJ.out; omega), ← HA.out])
              clear ha hbb
              go_wp2_with fail
              go_quiet (fail)
              go_wp2_with fail
              go_roundw
              case rel => exact ⟨j + 2, acc ++ [b, a], by omega, Lib.hid (by have := HJ.out; omega), by go_num, by rw [X1.out, X2.out]; simp [str_append], HT, by rw [List.length_append, List.length_cons, List.length_singleton]; omega, hbi.drewN _⟩
              case measure => simp [intOf]; omega
            · obtain rfl : j = s.size := by omega
              have HA2 := Lib.hid (show acc = M.turn16 s.data.toList by
                have := HA.out
                rwa [List.take_of_length_le (by rw [← Lib.size_eq]; omega)] at this)
              have d1 := Lib.hid (dec16_ok true s.data.toList (by rw [← Lib.size_eq]; omega))
              have d2 := Lib.hid (show M.dec16 false (⟨acc.toArray⟩ : ByteArray).data.toList = (M.all16 true s.data.toList, 0) by
                rw [dec16_ok false _ (by simpa using (show acc.length ≤ 3000 by omega))]
                rw [show (⟨acc.toArray⟩ : ByteArray).data.toList = acc from rfl, HA2.out, M.all16_turn _ _ (Nat.le_refl _) HE.out])
              generalize M.all16 true s.data.toList = ys at d1 d2
              have hbw := hb.trans hbi
              clear HA HA2 HE HEs HJ
              go_wp2_with fail
              refine (dec16_sl true s _ _ d1.out _).mono ?_
              rintro e w2 ⟨A2, c2, rfl, o2, b2⟩
              go_wp2_with fail
              refine (dec16_sl false ⟨acc.toArray⟩ _ _ d2.out _).mono ?_
              rintro e w3 ⟨A3, c3, rfl, o3, b3⟩
              go_wp2_with fail
              refine (sameInts_yes _ _ _ _ _ (by simpa using o2.ints.bel b3) (by simpa using o3.ints) rfl).mono ?_
              rintro e w4 ⟨rfl, b4⟩
              go_wp2_with fail
              go_ret
              exact ⟨rfl, ((hbw.trans b2).trans b3).trans b4⟩
end Go.Proofs.Ytmekemlhhjnjjaa

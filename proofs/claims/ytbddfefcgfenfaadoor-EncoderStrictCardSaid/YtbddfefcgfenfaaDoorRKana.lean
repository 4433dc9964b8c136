/-
  The document's answers on signs that are shifted: KanaSign, kanaByte, HasKana.
-/
import Derived.Test.YtbddfefcgfenfaaDoorKana3
import Derived.Test.YtbddfefcgfenfaaDoorRUtf16
namespace Go.Proofs.YtbddfefcgfenfaaDoor
open Go.RowKit
set_option maxRecDepth 1000000

theorem kanaSign_any (g : Int) (c : Nat) (hc : c < 256) (h27 : c ≠ 27) (w : World) : Calls Tryd.prog 137 #[.int .i64 g, .int .i64 (c : Int)] w fun e w' => e = .returned (.int .i64 (M.signK g c)) ∧ w = w' := by
  by_cases hA : g = 2
  · subst hA
    by_cases h1 : 33 ≤ c ∧ c ≤ 95
    · have H := Lib.hid (show M.signK 2 c = 65344 + (c : Int) by rw [M.signK, if_pos ⟨rfl, h1.1, h1.2⟩])
      have HB := Lib.hid (show decide ((33 : Int) ≤ (c : Int) ∧ (c : Int) ≤ 95) = true by rw [decide_eq_true_eq]; omega)
      clear h1
      go_enter Tryd.func137, Tryd.ntmps137
      go_wp2_with (first | (go_at_call 58; refine (between_to _ _ _ _ HB.out _).mono ?_; rintro e w' ⟨rfl, rfl⟩))
      go_ret
      rw [H.out]
      exact ⟨rfl, rfl⟩
    · have H := Lib.hid (show M.signK 2 c = 65533 by rw [M.signK, if_neg (by omega), if_pos (.inl rfl)])
      have HB := Lib.hid (show decide ((33 : Int) ≤ (c : Int) ∧ (c : Int) ≤ 95) = false by rw [decide_eq_false_iff_not]; omega)
      clear h1
      go_enter Tryd.func137, Tryd.ntmps137
      go_wp2_with (first | (go_at_call 58; refine (between_to _ _ _ _ HB.out _).mono ?_; rintro e w' ⟨rfl, rfl⟩))
      go_ret
      rw [H.out]
      exact ⟨rfl, rfl⟩
  · have e2 : (g == 2) = false := by simpa using hA
    have HB := Lib.hid (show True from trivial)
    by_cases h1 : 128 ≤ c
    · have H := Lib.hid (show M.signK g c = 65533 by rw [M.signK, if_neg (by omega), if_pos (by omega)])
      have h2 : (127 : Int) < (c : Int) := by omega
      clear hA
      go_enter Tryd.func137, Tryd.ntmps137
      go_wp2
      go_ret
      rw [H.out]
      exact ⟨rfl, rfl⟩
    · by_cases h2 : c = 14
      · subst h2
        have H := Lib.hid (show M.signK g 14 = 65533 by rw [M.signK, if_neg (by omega), if_pos (by omega)])
        clear hA h1
        go_enter Tryd.func137, Tryd.ntmps137
        go_wp2
        go_ret
        rw [H.out]
        exact ⟨rfl, rfl⟩
      · by_cases h3 : c = 15
        · subst h3
          have H := Lib.hid (show M.signK g 15 = 65533 by rw [M.signK, if_neg (by omega), if_pos (by omega)])
          clear hA h1 h2
          go_enter Tryd.func137, Tryd.ntmps137
          go_wp2
          go_ret
          rw [H.out]
          exact ⟨rfl, rfl⟩
        · have e3 : ((c : Int) == 14) = false := by rw [beq_eq_false_iff_ne]; omega
          have e4 : ((c : Int) == 15) = false := by rw [beq_eq_false_iff_ne]; omega
          have hs : M.signK g c = if g = 1 ∧ c = 92 then 165 else if g = 1 ∧ c = 126 then 8254 else (c : Int) := by
            rw [M.signK, if_neg (by omega), if_neg (by omega)]
          by_cases hB : g = 1
          · subst hB
            by_cases h5 : c = 92
            · subst h5
              have H := Lib.hid hs
              clear hs hA h1 h2 h3
              go_enter Tryd.func137, Tryd.ntmps137
              go_wp2
              go_ret
              rw [H.out]
              exact ⟨rfl, rfl⟩
            · by_cases h6 : c = 126
              · subst h6
                have H := Lib.hid hs
                clear hs hA h1 h2 h3
                go_enter Tryd.func137, Tryd.ntmps137
                go_wp2
                go_ret
                rw [H.out]
                exact ⟨rfl, rfl⟩
              · have H := Lib.hid (show M.signK 1 c = (c : Int) by rw [hs, if_neg (by omega), if_neg (by omega)])
                have e5 : ((c : Int) == 92) = false := by rw [beq_eq_false_iff_ne]; omega
                have e6 : ((c : Int) == 126) = false := by rw [beq_eq_false_iff_ne]; omega
                clear hs hA h2 h3 h5 h6
                go_enter Tryd.func137, Tryd.ntmps137
                go_wp2
                go_ret
                rw [H.out]
                exact ⟨rfl, rfl⟩
          · have e5 : (g == 1) = false := by simpa using hB
            have H := Lib.hid (show M.signK g c = (c : Int) by rw [hs, if_neg (by omega), if_neg (by omega)])
            clear hs hA h2 h3 hB
            go_enter Tryd.func137, Tryd.ntmps137
            go_wp2
            go_ret
            rw [H.out]
            exact ⟨rfl, rfl⟩
theorem kanaSign_to (g : Int) (c : Nat) (m : Int) (h : M.signK g c = m) (hc : c < 256) (h27 : c ≠ 27) (w : World) : Calls Tryd.prog 137 #[.int .i64 g, .int .i64 (c : Int)] w fun e w' => e = .returned (.int .i64 m) ∧ w = w' := by
  have := kanaSign_any g c hc h27 w; rw [h] at this; exact this
theorem kanaByte_any (g n : Int) (w : World) : Calls Tryd.prog 102 #[.int .i64 g, .int .i64 n] w fun e w' => e = .returned (.int .i64 (M.byteK g n)) ∧ w = w' := by
  go_enter Tryd.func102, Tryd.ntmps102
  go_wp2_with fail
  go_loop [5] (fun i => ∃ k : Nat, k ≤ 128 ∧ i = .int .i64 k ∧ Hid (∀ j, j < k → n = 65533 ∨ M.signK g j ≠ n)) (fun i => 128 - (intOf i).toNat)
  case atStart => exact ⟨0, by omega, rfl, Lib.hid (fun j hj => by omega)⟩
  case round =>
    obtain ⟨k, hk, rfl, hno⟩ := hrel
    by_cases hlt : k < 128
    · by_cases h27 : k = 27
      · subst h27
        have HF := Lib.hid (show ∀ j, j < 27 + 1 → n = 65533 ∨ M.signK g j ≠ n from fun j hj => by
          by_cases hjk : j < 27
          · exact hno.out j hjk
          · obtain rfl : j = 27 := by omega
            have : M.signK g 27 = 65533 := by rw [M.signK, if_neg (by omega), if_pos (by omega)]
            rw [this]
            by_cases h3 : n = 65533
            · exact .inl h3
            · exact .inr (fun h4 => h3 h4.symm))
        go_wp2_with fail
        go_round
        case rel => exact ⟨27 + 1, by omega, by go_num, HF⟩
        case measure => simp [intOf]
      · have e27 : ((k : Int) != 27) = true := by rw [bne_iff_ne]; omega
        obtain ⟨m, hm⟩ : ∃ m, M.signK g k = m := ⟨_, rfl⟩
        have HM := Lib.hid hm
        have hk2 : k < 256 := by omega
        have H27 := Lib.hid h27
        by_cases he : m = n ∧ n ≠ 65533
        · obtain ⟨rfl, hn⟩ := he
          have HF := Lib.hid (M.byteK_hit g m k hno.out hlt hm hn)
          have e1 : (m != 65533) = true := by simpa using hn
          clear hm hn h27
          go_wp2_with (go_at_call 137; refine (kanaSign_to g k m HM.out hk2 H27.out _).mono ?_; rintro e w' ⟨rfl, rfl⟩)
          go_ret
          rw [HF.out]
          exact ⟨rfl, rfl⟩
        · have HF := Lib.hid (show ∀ j, j < k + 1 → n = 65533 ∨ M.signK g j ≠ n from fun j hj => by
            by_cases hjk : j < k
            · exact hno.out j hjk
            · obtain rfl : j = k := by omega
              by_cases h3 : n = 65533
              · exact .inl h3
              · exact .inr (fun h4 => he ⟨hm.symm.trans h4, h3⟩))
          by_cases h5 : m = n
          · subst h5
            obtain rfl : m = 65533 := by by_cases h6 : m = 65533; exact h6; exact absurd ⟨rfl, h6⟩ he
            clear hm he h27
            go_wp2_with (go_at_call 137; refine (kanaSign_to g k 65533 HM.out hk2 H27.out _).mono ?_; rintro e w' ⟨rfl, rfl⟩)
            go_round
            case rel => exact ⟨k + 1, by omega, by go_num, HF⟩
            case measure => simp [intOf]; omega
          · have e1 : (m == n) = false := by simpa using h5
            clear hm he h5 h27
            go_wp2_with (go_at_call 137; refine (kanaSign_to g k m HM.out hk2 H27.out _).mono ?_; rintro e w' ⟨rfl, rfl⟩)
            go_round
            case rel => exact ⟨k + 1, by omega, by go_num, HF⟩
            case measure => simp [intOf]; omega
    · obtain rfl : k = 128 := by omega
      have HF := Lib.hid (M.byteK_miss g n hno.out)
      go_wp2_with fail
      go_ret
      rw [HF.out]
      exact ⟨rfl, rfl⟩
theorem kanaByte_to (g n b : Int) (h : M.byteK g n = b) (w : World) : Calls Tryd.prog 102 #[.int .i64 g, .int .i64 n] w fun e w' => e = .returned (.int .i64 b) ∧ w = w' := by
  have := kanaByte_any g n w; rw [h] at this; exact this
end Go.Proofs.YtbddfefcgfenfaaDoor

/-
  Package encoder: Out, Output, has, Has, told.
-/
import Derived.Test.YtbddfefcgfenfaaDoorBase8
import Derived.Test.YtbddfefcgfenfaaDoorIs
import Derived.Test.YtbddfefcgfenfaaDoorSingle2
import Derived.Test.YtbddfefcgfenfaaDoorKana4
import Derived.Test.YtbddfefcgfenfaaDoorUtf8c
namespace Go.Proofs.YtbddfefcgfenfaaDoor
open Go.RowKit
set_option maxRecDepth 1000000

theorem out_any (n : Int) (w : World) : Calls Tryd.prog 60 #[.int .i64 n] w fun e w' => e = .returned (.int .i64 (M.outE n)) ∧ w = w' := by
  by_cases h1 : n = 2
  · have H := Lib.hid (show M.outE n = 1 by rw [M.outE, if_pos (.inl h1)])
    go_enter Tryd.func60, Tryd.ntmps60
    go_wp2
    go_ret
    exact ⟨by rw [H.out]; rfl, rfl⟩
  · by_cases h2 : n = 3
    · have H := Lib.hid (show M.outE n = 1 by rw [M.outE, if_pos (.inr (.inl h2))])
      have e1 : (n == 2) = false := by simpa using h1
      go_enter Tryd.func60, Tryd.ntmps60
      go_wp2
      go_ret
      exact ⟨by rw [H.out]; rfl, rfl⟩
    · by_cases h3 : n = 7
      · have H := Lib.hid (show M.outE n = 1 by rw [M.outE, if_pos (.inr (.inr h3))])
        have e1 : (n == 2) = false := by simpa using h1
        have e2 : (n == 3) = false := by simpa using h2
        go_enter Tryd.func60, Tryd.ntmps60
        go_wp2
        go_ret
        exact ⟨by rw [H.out]; rfl, rfl⟩
      · have H := Lib.hid (show M.outE n = n by rw [M.outE, if_neg (by omega)])
        have e1 : (n == 2) = false := by simpa using h1
        have e2 : (n == 3) = false := by simpa using h2
        have e3 : (n == 7) = false := by simpa using h3
        go_enter Tryd.func60, Tryd.ntmps60
        go_wp2
        go_ret
        exact ⟨by rw [H.out]; rfl, rfl⟩
theorem output_to (n a k : Int) (h : M.outputE n = (a, k)) (w : World) : Calls Tryd.prog 26 #[.int .i64 n] w fun e w' => e = .returned (.tuple #[.int .i64 a, .int .i64 k]) ∧ w = w' := by
  have hp := h
  unfold M.outputE at hp
  cases hi : M.isEnc n with
  | true =>
    rw [hi, if_pos rfl] at hp
    injection hp with h1 h2
    subst h2
    have HO := Lib.hid h1
    have HI := Lib.hid hi
    clear h h1 hi
    go_enter Tryd.func26, Tryd.ntmps26
    go_wp2_with (first | (go_at_call 56; refine (isEnc_any _ _).mono ?_; rintro e w' ⟨rfl, rfl⟩; rw [HI.out]) | (go_at_call 60; refine (out_any _ _).mono ?_; rintro e w' ⟨rfl, rfl⟩; rw [HO.out]))
    go_ret2
    exact ⟨rfl, rfl⟩
  | false =>
    rw [hi, if_neg (by decide)] at hp
    injection hp with h1 h2
    subst h1; subst h2
    have HI := Lib.hid hi
    clear h hi
    go_enter Tryd.func26, Tryd.ntmps26
    go_wp2_with (first | (go_at_call 56; refine (isEnc_any _ _).mono ?_; rintro e w' ⟨rfl, rfl⟩; rw [HI.out]))
    go_ret2
    exact ⟨rfl, rfl⟩
theorem kanaHas_any (n : Int) (w : World) : Calls Tryd.prog 93 #[.int .i64 n] w fun e w' => e = .returned (.bool (M.hasK n)) ∧ Bel w w' := by
  have neg : ∀ g, ¬ 0 ≤ M.byteK g n → M.byteK g n = -1 := fun g h => by
    rcases M.byteK_or g n with h1 | ⟨c, _, h2, _⟩
    · exact h1
    · omega
  by_cases h : 0 ≤ M.findK 0 n
  · have HF := Lib.hid (show M.hasK n = true by rw [M.hasK, decide_eq_true_eq]; exact h)
    rcases M.findK_cases 0 n with h1 | ⟨_, h1⟩
    · omega
    · obtain ⟨c, hc⟩ := Int.eq_ofNat_of_zero_le h1
      obtain ⟨g, hg⟩ : ∃ g, M.findK 0 n = g := ⟨_, rfl⟩
      rw [hg] at h hc
      have HG := Lib.hid hg
      have HC := Lib.hid hc
      clear hg hc h1 neg
      go_enter Tryd.func93, Tryd.ntmps93
      go_wp2_with (go_at_call 132; refine (find_yes 0 n g c HG.out h HC.out _).mono ?_; rintro e w' ⟨rfl, hb⟩)
      go_ret
      exact ⟨by rw [HF.out]; rfl, hb⟩
  · have HF := Lib.hid (show M.hasK n = false by rw [M.hasK, decide_eq_false_iff_not]; exact h)
    have h0 : ¬ 0 ≤ M.byteK 0 n := fun h9 => h (by unfold M.findK; rw [if_pos h9]; exact Int.le_refl _)
    have h1 : ¬ 0 ≤ M.byteK 1 n := fun h9 => h (by unfold M.findK; rw [if_neg h0, if_neg h0, if_pos h9]; decide)
    have h2 : ¬ 0 ≤ M.byteK 2 n := fun h9 => h (by unfold M.findK; rw [if_neg h0, if_neg h0, if_neg h1, if_pos h9]; decide)
    have H0 := Lib.hid (neg 0 h0)
    have H1 := Lib.hid (neg 1 h1)
    have H2 := Lib.hid (neg 2 h2)
    clear h0 h1 h2 neg h
    go_enter Tryd.func93, Tryd.ntmps93
    go_wp2_with (go_at_call 132; refine (find_no 0 n H0.out H0.out H1.out H2.out _).mono ?_; rintro e w' ⟨rfl, hb⟩)
    go_ret
    exact ⟨by rw [HF.out]; rfl, hb⟩
theorem tellsS_has (user : Bool) (n : Int) : ∃ a k, M.tellsS user n = (a, k) ∧ (k == 0) = decide (0 ≤ M.byteOf user n) := by
  unfold M.tellsS
  split
  · rename_i h; exact ⟨0, 5, rfl, by rw [decide_eq_false (by omega)]; rfl⟩
  · rename_i h; exact ⟨_, 0, rfl, by rw [decide_eq_true (by omega)]; rfl⟩
theorem tells_to2 (user : Bool) (n a k : Int) (h : M.tellsS user n = (a, k)) (w : World) : Calls Tryd.prog 92 #[.bool user, .int .i64 n] w fun e w' => e = .returned (.tuple #[.int .i64 a, .int .i64 k]) ∧ Bel w w' := by
  have := tells_any user n w; rw [h] at this; exact this
theorem has_any (e n : Int) (w : World) : Calls Tryd.prog 62 #[.int .i64 e, .int .i64 n] w fun r w' => r = .returned (.bool (M.hasE e n)) ∧ Bel w w' := by
  by_cases h4 : e = 4
  · subst h4
    obtain ⟨a, k, hT, hk⟩ := tellsS_has false n
    have HT := Lib.hid hT
    have H := Lib.hid (show M.hasE 4 n = (k == 0) by rw [M.hasE, if_pos (.inl rfl), hk]; rfl)
    clear hT hk
    go_enter Tryd.func62, Tryd.ntmps62
    go_wp2_with (go_at_call 92; refine (tells_to2 false n a k HT.out _).mono ?_; rintro e w' ⟨rfl, hb⟩)
    go_ret
    exact ⟨by rw [H.out]; rfl, hb⟩
  · by_cases h5 : e = 5
    · subst h5
      obtain ⟨a, k, hT, hk⟩ := tellsS_has true n
      have HT := Lib.hid hT
      have H := Lib.hid (show M.hasE 5 n = (k == 0) by rw [M.hasE, if_pos (.inr rfl), hk]; rfl)
      clear hT hk
      go_enter Tryd.func62, Tryd.ntmps62
      go_wp2_with (go_at_call 92; refine (tells_to2 true n a k HT.out _).mono ?_; rintro e w' ⟨rfl, hb⟩)
      go_ret
      exact ⟨by rw [H.out]; rfl, hb⟩
    · have e1 : (e == 4) = false := by simpa using h4
      have e2 : (e == 5) = false := by simpa using h5
      by_cases h6 : e = 6
      · subst h6
        have H := Lib.hid (show M.hasE 6 n = M.hasK n by rw [M.hasE, if_neg (by omega), if_pos rfl])
        go_enter Tryd.func62, Tryd.ntmps62
        go_wp2_with (go_at_call 93; refine (kanaHas_any _ _).mono ?_; rintro e w' ⟨rfl, hb⟩)
        go_ret
        exact ⟨by rw [H.out]; rfl, hb⟩
      · have e3 : (e == 6) = false := by simpa using h6
        have H := Lib.hid (show M.hasE e n = true by rw [M.hasE, if_neg (by omega), if_neg h6])
        go_enter Tryd.func62, Tryd.ntmps62
        go_wp2_with fail
        go_ret
        exact ⟨by rw [H.out]; rfl, Bel.refl _⟩
theorem has_to (e n : Int) (b : Bool) (k : Int) (h : M.hasEE e n = (b, k)) (w : World) : Calls Tryd.prog 27 #[.int .i64 e, .int .i64 n] w fun r w' => r = .returned (.tuple #[.bool b, .int .i64 k]) ∧ Bel w w' := by
  have hp := h
  unfold M.hasEE at hp
  cases hi : M.isEnc e with
  | false =>
    rw [hi, if_pos rfl] at hp
    injection hp with h1 h2
    subst h1; subst h2
    have HI := Lib.hid hi
    clear h hi
    go_enter Tryd.func27, Tryd.ntmps27
    go_wp2_with (first | (go_at_call 56; refine (isEnc_any _ _).mono ?_; rintro e w' ⟨rfl, rfl⟩; rw [HI.out]))
    go_ret2
    exact ⟨rfl, Bel.refl _⟩
  | true =>
    rw [hi, if_neg (by decide)] at hp
    cases hs : M.scalar n with
    | false =>
      rw [hs, if_pos rfl] at hp
      injection hp with h1 h2
      subst h1; subst h2
      have HI := Lib.hid hi
      have HS := Lib.hid hs
      clear h hi hs
      go_enter Tryd.func27, Tryd.ntmps27
      go_wp2_with (first | (go_at_call 56; refine (isEnc_any _ _).mono ?_; rintro e w' ⟨rfl, rfl⟩; rw [HI.out]) | (go_at_call 61; refine (scalar_any _ _).mono ?_; rintro e w' ⟨rfl, rfl⟩; rw [HS.out]))
      go_ret2
      exact ⟨rfl, Bel.refl _⟩
    | true =>
      rw [hs, if_neg (by decide)] at hp
      injection hp with h1 h2
      subst h2
      have HI := Lib.hid hi
      have HS := Lib.hid hs
      have HH := Lib.hid h1
      clear h hi hs h1
      go_enter Tryd.func27, Tryd.ntmps27
      go_wp2_with (first | (go_at_call 56; refine (isEnc_any _ _).mono ?_; rintro e w' ⟨rfl, rfl⟩; rw [HI.out]) | (go_at_call 61; refine (scalar_any _ _).mono ?_; rintro e w' ⟨rfl, rfl⟩; rw [HS.out]) | (go_at_call 60; refine (out_any _ _).mono ?_; rintro e w' ⟨rfl, rfl⟩) | (go_at_call 62; refine (has_any _ _ _).mono ?_; rintro e w' ⟨rfl, hb⟩; rw [HH.out]))
      go_ret2
      exact ⟨rfl, hb⟩
end Go.Proofs.YtbddfefcgfenfaaDoor

/-
  The document's answers on marks: what the reference computes is what the package computes.
-/
import Derived.Test.YtplpbhocgdobdaaMark
import Derived.Test.YtplpbhocgdobdaaPlainMark
namespace Go.Proofs.Ytplpbhocgdobdaa
open Go.RowKit

theorem between_any (n a b : Int) (w : World) : Calls Try.prog 17 #[.int .i64 n, .int .i64 a, .int .i64 b] w fun e w' => e = .returned (.bool (decide (a ≤ n ∧ n ≤ b))) ∧ w = w' := by
  by_cases h : a ≤ n <;> by_cases h2 : n ≤ b
  all_goals
    go_enter Try.func17, Try.ntmps17
    go_wp2
    go_ret
    refine ⟨?_, rfl⟩
    simp
    omega
theorem isEncoding_any (n : Int) (w : World) : Calls Try.prog 7 #[.int .i64 n] w fun e w' => e = .returned (.bool (M.isEnc n)) ∧ w = w' := by
  have H := Lib.hid (show decide (1 ≤ n ∧ n ≤ 7) = M.isEnc n from rfl)
  go_enter Try.func7, Try.ntmps7
  go_wp2_with (go_at_call 17; refine (between_any _ _ _ _).mono ?_; rintro e w' ⟨rfl, rfl⟩)
  go_ret
  refine ⟨?_, rfl⟩
  rw [← H.out]
  exact ret_bool (by simp)
theorem tooLong_any (s : ByteArray) (w : World) : Calls Try.prog 8 #[.string s] w fun e w' => e = .returned (.int .i64 (M.long s.data.toList)) ∧ w = w' := by
  by_cases h : 3000 < s.size
  · have H := Lib.hid (show M.long s.data.toList = 2 by rw [M.long, if_pos (by rw [← Lib.size_eq]; exact h)])
    go_enter Try.func8, Try.ntmps8
    go_wp2
    go_ret
    exact ⟨by rw [H.out]; rfl, rfl⟩
  · have H := Lib.hid (show M.long s.data.toList = 0 by rw [M.long, if_neg (by rw [← Lib.size_eq]; exact h)])
    go_enter Try.func8, Try.ntmps8
    go_wp2
    go_ret
    exact ⟨by rw [H.out]; rfl, rfl⟩
theorem markOf_any (n : Int) (w : World) : Calls Try.prog 9 #[.int .i64 n] w fun e w' => e = .returned (.string ⟨(M.markOf n).toArray⟩) ∧ w = w' := by
  have H : (n == 1) = true ∨ (n == 1) = false ∧ ((n == 2) = true ∨ (n == 2) = false ∧ ((n == 3) = true ∨ (n == 3) = false)) := by
    cases (n == 1) <;> cases (n == 2) <;> cases (n == 3) <;> simp
  rcases H with h | ⟨h, h2 | ⟨h2, h3 | h3⟩⟩
  all_goals
    go_enter Try.func9, Try.ntmps9
    go_wp2
    go_ret
    refine ⟨?_, rfl⟩
  · obtain rfl : n = 1 := by simpa using h
    rfl
  · obtain rfl : n = 2 := by simpa using h2
    rfl
  · obtain rfl : n = 3 := by simpa using h3
    rfl
  · have e : M.markOf n = [] := by
      simp only [beq_eq_false_iff_ne, ne_eq] at h h2 h3
      rw [M.markOf, if_neg (fun x => h x.symm), if_neg (fun x => h3 x.symm), if_neg (fun x => h2 x.symm)]
    rw [e]; rfl
theorem sniffOf_any (s : ByteArray) (w : World) : Calls Try.prog 6 #[.string s] w fun e w' => e = .returned (.tuple #[.int .i64 (M.sniff s.data.toList).1, .int .i64 (M.sniff s.data.toList).2]) ∧ w = w' := by
  have e1 : M.markOf 1 = [239, 187, 191] := rfl
  have e2 : M.markOf 2 = [255, 254] := rfl
  have e3 : M.markOf 3 = [254, 255] := rfl
  have HS := Lib.hid (show M.sniff s.data.toList = (if (decide ((3 : Int) ≤ (s.size : Int)) && ((s.extract 0 3).toList == [239, 187, 191])) = true then (1, 3) else if (decide ((2 : Int) ≤ (s.size : Int)) && ((s.extract 0 2).toList == [254, 255])) = true then (3, 2) else if (decide ((2 : Int) ≤ (s.size : Int)) && ((s.extract 0 2).toList == [255, 254])) = true then (2, 2) else (0, 0)) by
    have H1 := Lib.hasPrefix_raw s ⟨#[239, 187, 191]⟩
    have H2 := Lib.hasPrefix_raw s ⟨#[255, 254]⟩
    have H3 := Lib.hasPrefix_raw s ⟨#[254, 255]⟩
    have d3 : decide ((3 : Int) ≤ (s.size : Int)) = decide (3 ≤ s.size) := by norm_cast
    have d2 : decide ((2 : Int) ≤ (s.size : Int)) = decide (2 ≤ s.size) := by norm_cast
    rw [d3, d2]
    unfold M.sniff
    rw [show ([239, 187, 191] : List UInt8) = (⟨#[239, 187, 191]⟩ : ByteArray).data.toList from rfl, show ([255, 254] : List UInt8) = (⟨#[255, 254]⟩ : ByteArray).data.toList from rfl, show ([254, 255] : List UInt8) = (⟨#[254, 255]⟩ : ByteArray).data.toList from rfl, ← H1, ← H2, ← H3]
    simp [show (⟨#[239, 187, 191]⟩ : ByteArray).size = 3 from rfl, show (⟨#[254, 255]⟩ : ByteArray).size = 2 from rfl, show (⟨#[255, 254]⟩ : ByteArray).size = 2 from rfl])
  go_enter Try.func6, Try.ntmps6
  go_wp2_with (go_at_call 9; refine (markOf_any _ _).mono ?_; rintro e w' ⟨rfl, rfl⟩)
  refine wp_loop_rounds 4 ?_
  rw [rounds_succ]
  go_wp2_with (go_at_call 9; refine (markOf_any _ _).mono ?_; rintro e w' ⟨rfl, rfl⟩)
  all_goals try (rw [rounds_succ]; go_wp2_with (go_at_call 9; refine (markOf_any _ _).mono ?_; rintro e w' ⟨rfl, rfl⟩))
  all_goals try (rw [rounds_succ]; go_wp2_with (go_at_call 9; refine (markOf_any _ _).mono ?_; rintro e w' ⟨rfl, rfl⟩))
  all_goals try (rw [rounds_succ]; go_wp2_with (go_at_call 9; refine (markOf_any _ _).mono ?_; rintro e w' ⟨rfl, rfl⟩))
  all_goals try (go_quiet (fail); go_wp2)
  all_goals go_ret2
  all_goals refine ⟨?_, rfl⟩
  all_goals (try have n2 : decide ((2 : Int) ≤ (s.size : Int)) = false := by (simp; omega))
  all_goals (try have n3 : decide ((3 : Int) ≤ (s.size : Int)) = false := by (simp; omega))
  all_goals (try have p2 : decide ((2 : Int) ≤ (s.size : Int)) = true := by (simp; omega))
  all_goals (try have p3 : decide ((3 : Int) ≤ (s.size : Int)) = true := by (simp; omega))
  all_goals rw [HS.out]
  all_goals (try simp only [*, Bool.false_and, Bool.true_and])
  all_goals (try simp_all)
theorem mayOf_any (s : ByteArray) (w : World) : Calls Try.prog 12 #[.string s] w fun e w' => e = .returned (.bool (M.may s.data.toList)) ∧ w = w' := by
  have H := Lib.hid (M.may_eq s.toList)
  rw [← Lib.toList_data]
  go_enter Try.func12, Try.ntmps12
  go_wp2
  all_goals go_ret
  all_goals refine ⟨?_, rfl⟩
  all_goals rw [H.out]
  all_goals (simp_all; done)
end Go.Proofs.Ytplpbhocgdobdaa

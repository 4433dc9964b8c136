/-
  Small answers: is a number between two, is it an encoding, is a text too long.
-/
import Derived.Test.YthjafhoahhdlnaaBase2
import Derived.Test.YthjafhoahhdlnaaPlain
namespace Go.Proofs.Ythjafhoahhdlnaa
open Go.RowKit

theorem between_any (n a b : Int) (w : World) : Calls Try.prog 34 #[.int .i64 n, .int .i64 a, .int .i64 b] w fun e w' => e = .returned (.bool (decide (a ≤ n ∧ n ≤ b))) ∧ w = w' := by
  by_cases h : a ≤ n <;> by_cases h2 : n ≤ b
  all_goals
    go_enter Try.func34, Try.ntmps34
    go_wp2
    go_ret
    refine ⟨?_, rfl⟩
    simp
    omega
theorem isEncoding_any (n : Int) (w : World) : Calls Try.prog 21 #[.int .i64 n] w fun e w' => e = .returned (.bool (M.isEnc n)) ∧ w = w' := by
  have H := Lib.hid (show decide (1 ≤ n ∧ n ≤ 7) = M.isEnc n from rfl)
  go_enter Try.func21, Try.ntmps21
  go_wp2_with (go_at_call 34; refine (between_any _ _ _ _).mono ?_; rintro e w' ⟨rfl, rfl⟩)
  go_ret
  refine ⟨?_, rfl⟩
  rw [← H.out]
  exact ret_bool (by simp)
theorem tooLong_any (s : ByteArray) (w : World) : Calls Try.prog 14 #[.string s] w fun e w' => e = .returned (.int .i64 (M.long s.data.toList)) ∧ w = w' := by
  by_cases h : 3000 < s.size
  · have H := Lib.hid (show M.long s.data.toList = 2 by rw [M.long, if_pos (by rw [← Lib.size_eq]; exact h)])
    go_enter Try.func14, Try.ntmps14
    go_wp2
    go_ret
    exact ⟨by rw [H.out]; rfl, rfl⟩
  · have H := Lib.hid (show M.long s.data.toList = 0 by rw [M.long, if_neg (by rw [← Lib.size_eq]; exact h)])
    go_enter Try.func14, Try.ntmps14
    go_wp2
    go_ret
    exact ⟨by rw [H.out]; rfl, rfl⟩
end Go.Proofs.Ythjafhoahhdlnaa

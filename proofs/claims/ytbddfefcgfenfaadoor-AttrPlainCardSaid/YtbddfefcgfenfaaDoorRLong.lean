/-
  Small answers: is a number between two, is it an encoding, is a text too long.
-/
import Derived.Test.YtbddfefcgfenfaaDoorBase2
import Derived.Test.YtbddfefcgfenfaaDoorPlain
namespace Go.Proofs.YtbddfefcgfenfaaDoor
open Go.RowKit

theorem between_any (n a b : Int) (w : World) : Calls Tryd.prog 58 #[.int .i64 n, .int .i64 a, .int .i64 b] w fun e w' => e = .returned (.bool (decide (a ≤ n ∧ n ≤ b))) ∧ w = w' := by
  by_cases h : a ≤ n <;> by_cases h2 : n ≤ b
  all_goals
    go_enter Tryd.func58, Tryd.ntmps58
    go_wp2
    go_ret
    refine ⟨?_, rfl⟩
    simp
    omega
theorem isEncoding_any (n : Int) (w : World) : Calls Tryd.prog 23 #[.int .i64 n] w fun e w' => e = .returned (.bool (M.isEnc n)) ∧ w = w' := by
  have H := Lib.hid (show decide (1 ≤ n ∧ n ≤ 7) = M.isEnc n from rfl)
  go_enter Tryd.func23, Tryd.ntmps23
  go_wp2_with (go_at_call 58; refine (between_any _ _ _ _).mono ?_; rintro e w' ⟨rfl, rfl⟩)
  go_ret
  refine ⟨?_, rfl⟩
  rw [← H.out]
  exact ret_bool (by simp)
theorem tooLong_any (s : ByteArray) (w : World) : Calls Tryd.prog 37 #[.string s] w fun e w' => e = .returned (.int .i64 (M.long s.data.toList)) ∧ w = w' := by
  by_cases h : 3000 < s.size
  · have H := Lib.hid (show M.long s.data.toList = 2 by rw [M.long, if_pos (by rw [← Lib.size_eq]; exact h)])
    go_enter Tryd.func37, Tryd.ntmps37
    go_wp2
    go_ret
    exact ⟨by rw [H.out]; rfl, rfl⟩
  · have H := Lib.hid (show M.long s.data.toList = 0 by rw [M.long, if_neg (by rw [← Lib.size_eq]; exact h)])
    go_enter Tryd.func37, Tryd.ntmps37
    go_wp2
    go_ret
    exact ⟨by rw [H.out]; rfl, rfl⟩
end Go.Proofs.YtbddfefcgfenfaaDoor

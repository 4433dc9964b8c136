/-
  Small answers: is a number between two, is it an encoding, is a text too long.
-/
import Derived.Test.YthaoohckgilahaaDoorBase2
import Derived.Test.YthaoohckgilahaaDoorPlain
namespace Go.Proofs.YthaoohckgilahaaDoor
open Go.RowKit

theorem between_any (n a b : Int) (w : World) : Calls Tryd.prog 56 #[.int .i64 n, .int .i64 a, .int .i64 b] w fun e w' => e = .returned (.bool (decide (a ≤ n ∧ n ≤ b))) ∧ w = w' := by
  by_cases h : a ≤ n <;> by_cases h2 : n ≤ b
  all_goals
    go_enter Tryd.func56, Tryd.ntmps56
    go_wp2
    go_ret
    refine ⟨?_, rfl⟩
    simp
    omega
theorem tooLong_any (s : ByteArray) (w : World) : Calls Tryd.prog 11 #[.string s] w fun e w' => e = .returned (.int .i64 (M.long s.data.toList)) ∧ w = w' := by
  by_cases h : 3000 < s.size
  · have H := Lib.hid (show M.long s.data.toList = 2 by rw [M.long, if_pos (by rw [← Lib.size_eq]; exact h)])
    go_enter Tryd.func11, Tryd.ntmps11
    go_wp2
    go_ret
    exact ⟨by rw [H.out]; rfl, rfl⟩
  · have H := Lib.hid (show M.long s.data.toList = 0 by rw [M.long, if_neg (by rw [← Lib.size_eq]; exact h)])
    go_enter Tryd.func11, Tryd.ntmps11
    go_wp2
    go_ret
    exact ⟨by rw [H.out]; rfl, rfl⟩
end Go.Proofs.YthaoohckgilahaaDoor

/-
  Small answers that several laws ask.
-/
import Derived.Test.YthaoohckgilahaaDoorRLong
import Derived.Test.YthaoohckgilahaaDoorRInts
namespace Go.Proofs.YthaoohckgilahaaDoor
open Go.RowKit
set_option maxRecDepth 1000000

theorem long_to (s : ByteArray) (n : Int) (h : M.long s.data.toList = n) (w : World) : Calls Tryd.prog 11 #[.string s] w fun e w' => e = .returned (.int .i64 n) ∧ w = w' := by
  have := tooLong_any s w; rw [h] at this; exact this
theorem long_cases (s : ByteArray) : (3000 < s.size ∧ M.long s.data.toList = 2) ∨ (s.size ≤ 3000 ∧ M.long s.data.toList = 0) := by
  by_cases h : 3000 < s.size
  · exact .inl ⟨h, by rw [M.long, if_pos (by rw [← Lib.size_eq]; exact h)]⟩
  · exact .inr ⟨by omega, by rw [M.long, if_neg (by rw [← Lib.size_eq]; exact h)]⟩
end Go.Proofs.YthaoohckgilahaaDoor

/-
  Package label: Is.
-/
import Derived.Test.YthjafhoahhdlnaaBase2
import Derived.Test.YthjafhoahhdlnaaPlain
namespace Go.Proofs.Ythjafhoahhdlnaa
open Go.RowKit

theorem isEnc_any (n : Int) (w : World) : Calls Try.prog 32 #[.int .i64 n] w fun e w' => e = .returned (.bool (M.isEnc n)) ∧ w = w' := by
  by_cases h : 1 ≤ n <;> by_cases h2 : n ≤ 7
  all_goals
    go_enter Try.func32, Try.ntmps32
    go_wp2
    go_ret
    refine ⟨?_, rfl⟩
    simp [M.isEnc]
    omega
end Go.Proofs.Ythjafhoahhdlnaa

/-
  Package label: Is.
-/
import Derived.Test.YtbddfefcgfenfaaDoorBase2
import Derived.Test.YtbddfefcgfenfaaDoorPlain
namespace Go.Proofs.YtbddfefcgfenfaaDoor
open Go.RowKit

theorem isEnc_any (n : Int) (w : World) : Calls Tryd.prog 56 #[.int .i64 n] w fun e w' => e = .returned (.bool (M.isEnc n)) ∧ w = w' := by
  by_cases h : 1 ≤ n <;> by_cases h2 : n ≤ 7
  all_goals
    go_enter Tryd.func56, Tryd.ntmps56
    go_wp2
    go_ret
    refine ⟨?_, rfl⟩
    simp [M.isEnc]
    omega
end Go.Proofs.YtbddfefcgfenfaaDoor

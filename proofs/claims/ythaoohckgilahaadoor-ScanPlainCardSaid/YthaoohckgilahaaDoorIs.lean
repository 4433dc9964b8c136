/-
  Package label: Is.
-/
import Derived.Test.YthaoohckgilahaaDoorBase2
import Derived.Test.YthaoohckgilahaaDoorPlain
namespace Go.Proofs.YthaoohckgilahaaDoor
open Go.RowKit

theorem isEnc_any (n : Int) (w : World) : Calls Tryd.prog 62 #[.int .i64 n] w fun e w' => e = .returned (.bool (M.isEnc n)) ∧ w = w' := by
  by_cases h : 1 ≤ n <;> by_cases h2 : n ≤ 7
  all_goals
    go_enter Tryd.func62, Tryd.ntmps62
    go_wp2
    go_ret
    refine ⟨?_, rfl⟩
    simp [M.isEnc]
    omega
end Go.Proofs.YthaoohckgilahaaDoor

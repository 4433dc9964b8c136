/-
  Package utf8: what Scalar, Points, Bytes, Encode compute.
-/
import Derived.Test.YthjafhoahhdlnaaBase4
import Derived.Test.YthjafhoahhdlnaaBits
import Derived.Test.YthjafhoahhdlnaaPlainUtf8
namespace Go.Proofs.Ythjafhoahhdlnaa
open Go.RowKit
set_option maxRecDepth 1000000

def IdxSays (xs : List Int) (n : Int) : Prop := 0 ≤ n ↔ xs.all M.scalar = false
theorem points_scalars (xs : List Int) (h : M.points xs = 0) : xs.length ≤ 3000 ∧ ∀ n ∈ xs, M.scalar n = true := by
  unfold M.points at h
  split at h
  · cases h
  · split at h
    · rename_i hs
      exact ⟨by omega, List.all_eq_true.1 hs⟩
    · cases h
theorem scalar_bounds (n : Int) (h : M.scalar n = true) : 0 ≤ n ∧ n ≤ 1114111 ∧ (n < 55296 ∨ 57343 < n) := by simpa [M.scalar] using h
end Go.Proofs.Ythjafhoahhdlnaa

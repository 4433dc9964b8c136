/-
  The document's answers on UTF-16: unitAt, DecodeUtf16, EncodeUtf16.
-/
import Derived.Test.YtbddfefcgfenfaaDoorUtf16
import Derived.Test.YtbddfefcgfenfaaDoorRUtf8
import Derived.RegionTactic
import Derived.BigRegion
namespace Go.Proofs.YtbddfefcgfenfaaDoor
open Go.RowKit
set_option maxRecDepth 1000000

theorem between_to (n a b : Int) (c : Bool) (h : decide (a ≤ n ∧ n ≤ b) = c) (w : World) : Calls Tryd.prog 58 #[.int .i64 n, .int .i64 a, .int .i64 b] w fun e w' => e = .returned (.bool c) ∧ w = w' := by
  have := between_any n a b w; rw [h] at this; exact this
theorem drop_two (l : List UInt8) (k : Nat) (a b : UInt8) (t : List UInt8) (h : l.drop k = a :: b :: t) : l[k]? = some a ∧ l[k + 1]? = some b ∧ l.drop (k + 2) = t := by
  refine ⟨?_, ?_, ?_⟩
  · have := List.getElem?_drop (xs := l) (i := k) (j := 0); rw [h] at this; simpa using this.symm
  · have := List.getElem?_drop (xs := l) (i := k) (j := 1); rw [h] at this; simpa using this.symm
  · have := List.drop_drop (l := l) (i := 2) (j := k); rw [h] at this; simpa using this.symm
end Go.Proofs.YtbddfefcgfenfaaDoor

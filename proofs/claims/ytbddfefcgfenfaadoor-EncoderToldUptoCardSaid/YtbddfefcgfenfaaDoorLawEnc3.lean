/-
  EncoderTold, as the row hands its arguments over.
-/
import Derived.Test.YtbddfefcgfenfaaDoorLawEnc2
namespace Go.Proofs.YtbddfefcgfenfaaDoor
open Go.RowKit
theorem encoderTold_of (e : Int) (v1 : Value) (xs : List Int) (v2 : Value) (ys : List Int) (w : World) (_ : -9223372036854775808 ≤ e ∧ e ≤ 9223372036854775807) (hv1 : IntSl w v1 xs) (_ : xs.length * 8 ≤ reachBytes) (_ : ∀ n ∈ xs, -9223372036854775808 ≤ n ∧ n ≤ 9223372036854775807) (hl1 : xs.length ≤ 1048576)
    (hv2 : IntSl w v2 ys) (_ : ys.length * 8 ≤ reachBytes) (_ : ∀ n ∈ ys, -9223372036854775808 ≤ n ∧ n ≤ 9223372036854775807) (hl2 : ys.length ≤ 1048576) (htab : Tab w) :
    Calls Tryd.prog 6 #[.int .i64 e, v1, v2] w fun r w' => r = .returned (.bool true) ∧ Bel w w' := encoderToldTrue e v1 v2 xs ys w hv1 hv2 hl1 hl2 htab
end Go.Proofs.YtbddfefcgfenfaaDoor

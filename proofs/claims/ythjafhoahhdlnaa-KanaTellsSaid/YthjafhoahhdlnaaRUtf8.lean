/-
  The document's answers on UTF-8: IsScalar, CheckPoints, Row, EncodeUtf8.
-/
import Derived.Test.YthjafhoahhdlnaaUtf8c
import Derived.Test.YthjafhoahhdlnaaRInts
import Derived.Test.YthjafhoahhdlnaaRLong
namespace Go.Proofs.Ythjafhoahhdlnaa
open Go.RowKit
set_option maxRecDepth 1000000

theorem row8_le (n : Int) : (M.row8 n).length ≤ 4 := by unfold M.row8; (repeat' split) <;> simp
end Go.Proofs.Ythjafhoahhdlnaa

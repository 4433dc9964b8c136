/-
  The plain functions that the Go text computes, and the plain laws about them: lists of bytes and numbers, no program in sight.
-/
import Derived.Lib.Strings
namespace Go.Proofs.Ytplpbhocgdobdaa.M
open Go

abbrev Bs := List UInt8

/-! ## marks -/
def sniff (l : Bs) : Int × Int :=
  if Lib.hasPrefix l [239, 187, 191] then (1, 3) else if Lib.hasPrefix l [254, 255] then (3, 2) else if Lib.hasPrefix l [255, 254] then (2, 2) else (0, 0)
def may (l : Bs) : Bool :=
  (decide (l.length < 3) && Lib.hasPrefix [239, 187, 191] l) || (decide (l.length < 2) && Lib.hasPrefix [254, 255] l) || (decide (l.length < 2) && Lib.hasPrefix [255, 254] l)
def markOf (n : Int) : Bs := if 1 = n then [239, 187, 191] else if 3 = n then [254, 255] else if 2 = n then [255, 254] else []
def isEnc (n : Int) : Bool := decide (1 ≤ n ∧ n ≤ 7)
def put (n : Int) (l : Bs) : Bs × Int := if isEnc n = false then ([], 6) else if 3000 < l.length then ([], 2) else (markOf n ++ l, 0)
def long (l : Bs) : Int := if 3000 < l.length then 2 else 0
end Go.Proofs.Ytplpbhocgdobdaa.M

/-
  The plain functions that the Go text computes, and the plain laws about them: lists of bytes and numbers, no program in sight.
-/
import Derived.Lib.Strings
namespace Go.Proofs.YthaoohckgilahaaDoor.M
open Go

abbrev Bs := List UInt8

/-! ## marks -/
def sniff (l : Bs) : Int × Int :=
  if Lib.hasPrefix l [239, 187, 191] then (1, 3) else if Lib.hasPrefix l [254, 255] then (3, 2) else if Lib.hasPrefix l [255, 254] then (2, 2) else (0, 0)
def may (l : Bs) : Bool :=
  (decide (l.length < 3) && Lib.hasPrefix [239, 187, 191] l) || (decide (l.length < 2) && Lib.hasPrefix [254, 255] l) || (decide (l.length < 2) && Lib.hasPrefix [255, 254] l)
def markOf (n : Int) : Bs := if 1 = n then [239, 187, 191] else if 3 = n then [254, 255] else if 2 = n then [255, 254] else []
def isEnc (n : Int) : Bool := decide (1 ≤ n ∧ n ≤ 7)
def put (n : Int) (l : Bs) : Bs × Int := if isEnc n = false then ([], 6) else if 3000 < l.length then ([], 2) else (markOf n ++ l, 0)
def long (l : Bs) : Int := if 3000 < l.length then 2 else 0

/-! ## a byte a sign -/
def high : List Int := [8364, 129, 8218, 402, 8222, 8230, 8224, 8225, 710, 8240, 352, 8249, 338, 141, 381, 143, 144, 8216, 8217, 8220, 8221, 8226, 8211, 8212, 732, 8482, 353, 8250, 339, 157, 382, 376]
def pointOf (user : Bool) (c : Nat) : Int := if c < 128 then (c : Int) else if user = true then 63232 + (c : Int) else if c < 160 then high[c - 128]?.getD 0 else (c : Int)
def tableOf (user : Bool) : List Int := (List.range 256).map (pointOf user)
def idx (xs : List Int) (n : Int) : Int := match xs.findIdx? (fun x => x == n) with | some i => (i : Int) | none => -1
def byteOf (user : Bool) (n : Int) : Int := idx (tableOf user) n
def decodeS (user : Bool) (l : Bs) : List Int := l.map (fun c => pointOf user c.toNat)
def decS (user : Bool) (l : Bs) : List Int × Int := if 3000 < l.length then ([], 2) else (decodeS user l, 0)
def tellsS (user : Bool) (n : Int) : Int × Int := if byteOf user n < 0 then (0, 5) else (byteOf user n, 0)
def encodeS (user : Bool) : List Int → Option Bs
  | [] => some []
  | n :: t => if byteOf user n < 0 then none else (encodeS user t).map (UInt8.ofNat (byteOf user n).toNat :: ·)
def rawS (user : Bool) (xs : List Int) : Bs × Int := match encodeS user xs with | some b => (b, 0) | none => ([], 5)
def encS (user : Bool) (xs : List Int) : Bs × Int := if 3000 < xs.length then ([], 2) else rawS user xs
end Go.Proofs.YthaoohckgilahaaDoor.M

/-
  Bits: 'or' of numbers whose bits lie apart is their sum.
-/
import Derived.WalkKit
import Derived.Laws.BitsAllLaws
import Derived.Laws.BitsLemmas
namespace Go.Proofs.YtbddfefcgfenfaaDoor
open Go.RowKit

theorem ofInt_i64 (a : Nat) (ha : a < 9223372036854775808) : (BitVec.ofInt 64 (a : Int)).toNat = a := by
  rw [BitVec.ofInt_natCast, BitVec.toNat_ofNat]; exact Nat.mod_eq_of_lt (by omega)
theorem i64_or_nat (a b : Nat) (ha : a < 9223372036854775808) (hb : b < 9223372036854775808) : bits .or .i64 (a : Int) (b : Int) = ((a ||| b : Nat) : Int) := by
  have hx : a ||| b < 2 ^ 63 := Nat.or_lt_two_pow (by omega) (by omega)
  show IntKind.i64.wrap ((BitVec.ofInt 64 (a : Int) ||| BitVec.ofInt 64 (b : Int)).toNat : Int) = _
  rw [BitVec.toNat_or, ofInt_i64 a ha, ofInt_i64 b hb, IntKind.wrap_i64]
  omega
theorem i64_and_nat (a b : Nat) (ha : a < 9223372036854775808) (hb : b < 9223372036854775808) : bits .and .i64 (a : Int) (b : Int) = ((a &&& b : Nat) : Int) := by
  have hx : a &&& b < 2 ^ 63 := Nat.and_lt_two_pow _ (by omega)
  show IntKind.i64.wrap ((BitVec.ofInt 64 (a : Int) &&& BitVec.ofInt 64 (b : Int)).toNat : Int) = _
  rw [BitVec.toNat_and, ofInt_i64 a ha, ofInt_i64 b hb, IntKind.wrap_i64]
  omega
theorem and_63 (x : Int) (h0 : 0 ≤ x) (h1 : x ≤ 4611686018427387904) : bits .and .i64 x 63 = x % 64 := by
  obtain ⟨m, rfl⟩ := Int.eq_ofNat_of_zero_le h0
  have := i64_and_nat m 63 (by omega) (by omega)
  rw [show (63 : Nat) = 2 ^ 6 - 1 from rfl, Nat.and_two_pow_sub_one_eq_mod] at this
  rw [show ((63 : Int)) = ((2 ^ 6 - 1 : Nat) : Int) from rfl, this]
  omega
theorem and_1023 (x : Int) (h0 : 0 ≤ x) (h1 : x ≤ 4611686018427387904) : bits .and .i64 x 1023 = x % 1024 := by
  obtain ⟨m, rfl⟩ := Int.eq_ofNat_of_zero_le h0
  have := i64_and_nat m 1023 (by omega) (by omega)
  rw [show (1023 : Nat) = 2 ^ 10 - 1 from rfl, Nat.and_two_pow_sub_one_eq_mod] at this
  rw [show ((1023 : Int)) = ((2 ^ 10 - 1 : Nat) : Int) from rfl, this]
  omega
/-- Bits that lie apart. -/
theorem or_apart (i a : Nat) (x : Int) (h0 : 0 ≤ x) (h1 : x < 2 ^ i) (hb : 2 ^ i * a + 2 ^ i ≤ 9223372036854775807) : bits .or .i64 ((2 ^ i * a : Nat) : Int) x = ((2 ^ i * a : Nat) : Int) + x := by
  obtain ⟨b, rfl⟩ := Int.eq_ofNat_of_zero_le h0
  have hb2 : b < 2 ^ i := by exact_mod_cast h1
  rw [i64_or_nat _ _ (by omega) (by omega), ← Nat.two_pow_add_eq_or_of_lt hb2 a]
  simp
theorem or_64 (n x : Int) (hn : 0 ≤ n) (hn2 : n ≤ 33554431) (h0 : 0 ≤ x) (h1 : x < 64) : bits .or .i64 (n * 64) x = n * 64 + x := by
  obtain ⟨m, rfl⟩ := Int.eq_ofNat_of_zero_le hn
  have := or_apart 6 m x h0 (by simpa using h1) (by omega)
  rw [show (((2 ^ 6 * m : Nat)) : Int) = (m : Int) * 64 by omega] at this
  exact this
theorem or_128 (x : Int) (h0 : 0 ≤ x) (h1 : x < 64) : bits .or .i64 128 x = 128 + x := by
  have := or_apart 6 2 x h0 (by simpa using h1) (by omega)
  exact this
theorem or_192 (x : Int) (h0 : 0 ≤ x) (h1 : x < 64) : bits .or .i64 192 x = 192 + x := by
  have := or_apart 6 3 x h0 (by simpa using h1) (by omega)
  exact this
theorem or_224 (x : Int) (h0 : 0 ≤ x) (h1 : x < 32) : bits .or .i64 224 x = 224 + x := by
  have := or_apart 5 7 x h0 (by simpa using h1) (by omega)
  exact this
theorem or_240 (x : Int) (h0 : 0 ≤ x) (h1 : x < 16) : bits .or .i64 240 x = 240 + x := by
  have := or_apart 4 15 x h0 (by simpa using h1) (by omega)
  exact this
theorem or_256 (n x : Int) (hn : 0 ≤ n) (hn2 : n ≤ 33554431) (h0 : 0 ≤ x) (h1 : x < 256) : bits .or .i64 (n * 256) x = n * 256 + x := by
  obtain ⟨m, rfl⟩ := Int.eq_ofNat_of_zero_le hn
  have := or_apart 8 m x h0 (by simpa using h1) (by omega)
  rw [show (((2 ^ 8 * m : Nat)) : Int) = (m : Int) * 256 by omega] at this
  exact this
end Go.Proofs.YtbddfefcgfenfaaDoor

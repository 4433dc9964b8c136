/-
  The document's answers on UTF-8: valueOf.
-/
import Derived.Test.YthjafhoahhdlnaaRUtf8b
namespace Go.Proofs.Ythjafhoahhdlnaa
open Go.RowKit
set_option maxRecDepth 1000000

theorem valueOf_2 (s : ByteArray) (c : UInt8) (p : List UInt8) (hs : s.data.toList = c :: p) (hm : M.len8 c.toNat = 2) (hp : p.length = 1) (w : World) : Calls Try.prog 51 #[.string s] w fun e w' => e = .returned (.int .i64 (M.acc8 c p : Nat)) ∧ Bel w w' := by
  have hsz : s.size = p.length + 1 := by rw [Lib.size_eq, hs]; rfl
  have hpos : 0 < s.size := by omega
  have hc : s[0].toNat = c.toNat := by
    have := byte_at s 0 hpos
    rw [hs] at this
    injection this with this
    rw [← this]
  have hat : ∀ j (hj : j + 1 < s.size), p[j]? = some s[j + 1] := fun j hj => by
    have := byte_at s (j + 1) hj
    rw [hs] at this
    simpa using this
  have hcl := c.toNat_lt
  have hs1 : 2 ≤ s.size := by omega
  have hs2 : s.size ≤ 2 := by omega
  have e5 : ((s.size : Int) == 1) = false := by rw [beq_eq_false_iff_ne]; omega
  have Hacc0 := Lib.hid (show M.acc8 c (p.take (1 - 1)) = c.toNat % 32 by rw [M.acc8, hm]; rfl)
  have esz : (s.size : Int) = 2 := by omega
  have Hs := Lib.hid hsz
  have Hat := Lib.hid hat
  clear hm hsz hs hat
  generalize c.toNat = n at hc hcl Hacc0
  go_enter Try.func51, Try.ntmps51
  go_wp2_with fail
  go_quiet (fail)
  go_wp2_with fail
  go_loop [3, 4] (fun v i => ∃ k : Nat, 1 ≤ k ∧ k ≤ s.size ∧ i = .int .i64 k ∧ v = .int .i64 (M.acc8 c (p.take (k - 1)) : Nat)) (fun _ i => s.size - (intOf i).toNat)
  case atStart => exact ⟨1, by omega, by omega, rfl, int_eq (by rw [Hacc0.out]; simp)⟩
  case round =>
    obtain ⟨k, hk1, hk, rfl, rfl⟩ := hrel
    have hA := M.acc8_lt c (p.take (k - 1)) (by rw [List.length_take]; omega)
    by_cases hlt : k < s.size
    · have hbl := s[k].toNat_lt
      have hj : p[k - 1]? = some s[k] := by
        have := Hat.out (k - 1) (by omega)
        simpa [Nat.sub_add_cancel hk1] using this
      have HN := Lib.hid (show M.acc8 c (p.take (k + 1 - 1)) = 64 * M.acc8 c (p.take (k - 1)) + s[k].toNat % 64 by
        rw [show k + 1 - 1 = (k - 1) + 1 by omega]; exact M.acc8_snoc c p (k - 1) s[k] hj)
      clear hj
      generalize M.acc8 c (p.take (k - 1)) = A at hA HN
      go_wp2_with fail
      go_round
      case rel => exact ⟨k + 1, by omega, by omega, by go_num, int_eq (by rw [HN.out]; simp)⟩
      case measure => simp [intOf]; omega
    · obtain rfl : k = s.size := by omega
      have ht : p.take (s.size - 1) = p := List.take_of_length_le (by have := Hs.out; omega)
      rw [ht]
      go_wp2_with fail
      go_ret
      exact ⟨rfl, (by repeat (first | exact Bel.refl _ | refine Bel.drewN ?_ _ | refine Bel.drew ?_ | refine Bel.alloc ?_ _ | refine Bel.trans ?_ (by assumption) | refine Bel.setCell ?_ (by simp; omega) _))⟩
theorem valueOf_3 (s : ByteArray) (c : UInt8) (p : List UInt8) (hs : s.data.toList = c :: p) (hm : M.len8 c.toNat = 3) (hp : p.length = 2) (w : World) : Calls Try.prog 51 #[.string s] w fun e w' => e = .returned (.int .i64 (M.acc8 c p : Nat)) ∧ Bel w w' := by
  have hsz : s.size = p.length + 1 := by rw [Lib.size_eq, hs]; rfl
  have hpos : 0 < s.size := by omega
  have hc : s[0].toNat = c.toNat := by
    have := byte_at s 0 hpos
    rw [hs] at this
    injection this with this
    rw [← this]
  have hat : ∀ j (hj : j + 1 < s.size), p[j]? = some s[j + 1] := fun j hj => by
    have := byte_at s (j + 1) hj
    rw [hs] at this
    simpa using this
  have hcl := c.toNat_lt
  have hs1 : 3 ≤ s.size := by omega
  have hs2 : s.size ≤ 3 := by omega
  have e5 : ((s.size : Int) == 1) = false := by rw [beq_eq_false_iff_ne]; omega
  have Hacc0 := Lib.hid (show M.acc8 c (p.take (1 - 1)) = c.toNat % 16 by rw [M.acc8, hm]; rfl)
  have esz : (s.size : Int) = 3 := by omega
  have Hs := Lib.hid hsz
  have Hat := Lib.hid hat
  clear hm hsz hs hat
  generalize c.toNat = n at hc hcl Hacc0
  go_enter Try.func51, Try.ntmps51
  go_wp2_with fail
  go_quiet (fail)
  go_wp2_with fail
  go_loop [3, 4] (fun v i => ∃ k : Nat, 1 ≤ k ∧ k ≤ s.size ∧ i = .int .i64 k ∧ v = .int .i64 (M.acc8 c (p.take (k - 1)) : Nat)) (fun _ i => s.size - (intOf i).toNat)
  case atStart => exact ⟨1, by omega, by omega, rfl, int_eq (by rw [Hacc0.out]; simp)⟩
  case round =>
    obtain ⟨k, hk1, hk, rfl, rfl⟩ := hrel
    have hA := M.acc8_lt c (p.take (k - 1)) (by rw [List.length_take]; omega)
    by_cases hlt : k < s.size
    · have hbl := s[k].toNat_lt
      have hj : p[k - 1]? = some s[k] := by
        have := Hat.out (k - 1) (by omega)
        simpa [Nat.sub_add_cancel hk1] using this
      have HN := Lib.hid (show M.acc8 c (p.take (k + 1 - 1)) = 64 * M.acc8 c (p.take (k - 1)) + s[k].toNat % 64 by
        rw [show k + 1 - 1 = (k - 1) + 1 by omega]; exact M.acc8_snoc c p (k - 1) s[k] hj)
      clear hj
      generalize M.acc8 c (p.take (k - 1)) = A at hA HN
      go_wp2_with fail
      go_round
      case rel => exact ⟨k + 1, by omega, by omega, by go_num, int_eq (by rw [HN.out]; simp)⟩
      case measure => simp [intOf]; omega
    · obtain rfl : k = s.size := by omega
      have ht : p.take (s.size - 1) = p := List.take_of_length_le (by have := Hs.out; omega)
      rw [ht]
      go_wp2_with fail
      go_ret
      exact ⟨rfl, (by repeat (first | exact Bel.refl _ | refine Bel.drewN ?_ _ | refine Bel.drew ?_ | refine Bel.alloc ?_ _ | refine Bel.trans ?_ (by assumption) | refine Bel.setCell ?_ (by simp; omega) _))⟩
theorem valueOf_4 (s : ByteArray) (c : UInt8) (p : List UInt8) (hs : s.data.toList = c :: p) (hm : M.len8 c.toNat = 4) (hp : p.length = 3) (w : World) : Calls Try.prog 51 #[.string s] w fun e w' => e = .returned (.int .i64 (M.acc8 c p : Nat)) ∧ Bel w w' := by
  have hsz : s.size = p.length + 1 := by rw [Lib.size_eq, hs]; rfl
  have hpos : 0 < s.size := by omega
  have hc : s[0].toNat = c.toNat := by
    have := byte_at s 0 hpos
    rw [hs] at this
    injection this with this
    rw [← this]
  have hat : ∀ j (hj : j + 1 < s.size), p[j]? = some s[j + 1] := fun j hj => by
    have := byte_at s (j + 1) hj
    rw [hs] at this
    simpa using this
  have hcl := c.toNat_lt
  have hs1 : 4 ≤ s.size := by omega
  have hs2 : s.size ≤ 4 := by omega
  have e5 : ((s.size : Int) == 1) = false := by rw [beq_eq_false_iff_ne]; omega
  have Hacc0 := Lib.hid (show M.acc8 c (p.take (1 - 1)) = c.toNat % 8 by rw [M.acc8, hm]; rfl)
  have esz : (s.size : Int) = 4 := by omega
  have Hs := Lib.hid hsz
  have Hat := Lib.hid hat
  clear hm hsz hs hat
  generalize c.toNat = n at hc hcl Hacc0
  go_enter Try.func51, Try.ntmps51
  go_wp2_with fail
  go_quiet (fail)
  go_wp2_with fail
  go_loop [3, 4] (fun v i => ∃ k : Nat, 1 ≤ k ∧ k ≤ s.size ∧ i = .int .i64 k ∧ v = .int .i64 (M.acc8 c (p.take (k - 1)) : Nat)) (fun _ i => s.size - (intOf i).toNat)
  case atStart => exact ⟨1, by omega, by omega, rfl, int_eq (by rw [Hacc0.out]; simp)⟩
  case round =>
    obtain ⟨k, hk1, hk, rfl, rfl⟩ := hrel
    have hA := M.acc8_lt c (p.take (k - 1)) (by rw [List.length_take]; omega)
    by_cases hlt : k < s.size
    · have hbl := s[k].toNat_lt
      have hj : p[k - 1]? = some s[k] := by
        have := Hat.out (k - 1) (by omega)
        simpa [Nat.sub_add_cancel hk1] using this
      have HN := Lib.hid (show M.acc8 c (p.take (k + 1 - 1)) = 64 * M.acc8 c (p.take (k - 1)) + s[k].toNat % 64 by
        rw [show k + 1 - 1 = (k - 1) + 1 by omega]; exact M.acc8_snoc c p (k - 1) s[k] hj)
      clear hj
      generalize M.acc8 c (p.take (k - 1)) = A at hA HN
      go_wp2_with fail
      go_round
      case rel => exact ⟨k + 1, by omega, by omega, by go_num, int_eq (by rw [HN.out]; simp)⟩
      case measure => simp [intOf]; omega
    · obtain rfl : k = s.size := by omega
      have ht : p.take (s.size - 1) = p := List.take_of_length_le (by have := Hs.out; omega)
      rw [ht]
      go_wp2_with fail
      go_ret
      exact ⟨rfl, (by repeat (first | exact Bel.refl _ | refine Bel.drewN ?_ _ | refine Bel.drew ?_ | refine Bel.alloc ?_ _ | refine Bel.trans ?_ (by assumption) | refine Bel.setCell ?_ (by simp; omega) _))⟩
theorem valueOf_1 (s : ByteArray) (c : UInt8) (hs : s.data.toList = [c]) (w : World) : Calls Try.prog 51 #[.string s] w fun e w' => e = .returned (.int .i64 (c.toNat : Int)) ∧ Bel w w' := by
  have hsz : s.size = 1 := by rw [Lib.size_eq, hs]; rfl
  have hpos : 0 < s.size := by omega
  have hc : s[0].toNat = c.toNat := by
    have := byte_at s 0 hpos
    rw [hs] at this
    injection this with this
    rw [← this]
  have hcl := c.toNat_lt
  have e5 : ((s.size : Int) == 1) = true := by rw [beq_iff_eq]; omega
  clear hsz hs
  generalize c.toNat = n at hc hcl
  go_enter Try.func51, Try.ntmps51
  go_wp2_with fail
  go_ret
  exact ⟨rfl, (by repeat (first | exact Bel.refl _ | refine Bel.drewN ?_ _ | refine Bel.drew ?_ | refine Bel.alloc ?_ _ | refine Bel.trans ?_ (by assumption) | refine Bel.setCell ?_ (by simp; omega) _))⟩
end Go.Proofs.Ythjafhoahhdlnaa

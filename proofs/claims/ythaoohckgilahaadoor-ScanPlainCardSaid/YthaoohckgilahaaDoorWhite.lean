/-
  Is a byte white: the package's word and the document's.
-/
import Derived.Test.YthaoohckgilahaaDoorBase2
import Derived.Test.YthaoohckgilahaaDoorPlainLabel
namespace Go.Proofs.YthaoohckgilahaaDoor
open Go.RowKit
set_option maxRecDepth 1000000

theorem white_int (c : UInt8) : M.white c = (((c.toNat : Int) == 32) || ((c.toNat : Int) == 9) || ((c.toNat : Int) == 10) || ((c.toNat : Int) == 12) || ((c.toNat : Int) == 13)) := by
  rw [M.white_nat, Bool.eq_iff_iff]
  simp only [decide_eq_true_eq, Bool.or_eq_true, beq_iff_eq]
  omega
theorem isWhite_any (c : UInt8) (w : World) : Calls Tryd.prog 30 #[.int .u8 (c.toNat : Int)] w fun e w' => e = .returned (.bool (M.white c)) ∧ w = w' := by
  have H := Lib.hid (white_int c)
  have hc : c.toNat < 256 := c.toNat_lt
  generalize hn : (c.toNat : Int) = n at *
  have hn0 : 0 ≤ n ∧ n < 256 := by omega
  clear hn hc
  by_cases h1 : n = 32 <;> by_cases h2 : n = 9 <;> by_cases h3 : n = 10 <;> by_cases h4 : n = 12 <;> by_cases h5 : n = 13
  all_goals
    first
    | (exfalso; omega)
    | (go_enter Tryd.func30, Tryd.ntmps30
       go_wp2
       go_ret
       refine ⟨?_, rfl⟩
       rw [H.out]
       first
       | (simp [*]; done)
       | exact ret_bool (by cases (n == 9) <;> cases (n == 10) <;> cases (n == 12) <;> cases (n == 13) <;> cases (n == 32) <;> rfl))
theorem white_any (c : UInt8) (w : World) : Calls Tryd.prog 45 #[.int .u8 (c.toNat : Int)] w fun e w' => e = .returned (.bool (M.white c)) ∧ w = w' := by
  have H := Lib.hid (white_int c)
  have hc : c.toNat < 256 := c.toNat_lt
  generalize hn : (c.toNat : Int) = n at *
  have hn0 : 0 ≤ n ∧ n < 256 := by omega
  clear hn hc
  by_cases h1 : n = 32 <;> by_cases h2 : n = 9 <;> by_cases h3 : n = 10 <;> by_cases h4 : n = 12 <;> by_cases h5 : n = 13
  all_goals
    first
    | (exfalso; omega)
    | (go_enter Tryd.func45, Tryd.ntmps45
       go_wp2
       go_ret
       refine ⟨?_, rfl⟩
       rw [H.out]
       first
       | (simp [*]; done)
       | exact ret_bool (by cases (n == 9) <;> cases (n == 10) <;> cases (n == 12) <;> cases (n == 13) <;> cases (n == 32) <;> rfl))
end Go.Proofs.YthaoohckgilahaaDoor

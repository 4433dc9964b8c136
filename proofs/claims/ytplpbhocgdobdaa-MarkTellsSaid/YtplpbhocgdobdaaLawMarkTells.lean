/-
  The walk of the law MarkTells.
-/
import Derived.Test.YtplpbhocgdobdaaRMark
namespace Go.Proofs.Ytplpbhocgdobdaa
open Go.RowKit

theorem markBegun_any (w : World) : Calls Try.prog 10 #[] w fun e w' => e = .returned (.bool true) ∧ Bel w w' := by
  have f1 : (M.sniff [239, 187, 191, 97]).1 = 1 := by decide
  have f2 : (M.sniff [239, 187, 191, 97]).2 = 3 := by decide
  have f3 : (M.sniff [254, 255]).1 = 3 := by decide
  have f4 : (M.put 2 [120]).1 = [255, 254, 120] := by decide
  have f5 : (M.put 2 [120]).2 = 0 := by decide
  have f6 : M.may [239] = true := by decide
  have f7 : M.may [97] = false := by decide
  go_enter Try.func10, Try.ntmps10
  go_wp2_with (first | (go_at_call 4; refine (sniff_any _ _).mono ?_; rintro e w' ⟨rfl, hb⟩) | (go_at_call 5; refine (put_any _ _ _ (by decide)).mono ?_; rintro e w' ⟨rfl, hb⟩) | (go_at_call 11; refine (may_any _ _).mono ?_; rintro e w' ⟨rfl, hb⟩))
  go_ret
  exact ⟨rfl, (by repeat (first | exact Bel.refl _ | refine Bel.drewN ?_ _ | refine Bel.drew ?_ | refine Bel.alloc ?_ _ | refine Bel.trans ?_ (by assumption) | refine Bel.setCell ?_ (by simp; omega) _))⟩
theorem put_to (n : Int) (s : ByteArray) (t : List UInt8) (e : Int) (h : M.put n s.data.toList = (t, e)) (hs : s.size ≤ 9223372036854775800) (w : World) : Calls Try.prog 5 #[.int .i64 n, .string s] w fun e' w' => e' = .returned (.tuple #[.string ⟨t.toArray⟩, .int .i64 e]) ∧ Bel w w' := by
  have := put_any n s w hs; rw [h] at this; exact this
theorem sniff_to (s : ByteArray) (n k : Int) (h : M.sniff s.data.toList = (n, k)) (w : World) : Calls Try.prog 4 #[.string s] w fun e w' => e = .returned (.tuple #[.int .i64 n, .int .i64 k]) ∧ Bel w w' := by
  have := sniff_any s w; rw [h] at this; exact this
theorem sniffOf_to (s : ByteArray) (n k : Int) (h : M.sniff s.data.toList = (n, k)) (w : World) : Calls Try.prog 6 #[.string s] w fun e w' => e = .returned (.tuple #[.int .i64 n, .int .i64 k]) ∧ w = w' := by
  have := sniffOf_any s w; rw [h] at this; exact this
theorem markTellsTrue (s : ByteArray) (n : Int) (hs : s.size ≤ reachBytes) (_ : -9223372036854775808 ≤ n ∧ n ≤ 9223372036854775807) (w : World) :
    Calls Try.prog 3 #[.string s, .int .i64 n] w fun e w' => e = .returned (.bool true) ∧ Bel w w' := by
  simp only [reachBytes] at hs
  obtain ⟨⟨n1, k1⟩, hsn⟩ : ∃ r, M.sniff s.data.toList = r := ⟨_, rfl⟩
  have Hsn := Lib.hid hsn
  clear hsn
  have hm : (M.markOf n).length ≤ 3 := by unfold M.markOf; split <;> (try split) <;> (try split) <;> simp
  by_cases h1 : M.isEnc n = true
  · by_cases h2 : s.size ≤ 3000
    · have Hput := Lib.hid (show M.put n s.data.toList = (M.markOf n ++ s.data.toList, 0) by rw [M.put, if_neg (by simp [h1]), if_neg (by rw [← Lib.size_eq]; omega)])
      have hl : M.long s.data.toList = 0 := by rw [M.long, if_neg (by rw [← Lib.size_eq]; omega)]
      go_enter Try.func3, Try.ntmps3
      go_wp2_with (first | (go_at_call 10; refine (markBegun_any _).mono ?_; rintro e w' ⟨rfl, hb⟩) | (go_at_call 5; refine (put_to _ _ _ _ Hput.out (by omega) _).mono ?_; rintro e w' ⟨rfl, hb⟩) | (go_at_call 11; refine (may_any _ _).mono ?_; rintro e w' ⟨rfl, hb⟩) | (go_at_call 12; refine (mayOf_any _ _).mono ?_; rintro e w' ⟨rfl, rfl⟩) | (go_at_call 4; refine (sniff_to _ _ _ Hsn.out _).mono ?_; rintro e w' ⟨rfl, hb⟩) | (go_at_call 6; refine (sniffOf_to _ _ _ Hsn.out _).mono ?_; rintro e w' ⟨rfl, rfl⟩) | (go_at_call 7; refine (isEncoding_any _ _).mono ?_; rintro e w' ⟨rfl, rfl⟩) | (go_at_call 8; refine (tooLong_any _ _).mono ?_; rintro e w' ⟨rfl, rfl⟩) | (go_at_call 9; refine (markOf_any _ _).mono ?_; rintro e w' ⟨rfl, rfl⟩))
      go_ret
      refine ⟨ret_bool ?_, (by repeat (first | exact Bel.refl _ | refine Bel.drewN ?_ _ | refine Bel.drew ?_ | refine Bel.alloc ?_ _ | refine Bel.trans ?_ (by assumption) | refine Bel.setCell ?_ (by simp; omega) _))⟩
      rw [Lib.toList_data, data_append, beq_self_eq_true]
    · have Hput := Lib.hid (show M.put n s.data.toList = ([], 2) by rw [M.put, if_neg (by simp [h1]), if_pos (by rw [← Lib.size_eq]; omega)])
      have hl : M.long s.data.toList = 2 := by rw [M.long, if_pos (by rw [← Lib.size_eq]; omega)]
      go_enter Try.func3, Try.ntmps3
      go_wp2_with (first | (go_at_call 10; refine (markBegun_any _).mono ?_; rintro e w' ⟨rfl, hb⟩) | (go_at_call 5; refine (put_to _ _ _ _ Hput.out (by omega) _).mono ?_; rintro e w' ⟨rfl, hb⟩) | (go_at_call 11; refine (may_any _ _).mono ?_; rintro e w' ⟨rfl, hb⟩) | (go_at_call 12; refine (mayOf_any _ _).mono ?_; rintro e w' ⟨rfl, rfl⟩) | (go_at_call 4; refine (sniff_to _ _ _ Hsn.out _).mono ?_; rintro e w' ⟨rfl, hb⟩) | (go_at_call 6; refine (sniffOf_to _ _ _ Hsn.out _).mono ?_; rintro e w' ⟨rfl, rfl⟩) | (go_at_call 7; refine (isEncoding_any _ _).mono ?_; rintro e w' ⟨rfl, rfl⟩) | (go_at_call 8; refine (tooLong_any _ _).mono ?_; rintro e w' ⟨rfl, rfl⟩) | (go_at_call 9; refine (markOf_any _ _).mono ?_; rintro e w' ⟨rfl, rfl⟩))
      go_ret
      exact ⟨rfl, (by repeat (first | exact Bel.refl _ | refine Bel.drewN ?_ _ | refine Bel.drew ?_ | refine Bel.alloc ?_ _ | refine Bel.trans ?_ (by assumption) | refine Bel.setCell ?_ (by simp; omega) _))⟩
  · rw [Bool.not_eq_true] at h1
    have Hput := Lib.hid (show M.put n s.data.toList = ([], 6) by rw [M.put, if_pos h1])
    go_enter Try.func3, Try.ntmps3
    go_wp2_with (first | (go_at_call 10; refine (markBegun_any _).mono ?_; rintro e w' ⟨rfl, hb⟩) | (go_at_call 5; refine (put_to _ _ _ _ Hput.out (by omega) _).mono ?_; rintro e w' ⟨rfl, hb⟩) | (go_at_call 11; refine (may_any _ _).mono ?_; rintro e w' ⟨rfl, hb⟩) | (go_at_call 12; refine (mayOf_any _ _).mono ?_; rintro e w' ⟨rfl, rfl⟩) | (go_at_call 4; refine (sniff_to _ _ _ Hsn.out _).mono ?_; rintro e w' ⟨rfl, hb⟩) | (go_at_call 6; refine (sniffOf_to _ _ _ Hsn.out _).mono ?_; rintro e w' ⟨rfl, rfl⟩) | (go_at_call 7; refine (isEncoding_any _ _).mono ?_; rintro e w' ⟨rfl, rfl⟩) | (go_at_call 8; refine (tooLong_any _ _).mono ?_; rintro e w' ⟨rfl, rfl⟩) | (go_at_call 9; refine (markOf_any _ _).mono ?_; rintro e w' ⟨rfl, rfl⟩))
    go_ret
    exact ⟨rfl, (by repeat (first | exact Bel.refl _ | refine Bel.drewN ?_ _ | refine Bel.drew ?_ | refine Bel.alloc ?_ _ | refine Bel.trans ?_ (by assumption) | refine Bel.setCell ?_ (by simp; omega) _))⟩
end Go.Proofs.Ytplpbhocgdobdaa

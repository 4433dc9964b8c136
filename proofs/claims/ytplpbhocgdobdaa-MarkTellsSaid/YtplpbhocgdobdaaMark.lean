/-
  Package mark: what Sniff, May, Ahead and Put compute.
-/
import Derived.Test.YtplpbhocgdobdaaProg
import Derived.Test.YtplpbhocgdobdaaBase
import Derived.Test.YtplpbhocgdobdaaPlain
import Derived.WalkLawsBesides
import Derived.WalkSpells
import Derived.Deep.QuietTactic
import Derived.BigQuiet
namespace Go.Proofs.Ytplpbhocgdobdaa
open Go.RowKit

theorem litePrefix (s p : ByteArray) (w : World) : Calls Try.prog 18 #[.string s, .string p] w fun e w' => e = .returned (.bool (Lib.hasPrefix s.data.toList p.data.toList)) ∧ w = w' := by
  have H := Lib.hid (Lib.hasPrefix_raw s p)
  by_cases h : p.size ≤ s.size
  · go_enter Try.func18, Try.ntmps18
    go_wp2
    go_ret
    refine ⟨?_, rfl⟩
    rw [← H.out]; simp [h]
  · go_enter Try.func18, Try.ntmps18
    go_wp2
    go_ret
    refine ⟨?_, rfl⟩
    rw [← H.out]; simp [h]
theorem hasPrefix_any (s p : ByteArray) (w : World) : Calls Try.prog 14 #[.string s, .string p] w fun e w' => e = .returned (.bool (Lib.hasPrefix s.data.toList p.data.toList)) ∧ w = w' := by
  go_enter Try.func14, Try.ntmps14
  go_wp2_with (go_at_call 18; refine (litePrefix _ _ _).mono ?_; rintro e w' ⟨rfl, rfl⟩)
  go_ret
  exact ⟨rfl, rfl⟩
theorem marks_any (w : World) : Calls Try.prog 13 #[] w fun e w' => e = .returned (.slice (some ⟨w.heap.size, 0, none⟩) 3 3) ∧ w.alloc (.cells #[.int .i64 1, .string ⟨#[239, 187, 191]⟩, .int .i64 3, .string ⟨#[254, 255]⟩, .int .i64 2, .string ⟨#[255, 254]⟩] 36) = w' := by
  go_enter Try.func13, Try.ntmps13
  go_wp2
  go_ret
  exact ⟨rfl, rfl⟩

theorem may_any (s : ByteArray) (w : World) : Calls Try.prog 11 #[.string s] w fun e w' => e = .returned (.bool (M.may s.data.toList)) ∧ Bel w w' := by
  have H := Lib.hid (show M.may s.data.toList = ((decide ((s.size : Int) < 3) && Lib.hasPrefix [239, 187, 191] s.data.toList) || (decide ((s.size : Int) < 2) && Lib.hasPrefix [254, 255] s.data.toList) || (decide ((s.size : Int) < 2) && Lib.hasPrefix [255, 254] s.data.toList)) by
    rw [Lib.size_eq]; unfold M.may; norm_cast)
  go_enter Try.func11, Try.ntmps11
  go_wp2_with (first | (go_at_call 13; refine (marks_any _).mono ?_; rintro e w' ⟨rfl, rfl⟩) | (go_at_call 14; refine (hasPrefix_any _ _ _).mono ?_; rintro e w' ⟨rfl, rfl⟩))
  refine wp_loop_rounds 4 ?_
  rw [rounds_succ]
  go_wp2_with (first | (go_at_call 13; refine (marks_any _).mono ?_; rintro e w' ⟨rfl, rfl⟩) | (go_at_call 14; refine (hasPrefix_any _ _ _).mono ?_; rintro e w' ⟨rfl, rfl⟩))
  all_goals try (rw [rounds_succ]; go_wp2_with (first | (go_at_call 13; refine (marks_any _).mono ?_; rintro e w' ⟨rfl, rfl⟩) | (go_at_call 14; refine (hasPrefix_any _ _ _).mono ?_; rintro e w' ⟨rfl, rfl⟩)))
  all_goals try (rw [rounds_succ]; go_wp2_with (first | (go_at_call 13; refine (marks_any _).mono ?_; rintro e w' ⟨rfl, rfl⟩) | (go_at_call 14; refine (hasPrefix_any _ _ _).mono ?_; rintro e w' ⟨rfl, rfl⟩)))
  all_goals try (rw [rounds_succ]; go_wp2_with (first | (go_at_call 13; refine (marks_any _).mono ?_; rintro e w' ⟨rfl, rfl⟩) | (go_at_call 14; refine (hasPrefix_any _ _ _).mono ?_; rintro e w' ⟨rfl, rfl⟩)))
  all_goals go_ret
  all_goals refine ⟨?_, (by repeat (first | exact Bel.refl _ | refine Bel.drewN ?_ _ | refine Bel.drew ?_ | refine Bel.alloc ?_ _ | refine Bel.trans ?_ (by assumption) | refine Bel.setCell ?_ (by simp; omega) _))⟩
  all_goals (try have n2 : decide ((s.size : Int) < 2) = false := by (simp; omega))
  all_goals (try have n3 : decide ((s.size : Int) < 3) = false := by (simp; omega))
  all_goals (rw [H.out]; simp [*])

theorem sniff_any (s : ByteArray) (w : World) : Calls Try.prog 4 #[.string s] w fun e w' => e = .returned (.tuple #[.int .i64 (M.sniff s.data.toList).1, .int .i64 (M.sniff s.data.toList).2]) ∧ Bel w w' := by
  go_enter Try.func4, Try.ntmps4
  go_wp2_with (first | (go_at_call 13; refine (marks_any _).mono ?_; rintro e w' ⟨rfl, rfl⟩) | (go_at_call 14; refine (hasPrefix_any _ _ _).mono ?_; rintro e w' ⟨rfl, rfl⟩))
  refine wp_loop_rounds 4 ?_
  rw [rounds_succ]
  go_wp2_with (first | (go_at_call 13; refine (marks_any _).mono ?_; rintro e w' ⟨rfl, rfl⟩) | (go_at_call 14; refine (hasPrefix_any _ _ _).mono ?_; rintro e w' ⟨rfl, rfl⟩))
  all_goals try (rw [rounds_succ]; go_wp2_with (first | (go_at_call 13; refine (marks_any _).mono ?_; rintro e w' ⟨rfl, rfl⟩) | (go_at_call 14; refine (hasPrefix_any _ _ _).mono ?_; rintro e w' ⟨rfl, rfl⟩)))
  all_goals try (rw [rounds_succ]; go_wp2_with (first | (go_at_call 13; refine (marks_any _).mono ?_; rintro e w' ⟨rfl, rfl⟩) | (go_at_call 14; refine (hasPrefix_any _ _ _).mono ?_; rintro e w' ⟨rfl, rfl⟩)))
  all_goals try (rw [rounds_succ]; go_wp2_with (first | (go_at_call 13; refine (marks_any _).mono ?_; rintro e w' ⟨rfl, rfl⟩) | (go_at_call 14; refine (hasPrefix_any _ _ _).mono ?_; rintro e w' ⟨rfl, rfl⟩)))
  all_goals try (go_quiet (fail); go_wp2)
  all_goals go_ret2
  all_goals refine ⟨?_, (by repeat (first | exact Bel.refl _ | refine Bel.drewN ?_ _ | refine Bel.drew ?_ | refine Bel.alloc ?_ _ | refine Bel.trans ?_ (by assumption) | refine Bel.setCell ?_ (by simp; omega) _))⟩
  all_goals simp [M.sniff, *]

theorem ahead_any (n : Int) (w : World) : Calls Try.prog 16 #[.int .i64 n] w fun e w' => e = .returned (.string ⟨(M.markOf n).toArray⟩) ∧ Bel w w' := by
  go_enter Try.func16, Try.ntmps16
  go_wp2_with (first | (go_at_call 13; refine (marks_any _).mono ?_; rintro e w' ⟨rfl, rfl⟩) | (go_at_call 14; refine (hasPrefix_any _ _ _).mono ?_; rintro e w' ⟨rfl, rfl⟩))
  refine wp_loop_rounds 4 ?_
  rw [rounds_succ]
  go_wp2_with (first | (go_at_call 13; refine (marks_any _).mono ?_; rintro e w' ⟨rfl, rfl⟩) | (go_at_call 14; refine (hasPrefix_any _ _ _).mono ?_; rintro e w' ⟨rfl, rfl⟩))
  all_goals try (rw [rounds_succ]; go_wp2_with (first | (go_at_call 13; refine (marks_any _).mono ?_; rintro e w' ⟨rfl, rfl⟩) | (go_at_call 14; refine (hasPrefix_any _ _ _).mono ?_; rintro e w' ⟨rfl, rfl⟩)))
  all_goals try (rw [rounds_succ]; go_wp2_with (first | (go_at_call 13; refine (marks_any _).mono ?_; rintro e w' ⟨rfl, rfl⟩) | (go_at_call 14; refine (hasPrefix_any _ _ _).mono ?_; rintro e w' ⟨rfl, rfl⟩)))
  all_goals try (rw [rounds_succ]; go_wp2_with (first | (go_at_call 13; refine (marks_any _).mono ?_; rintro e w' ⟨rfl, rfl⟩) | (go_at_call 14; refine (hasPrefix_any _ _ _).mono ?_; rintro e w' ⟨rfl, rfl⟩)))
  all_goals go_ret
  all_goals refine ⟨?_, (by repeat (first | exact Bel.refl _ | refine Bel.drewN ?_ _ | refine Bel.drew ?_ | refine Bel.alloc ?_ _ | refine Bel.trans ?_ (by assumption) | refine Bel.setCell ?_ (by simp; omega) _))⟩
  all_goals simp_all [M.markOf]

theorem isEnc_any (n : Int) (w : World) : Calls Try.prog 15 #[.int .i64 n] w fun e w' => e = .returned (.bool (M.isEnc n)) ∧ w = w' := by
  by_cases h : 1 ≤ n <;> by_cases h2 : n ≤ 7
  all_goals
    go_enter Try.func15, Try.ntmps15
    go_wp2
    go_ret
    refine ⟨?_, rfl⟩
    simp [M.isEnc]
    omega

theorem put_any (n : Int) (s : ByteArray) (w : World) (hs : s.size ≤ 9223372036854775800) : Calls Try.prog 5 #[.int .i64 n, .string s] w fun e w' => e = .returned (.tuple #[.string ⟨(M.put n s.data.toList).1.toArray⟩, .int .i64 (M.put n s.data.toList).2]) ∧ Bel w w' := by
  have H := Lib.hid (Lib.size_eq s)
  have hm : (M.markOf n).length ≤ 3 := by unfold M.markOf; split <;> (try split) <;> (try split) <;> simp
  by_cases h1 : M.isEnc n = true
  · by_cases h2 : s.size ≤ 3000
    · have hp := Lib.hid (show M.put n s.data.toList = (M.markOf n ++ s.data.toList, 0) by rw [M.put, if_neg (by simp [h1]), if_neg (by rw [← Lib.size_eq]; omega)])
      have hlt : (M.markOf n).length + s.size ≤ 9223372036854775807 := by omega
      go_enter Try.func5, Try.ntmps5
      go_wp2_with (first | (go_at_call 15; refine (isEnc_any _ _).mono ?_; rintro e w' ⟨rfl, rfl⟩) | (go_at_call 16; refine (ahead_any _ _).mono ?_; rintro e w' ⟨rfl, hb⟩))
      go_ret2
      refine ⟨?_, (by repeat (first | exact Bel.refl _ | refine Bel.drewN ?_ _ | refine Bel.drew ?_ | refine Bel.alloc ?_ _ | refine Bel.trans ?_ (by assumption) | refine Bel.setCell ?_ (by simp; omega) _))⟩
      rw [hp.out]; rfl
    · have hp := Lib.hid (show M.put n s.data.toList = ([], 2) by rw [M.put, if_neg (by simp [h1]), if_pos (by rw [← Lib.size_eq]; omega)])
      go_enter Try.func5, Try.ntmps5
      go_wp2_with (first | (go_at_call 15; refine (isEnc_any _ _).mono ?_; rintro e w' ⟨rfl, rfl⟩) | (go_at_call 16; refine (ahead_any _ _).mono ?_; rintro e w' ⟨rfl, hb⟩))
      go_ret2
      refine ⟨?_, (by repeat (first | exact Bel.refl _ | refine Bel.drewN ?_ _ | refine Bel.drew ?_ | refine Bel.alloc ?_ _ | refine Bel.trans ?_ (by assumption) | refine Bel.setCell ?_ (by simp; omega) _))⟩
      rw [hp.out]; rfl
  · rw [Bool.not_eq_true] at h1
    have hp := Lib.hid (show M.put n s.data.toList = ([], 6) by rw [M.put, if_pos h1])
    go_enter Try.func5, Try.ntmps5
    go_wp2_with (first | (go_at_call 15; refine (isEnc_any _ _).mono ?_; rintro e w' ⟨rfl, rfl⟩) | (go_at_call 16; refine (ahead_any _ _).mono ?_; rintro e w' ⟨rfl, hb⟩))
    go_ret2
    refine ⟨?_, (by repeat (first | exact Bel.refl _ | refine Bel.drewN ?_ _ | refine Bel.drew ?_ | refine Bel.alloc ?_ _ | refine Bel.trans ?_ (by assumption) | refine Bel.setCell ?_ (by simp; omega) _))⟩
    rw [hp.out]; rfl
end Go.Proofs.Ytplpbhocgdobdaa

/-
  The laws on labels: labelBegun, LabelTells.
-/
import Derived.Test.YtbddfefcgfenfaaDoorLabel3
import Derived.Test.YtbddfefcgfenfaaDoorRLabel
namespace Go.Proofs.YtbddfefcgfenfaaDoor
open Go.RowKit
set_option maxRecDepth 1000000

theorem labelBegun_any (w : World) : Calls Tryd.prog 25 #[] w fun e w' => e = .returned (.bool true) ∧ Bel w w' := by
  have h1 := trim_to ⟨#[9, 32, 97, 32, 98, 32, 10]⟩ [97, 32, 98] 0 (by decide +kernel) (by decide)
  have h2 := fold_to ⟨#[65, 196, 122]⟩ [97, 196, 122] 0 (by decide +kernel) (by decide)
  have h3 := find_to ⟨#[32, 76, 97, 116, 105, 110, 49, 13]⟩ 4 0 (by decide +kernel) (by decide)
  have h4 := name_to 3 [117, 116, 102, 45, 49, 54, 98, 101] 0 (by decide +kernel)
  have h5 := name_to 0 [] 6 (by decide +kernel)
  go_enter Tryd.func25, Tryd.ntmps25
  go_wp2_with fail
  refine (h1 _).mono ?_
  rintro e w1 ⟨rfl, b1⟩
  go_wp2_with fail
  refine (h2 _).mono ?_
  rintro e w2 ⟨rfl, b2⟩
  go_wp2_with fail
  refine (h3 _).mono ?_
  rintro e w3 ⟨rfl, b3⟩
  go_wp2_with fail
  refine (h4 _).mono ?_
  rintro e w4 ⟨rfl, b4⟩
  go_wp2_with fail
  refine (h5 _).mono ?_
  rintro e w5 ⟨rfl, b5⟩
  go_wp2_with fail
  go_ret
  exact ⟨rfl, (((b1.trans b2).trans b3).trans b4).trans b5⟩
theorem labelTellsTrue (s : ByteArray) (n : Int) (w : World) (hs0 : s.size ≤ reachBytes) (_hn : -9223372036854775808 ≤ n ∧ n ≤ 9223372036854775807) : Calls Tryd.prog 3 #[.string s, .int .i64 n] w fun e w' => e = .returned (.bool true) ∧ Bel w w' := by
  have hs : s.size ≤ 9223372036854775807 := by unfold reachBytes at hs0; omega
  have HN := Lib.hid (name_to n)
  by_cases hl : 3000 < s.size
  · have hl' : 3000 < s.data.toList.length := by rw [← Lib.size_eq]; exact hl
    have HT := Lib.hid (show M.trimE s.data.toList = ([], 2) by rw [M.trimE, if_pos hl'])
    have HO := Lib.hid (show M.foldE s.data.toList = ([], 2) by rw [M.foldE, if_pos hl'])
    have HD := Lib.hid (show M.findE s.data.toList = (0, 2) by rw [M.findE, if_pos hl'])
    clear hl'
    cases hi : M.isEnc n with
    | true =>
      have HM := Lib.hid (show M.nameE n = (M.nameOf n, 0) by rw [M.nameE, hi, if_pos rfl])
      have HI := Lib.hid hi
      clear hi
      go_enter Tryd.func3, Tryd.ntmps3
      go_wp2_with fail
      refine (trim_to s _ _ HT.out hs _).mono ?_
      rintro e w1 ⟨rfl, b1⟩
      go_wp2_with fail
      refine (fold_to s _ _ HO.out hs _).mono ?_
      rintro e w2 ⟨rfl, b2⟩
      go_wp2_with fail
      refine (find_to s _ _ HD.out hs _).mono ?_
      rintro e w3 ⟨rfl, b3⟩
      go_wp2_with fail
      refine (name_to n _ _ HM.out _).mono ?_
      rintro e w4 ⟨rfl, b4⟩
      go_wp2_with (first | (go_at_call 23; refine (isEncoding_any _ _).mono ?_; rintro e w' ⟨rfl, rfl⟩; rw [HI.out]) | (go_at_call 24; refine (nameOfR_any n _ HI.out).mono ?_; rintro e w' ⟨rfl, rfl⟩) | (go_at_call 25; refine (labelBegun_any _).mono ?_; rintro e w' ⟨rfl, b5⟩))
      go_ret
      exact ⟨rfl, (((b1.trans b2).trans b3).trans b4).trans b5⟩
    | false =>
      have HM := Lib.hid (show M.nameE n = ([], 6) by rw [M.nameE, hi, if_neg (by decide)])
      have HI := Lib.hid hi
      clear hi
      go_enter Tryd.func3, Tryd.ntmps3
      go_wp2_with fail
      refine (trim_to s _ _ HT.out hs _).mono ?_
      rintro e w1 ⟨rfl, b1⟩
      go_wp2_with fail
      refine (fold_to s _ _ HO.out hs _).mono ?_
      rintro e w2 ⟨rfl, b2⟩
      go_wp2_with fail
      refine (find_to s _ _ HD.out hs _).mono ?_
      rintro e w3 ⟨rfl, b3⟩
      go_wp2_with fail
      refine (name_to n _ _ HM.out _).mono ?_
      rintro e w4 ⟨rfl, b4⟩
      go_wp2_with (first | (go_at_call 23; refine (isEncoding_any _ _).mono ?_; rintro e w' ⟨rfl, rfl⟩; rw [HI.out]) | (go_at_call 25; refine (labelBegun_any _).mono ?_; rintro e w' ⟨rfl, b5⟩))
      go_ret
      exact ⟨rfl, (((b1.trans b2).trans b3).trans b4).trans b5⟩
  · have hl' : ¬ 3000 < s.data.toList.length := by rw [← Lib.size_eq]; exact hl
    have HT := Lib.hid (show M.trimE s.data.toList = (M.trim s.data.toList, 0) by rw [M.trimE, if_neg hl'])
    have HO := Lib.hid (show M.foldE s.data.toList = (M.fold s.data.toList, 0) by rw [M.foldE, if_neg hl'])
    have HD := Lib.hid (show M.findE s.data.toList = (M.find s.data.toList, 0) by rw [M.findE, if_neg hl'])
    clear hl'
    cases hi : M.isEnc n with
    | true =>
      have HM := Lib.hid (show M.nameE n = (M.nameOf n, 0) by rw [M.nameE, hi, if_pos rfl])
      have HI := Lib.hid hi
      clear hi
      go_enter Tryd.func3, Tryd.ntmps3
      go_wp2_with fail
      refine (trim_to s _ _ HT.out hs _).mono ?_
      rintro e w1 ⟨rfl, b1⟩
      go_wp2_with fail
      refine (fold_to s _ _ HO.out hs _).mono ?_
      rintro e w2 ⟨rfl, b2⟩
      go_wp2_with fail
      refine (find_to s _ _ HD.out hs _).mono ?_
      rintro e w3 ⟨rfl, b3⟩
      go_wp2_with fail
      refine (name_to n _ _ HM.out _).mono ?_
      rintro e w4 ⟨rfl, b4⟩
      go_wp2_with (first | (go_at_call 20; refine (trimOf_any s _ (by omega)).mono ?_; rintro e w' ⟨rfl, rfl⟩) | (go_at_call 21; refine (foldOf_any s _ (by omega)).mono ?_; rintro e w' ⟨rfl, c1⟩) | (go_at_call 22; refine (findOf_any s _ (by omega)).mono ?_; rintro e w' ⟨rfl, c2⟩) | (go_at_call 23; refine (isEncoding_any _ _).mono ?_; rintro e w' ⟨rfl, rfl⟩; rw [HI.out]) | (go_at_call 24; refine (nameOfR_any n _ HI.out).mono ?_; rintro e w' ⟨rfl, rfl⟩) | (go_at_call 25; refine (labelBegun_any _).mono ?_; rintro e w' ⟨rfl, b5⟩))
      go_ret
      exact ⟨rfl, (((((b1.trans b2).trans b3).trans b4).trans c1).trans c2).trans b5⟩
    | false =>
      have HM := Lib.hid (show M.nameE n = ([], 6) by rw [M.nameE, hi, if_neg (by decide)])
      have HI := Lib.hid hi
      clear hi
      go_enter Tryd.func3, Tryd.ntmps3
      go_wp2_with fail
      refine (trim_to s _ _ HT.out hs _).mono ?_
      rintro e w1 ⟨rfl, b1⟩
      go_wp2_with fail
      refine (fold_to s _ _ HO.out hs _).mono ?_
      rintro e w2 ⟨rfl, b2⟩
      go_wp2_with fail
      refine (find_to s _ _ HD.out hs _).mono ?_
      rintro e w3 ⟨rfl, b3⟩
      go_wp2_with fail
      refine (name_to n _ _ HM.out _).mono ?_
      rintro e w4 ⟨rfl, b4⟩
      go_wp2_with (first | (go_at_call 20; refine (trimOf_any s _ (by omega)).mono ?_; rintro e w' ⟨rfl, rfl⟩) | (go_at_call 21; refine (foldOf_any s _ (by omega)).mono ?_; rintro e w' ⟨rfl, c1⟩) | (go_at_call 22; refine (findOf_any s _ (by omega)).mono ?_; rintro e w' ⟨rfl, c2⟩) | (go_at_call 23; refine (isEncoding_any _ _).mono ?_; rintro e w' ⟨rfl, rfl⟩; rw [HI.out]) | (go_at_call 25; refine (labelBegun_any _).mono ?_; rintro e w' ⟨rfl, b5⟩))
      go_ret
      exact ⟨rfl, (((((b1.trans b2).trans b3).trans b4).trans c1).trans c2).trans b5⟩
end Go.Proofs.YtbddfefcgfenfaaDoor

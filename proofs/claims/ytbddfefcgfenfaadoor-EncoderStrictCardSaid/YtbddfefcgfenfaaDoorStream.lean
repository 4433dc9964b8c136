/-
  Package stream: All, ready, Decode, Open.
-/
import Derived.Test.YtbddfefcgfenfaaDoorIs
import Derived.Test.YtbddfefcgfenfaaDoorUtf8b
import Derived.Test.YtbddfefcgfenfaaDoorUtf16b
import Derived.Test.YtbddfefcgfenfaaDoorSingle
import Derived.Test.YtbddfefcgfenfaaDoorKana3
import Derived.Test.YtbddfefcgfenfaaDoorPlainStream
namespace Go.Proofs.YtbddfefcgfenfaaDoor
open Go.RowKit
set_option maxRecDepth 1000000

/-- A state's five values. -/
def stC (d : M.St) : List Value := [.int .i64 d.enc, .string ⟨d.rest.toArray⟩, .int .i64 d.signs, .bool d.fresh, .bool d.stopped]
def stV (d : M.St) : Value := .agg #[.int .i64 d.enc, .string ⟨d.rest.toArray⟩, .int .i64 d.signs, .bool d.fresh, .bool d.stopped]
theorem streamAll_any (n : Int) (h : M.isEnc n = true) (s : ByteArray) (hs : s.size ≤ 68719476734) (w : World) : Calls Tryd.prog 88 #[.int .i64 n, .string s] w fun e w' => ∃ v, e = .returned v ∧ Own w.heap.size 3 w' v ((M.allE n s.data.toList).map (Value.int .i64)) ∧ Bel w w' := by
  rcases M.enc_cases n h with rfl | h1 | h1 | rfl | rfl
  · have H := Lib.hid (show M.allE 1 s.data.toList = M.all8 s.data.toList by rw [M.allE, if_pos rfl])
    clear h
    go_enter Tryd.func88, Tryd.ntmps88
    go_wp2_with (go_at_call 119; refine (all8_any _ hs _).mono ?_; rintro e w' ⟨v, rfl, ho, hb⟩)
    go_ret
    rw [H.out]
    exact ⟨_, rfl, by assumption, by assumption⟩
  · have H := Lib.hid (show M.allE n s.data.toList = M.all16 (n == 3) s.data.toList by rw [M.allE, if_neg (by omega), if_pos h1])
    clear h
    rcases h1 with rfl | rfl
    all_goals
      go_enter Tryd.func88, Tryd.ntmps88
      go_wp2_with (go_at_call 120; refine (all16_any _ _ hs _).mono ?_; rintro e w' ⟨v, rfl, ho, hb⟩)
      go_ret
      rw [H.out]
      exact ⟨_, rfl, by assumption, by assumption⟩
  · have H := Lib.hid (show M.allE n s.data.toList = M.decodeS (n == 5) s.data.toList by rw [M.allE, if_neg (by omega), if_neg (by omega), if_pos h1])
    clear h
    rcases h1 with rfl | rfl
    all_goals
      go_enter Tryd.func88, Tryd.ntmps88
      go_wp2_with (go_at_call 121; refine (all_any _ _ _ (by omega)).mono ?_; rintro e w' ⟨v, rfl, ho, hb⟩)
      go_ret
      rw [H.out]
      exact ⟨_, rfl, by assumption, by assumption⟩
  · have H := Lib.hid (show M.allE 6 s.data.toList = M.allK s.data.toList by rw [M.allE, if_neg (by omega), if_neg (by omega), if_neg (by omega), if_pos rfl])
    clear h
    go_enter Tryd.func88, Tryd.ntmps88
    go_wp2_with (go_at_call 122; refine (allKana_any _ (by omega) _).mono ?_; rintro e w' ⟨v, rfl, ho, hb⟩)
    go_ret
    rw [H.out]
    exact ⟨_, rfl, by assumption, by assumption⟩
  · have H0 : M.allE 7 s.data.toList = if s.data.toList = [] then [] else [65533] := by rw [M.allE, if_neg (by omega), if_neg (by omega), if_neg (by omega), if_neg (by omega)]
    clear h
    by_cases he : s.data.toList = []
    · have H := Lib.hid (show M.allE 7 s.data.toList = [] by rw [H0, if_pos he])
      have e1 : (!s.toList.isEmpty) = false := by rw [Lib.toList_data, he]; rfl
      have e2 : s.toList.isEmpty = true := by rw [Lib.toList_data, he]; rfl
      clear H0 he
      go_enter Tryd.func88, Tryd.ntmps88
      go_wp2_with fail
      go_ret
      rw [H.out]
      exact ⟨_, rfl, Own.nil _ _ _, Bel.refl _⟩
    · have H := Lib.hid (show M.allE 7 s.data.toList = [65533] by rw [H0, if_neg he])
      have e1 : (!s.toList.isEmpty) = true := by rw [Lib.toList_data]; simpa using he
      have e2 : s.toList.isEmpty = false := by rw [Lib.toList_data]; simpa using he
      clear H0 he
      go_enter Tryd.func88, Tryd.ntmps88
      go_wp2_with fail
      go_ret
      rw [H.out]
      exact ⟨_, rfl, Own.made w [.int .i64 65533] (Nat.le_refl _) (by simp [maxLen]), (Bel.refl _).alloc _⟩
theorem ready_any (n : Int) (s : ByteArray) (w : World) : Calls Tryd.prog 87 #[.int .i64 n, .string s] w fun e w' => e = .returned (.int .i64 (M.readyE n s.data.toList)) ∧ w = w' := by
  cases h : M.isEnc n with
  | false =>
    have H := Lib.hid (show M.readyE n s.data.toList = 6 by rw [M.readyE, if_pos h])
    have HI := Lib.hid h
    clear h
    go_enter Tryd.func87, Tryd.ntmps87
    go_wp2_with (go_at_call 56; refine (isEnc_any _ _).mono ?_; rintro e w' ⟨rfl, rfl⟩; rw [HI.out])
    go_ret
    rw [H.out]
    exact ⟨rfl, rfl⟩
  | true =>
    have HI := Lib.hid h
    by_cases h2 : 3000 < s.size
    · have H := Lib.hid (show M.readyE n s.data.toList = 2 by rw [M.readyE, if_neg (by rw [h]; decide), if_pos (by rw [← Lib.size_eq]; exact h2)])
      clear h
      go_enter Tryd.func87, Tryd.ntmps87
      go_wp2_with (go_at_call 56; refine (isEnc_any _ _).mono ?_; rintro e w' ⟨rfl, rfl⟩; rw [HI.out])
      go_ret
      rw [H.out]
      exact ⟨rfl, rfl⟩
    · have H := Lib.hid (show M.readyE n s.data.toList = 0 by rw [M.readyE, if_neg (by rw [h]; decide), if_neg (by rw [← Lib.size_eq]; exact h2)])
      clear h
      go_enter Tryd.func87, Tryd.ntmps87
      go_wp2_with (go_at_call 56; refine (isEnc_any _ _).mono ?_; rintro e w' ⟨rfl, rfl⟩; rw [HI.out])
      go_ret
      rw [H.out]
      exact ⟨rfl, rfl⟩
theorem ready_to (n : Int) (s : ByteArray) (k : Int) (h : M.readyE n s.data.toList = k) (w : World) : Calls Tryd.prog 87 #[.int .i64 n, .string s] w fun e w' => e = .returned (.int .i64 k) ∧ w = w' := by
  have := ready_any n s w; rw [h] at this; exact this
theorem ready_ok (n : Int) (s : ByteArray) (h : M.readyE n s.data.toList = 0) : M.isEnc n = true ∧ s.size ≤ 3000 := by
  unfold M.readyE at h
  split at h
  · cases h
  · rename_i h1
    split at h
    · cases h
    · rename_i h2
      rw [← Lib.size_eq] at h2
      exact ⟨by simpa using h1, by omega⟩
theorem decE_any (n : Int) (s : ByteArray) (w : World) : Calls Tryd.prog 50 #[.int .i64 n, .string s] w fun e w' => ∃ v, e = .returned (.tuple #[v, .int .i64 (M.decE n s.data.toList).2]) ∧ Own w.heap.size 3 w' v ((M.decE n s.data.toList).1.map (Value.int .i64)) ∧ Bel w w' := by
  obtain ⟨k, hk⟩ : ∃ k, M.readyE n s.data.toList = k := ⟨_, rfl⟩
  have HK := Lib.hid hk
  by_cases h : k = 0
  · subst h
    obtain ⟨h1, h2⟩ := ready_ok n s hk
    have H := Lib.hid (show M.decE n s.data.toList = (M.allE n s.data.toList, 0) by rw [M.decE, if_pos hk])
    have H1 := Lib.hid h1
    clear hk h1
    go_enter Tryd.func50, Tryd.ntmps50
    go_wp2_with (first | (go_at_call 87; refine (ready_to _ _ _ HK.out _).mono ?_; rintro e w' ⟨rfl, rfl⟩) | (go_at_call 88; refine (streamAll_any _ H1.out _ (by omega) _).mono ?_; rintro e w' ⟨v, rfl, hown, hb⟩))
    go_ret2
    rw [H.out]
    exact ⟨_, rfl, by assumption, by assumption⟩
  · have H := Lib.hid (show M.decE n s.data.toList = ([], k) by rw [M.decE, hk, if_neg h])
    have e1 : (k != 0) = true := by simpa using h
    clear hk h
    go_enter Tryd.func50, Tryd.ntmps50
    go_wp2_with (first | (go_at_call 87; refine (ready_to _ _ _ HK.out _).mono ?_; rintro e w' ⟨rfl, rfl⟩))
    go_ret2
    rw [H.out]
    exact ⟨_, rfl, Own.nil _ _ _, Bel.refl _⟩
theorem open_any (n : Int) (w : World) : Calls Tryd.prog 84 #[.int .i64 n] w fun e w' => e = .returned (.tuple #[stV (M.openE n).1, .int .i64 (M.openE n).2]) ∧ Bel w w' := by
  cases h : M.isEnc n with
  | false =>
    have H := Lib.hid (show M.openE n = (⟨0, [], 0, false, false⟩, 6) by rw [M.openE, h]; rfl)
    have HI := Lib.hid h
    clear h
    go_enter Tryd.func84, Tryd.ntmps84
    go_wp2_with (go_at_call 56; refine (isEnc_any _ _).mono ?_; rintro e w' ⟨rfl, rfl⟩; rw [HI.out])
    refine bodyPost_ret (v := .tuple #[stV ⟨0, [], 0, false, false⟩, .int .i64 6]) (by simp [results, Tryd.results84, go_sem, stV]) rfl ?_
    rw [H.out]
    exact ⟨rfl, (by repeat (first | exact Bel.refl _ | refine Bel.drewN ?_ _ | refine Bel.drew ?_ | refine Bel.alloc ?_ _ | refine Bel.trans ?_ (by assumption) | refine Bel.setCell ?_ (by simp; omega) _))⟩
  | true =>
    have H := Lib.hid (show M.openE n = (M.opn n, 0) by rw [M.openE, h]; rfl)
    have HI := Lib.hid h
    clear h
    go_enter Tryd.func84, Tryd.ntmps84
    go_wp2_with (go_at_call 56; refine (isEnc_any _ _).mono ?_; rintro e w' ⟨rfl, rfl⟩; rw [HI.out])
    refine bodyPost_ret (v := .tuple #[stV (M.opn n), .int .i64 0]) (by simp [results, Tryd.results84, go_sem, stV, M.opn]) rfl ?_
    rw [H.out]
    exact ⟨rfl, (by repeat (first | exact Bel.refl _ | refine Bel.drewN ?_ _ | refine Bel.drew ?_ | refine Bel.alloc ?_ _ | refine Bel.trans ?_ (by assumption) | refine Bel.setCell ?_ (by simp; omega) _))⟩
end Go.Proofs.YtbddfefcgfenfaaDoor

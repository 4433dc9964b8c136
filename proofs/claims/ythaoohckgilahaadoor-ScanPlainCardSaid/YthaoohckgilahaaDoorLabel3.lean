/-
  Package label: Of, Trim, Fold, Find, Name.
-/
import Derived.Test.YthaoohckgilahaaDoorLabel2
namespace Go.Proofs.YthaoohckgilahaaDoor
open Go.RowKit
set_option maxRecDepth 1000000

theorem of1_any (nm a : ByteArray) (n : Int) (g : Nat) (w : World) (hc : w.cell? ⟨g, 0, none⟩ = some (.string nm)) (hg : g < w.heap.size) : Calls Tryd.prog 64 #[.agg #[.string a, .int .i64 n], .pointer (some ⟨g, 0, none⟩)] w fun e w' => e = .returned (.bool (a.toList == nm.toList)) ∧ Bel w w' := by
  go_enter Tryd.func64, Tryd.ntmps64
  have hne : g ≠ w.heap.size := by omega
  go_wp2
  all_goals (go_ret; exact ⟨by simp_all, (by repeat (first | exact Bel.refl _ | refine Bel.drewN ?_ _ | refine Bel.drew ?_ | refine Bel.alloc ?_ _ | refine Bel.trans ?_ (by assumption) | refine Bel.setCell ?_ (by simp; omega) _))⟩)
theorem of_any (s : ByteArray) (w : World) (hs : s.size ≤ 68719476735) : Calls Tryd.prog 42 #[.string s] w fun e w' => e = .returned (.int .i64 (M.find s.data.toList)) ∧ Bel w w' := by
  have HF := Lib.hid (M.find_first (M.fold (M.trim s.data.toList)))
  have HN := Lib.hid (M.find_none (M.fold (M.trim s.data.toList)))
  have HL := Lib.hid (M.trim_len s.data.toList)
  have HS := Lib.hid (Lib.size_eq s)
  go_enter Tryd.func42, Tryd.ntmps42
  go_wp2_with (first | (go_at_call 55; refine (labels_any _).mono ?_; rintro e w' ⟨rfl, hc, b1, hg1⟩) | (go_at_call 61; refine (trimmed_any s _ (by omega)).mono ?_; rintro e w' ⟨rfl, b2⟩) | (go_at_call 50; refine (folded_any _ _ (by rw [size_str]; have := HL.out; rw [← HS.out] at this; omega)).mono ?_; rintro e w' ⟨rfl, b3⟩))
  have bA := b2.trans b3
  have h22 : (22 : Nat) ≤ 9223372036854775807 := by decide
  refine (ixLabel w.heap.size 0 22 22 (fun j => (.string ⟨(M.labelAt j).1.toArray⟩, .int .i64 (M.labelAt j).2)) (fun j => (M.labelAt j).1 == M.fold (M.trim s.data.toList)) 64 #[.pointer (some ⟨w'.heap.size, 0, none⟩)] (enters_of Tryd.func64 (by kernel_rfl) rfl) _ ?_ h22 ?_ ?_).mono ?_
  · intro W j hj hB
    rw [World.size_alloc] at hB
    refine (of1_any ⟨(M.fold (M.trim s.data.toList)).toArray⟩ ⟨(M.labelAt j).1.toArray⟩ (M.labelAt j).2 w'.heap.size W ?_ ?_).mono ?_
    · rw [hB.cell (p := ⟨w'.heap.size, 0, none⟩) (by simp), cell_new]
    · have := hB.size; simp at this; omega
    · rintro e w3 ⟨rfl, b4⟩
      refine ⟨?_, by rw [World.size_alloc]; exact hB.trans (b4.mono (by have := hB.size; simp at this; omega))⟩
      rw [Lib.toList_data, Lib.toList_data]
  · have := bA.size; simp; omega
  · intro j hj
    obtain ⟨c1, c2⟩ := hc j hj
    have bB := bA.alloc (.cells #[.string ⟨(M.fold (M.trim s.data.toList)).toArray⟩] 9)
    exact ⟨(bB.cell (p := ⟨w.heap.size, 0 + j * 2, none⟩) hg1).trans c1, (bB.cell (p := ⟨w.heap.size, 0 + j * 2 + 1, none⟩) hg1).trans c2⟩
  rintro e w4 ⟨⟨r, rfl, hr⟩, b4⟩
  have bB := (bA.alloc (.cells #[.string ⟨(M.fold (M.trim s.data.toList)).toArray⟩] 9)).trans b4
  rcases hr with ⟨rfl, hno⟩ | ⟨k, hk, rfl, hyes, hno⟩
  · have HE := Lib.hid (HN.out hno)
    clear hc hno
    go_wp2
    go_ret
    exact ⟨by rw [M.find, HE.out]; rfl, b1.trans bB⟩
  · have HE := Lib.hid (HF.out k hk hyes hno)
    have hcell : w4.cell? ⟨w.heap.size, k * 2 + 1, none⟩ = some (.int .i64 (M.labelAt k).2) := by
      have := (bB.cell (p := ⟨w.heap.size, 0 + k * 2 + 1, none⟩) hg1).trans (hc k hk).2
      rwa [Nat.zero_add] at this
    clear hc hno hyes
    go_wp2
    go_ret
    exact ⟨by rw [M.find, HE.out]; rfl, b1.trans bB⟩
theorem find_to (s : ByteArray) (n x : Int) (h : M.findE s.data.toList = (n, x)) (hs : s.size ≤ 9223372036854775807) (w : World) : Calls Tryd.prog 24 #[.string s] w fun e w' => e = .returned (.tuple #[.int .i64 n, .int .i64 x]) ∧ Bel w w' := by
  by_cases hl : 3000 < s.size
  · rw [M.findE, if_pos (by rw [← Lib.size_eq]; exact hl)] at h
    injection h with h1 h2
    subst h1; subst h2
    go_enter Tryd.func24, Tryd.ntmps24
    go_wp2
    go_ret2
    exact ⟨rfl, Bel.refl _⟩
  · rw [M.findE, if_neg (by rw [← Lib.size_eq]; exact hl)] at h
    injection h with h1 h2
    subst h1; subst h2
    go_enter Tryd.func24, Tryd.ntmps24
    go_wp2_with (go_at_call 42; refine (of_any s _ (by omega)).mono ?_; rintro e w' ⟨rfl, hb⟩)
    go_ret2
    exact ⟨rfl, hb⟩
theorem trim_checked (s : ByteArray) (l : List UInt8) (x : Int) (h : M.trimE s.data.toList = (l, x)) (hs : s.size ≤ 9223372036854775807) (w : World) : Calls Tryd.prog 60 #[.string s, .func (.func 61) #[] #[]] w fun e w' => e = .returned (.tuple #[.string ⟨l.toArray⟩, .int .i64 x]) ∧ Bel w w' := by
  by_cases hl : 3000 < s.size
  · rw [M.trimE, if_pos (by rw [← Lib.size_eq]; exact hl)] at h
    injection h with h1 h2
    subst h1; subst h2
    go_enter Tryd.func60, Tryd.ntmps60
    go_wp2
    go_ret2
    exact ⟨rfl, Bel.refl _⟩
  · rw [M.trimE, if_neg (by rw [← Lib.size_eq]; exact hl)] at h
    injection h with h1 h2
    subst h1; subst h2
    go_enter Tryd.func60, Tryd.ntmps60
    go_wp2_with (go_at_call 61; refine (trimmed_any s _ (by omega)).mono ?_; rintro e w' ⟨rfl, hb⟩)
    go_ret2
    exact ⟨rfl, hb⟩
theorem trim_to (s : ByteArray) (l : List UInt8) (x : Int) (h : M.trimE s.data.toList = (l, x)) (hs : s.size ≤ 9223372036854775807) (w : World) : Calls Tryd.prog 39 #[.string s] w fun e w' => e = .returned (.tuple #[.string ⟨l.toArray⟩, .int .i64 x]) ∧ Bel w w' := by
  go_enter Tryd.func39, Tryd.ntmps39
  go_wp2_with (go_at_call 60; refine (trim_checked s l x h hs _).mono ?_; rintro e w' ⟨rfl, hb⟩)
  go_ret2
  exact ⟨rfl, hb⟩
theorem fold_checked (s : ByteArray) (l : List UInt8) (x : Int) (h : M.foldE s.data.toList = (l, x)) (hs : s.size ≤ 9223372036854775807) (w : World) : Calls Tryd.prog 60 #[.string s, .func (.func 50) #[] #[]] w fun e w' => e = .returned (.tuple #[.string ⟨l.toArray⟩, .int .i64 x]) ∧ Bel w w' := by
  by_cases hl : 3000 < s.size
  · rw [M.foldE, if_pos (by rw [← Lib.size_eq]; exact hl)] at h
    injection h with h1 h2
    subst h1; subst h2
    go_enter Tryd.func60, Tryd.ntmps60
    go_wp2
    go_ret2
    exact ⟨rfl, Bel.refl _⟩
  · rw [M.foldE, if_neg (by rw [← Lib.size_eq]; exact hl)] at h
    injection h with h1 h2
    subst h1; subst h2
    go_enter Tryd.func60, Tryd.ntmps60
    go_wp2_with (go_at_call 50; refine (folded_any s _ (by omega)).mono ?_; rintro e w' ⟨rfl, hb⟩)
    go_ret2
    exact ⟨rfl, hb⟩
theorem fold_to (s : ByteArray) (l : List UInt8) (x : Int) (h : M.foldE s.data.toList = (l, x)) (hs : s.size ≤ 9223372036854775807) (w : World) : Calls Tryd.prog 40 #[.string s] w fun e w' => e = .returned (.tuple #[.string ⟨l.toArray⟩, .int .i64 x]) ∧ Bel w w' := by
  go_enter Tryd.func40, Tryd.ntmps40
  go_wp2_with (go_at_call 60; refine (fold_checked s l x h hs _).mono ?_; rintro e w' ⟨rfl, hb⟩)
  go_ret2
  exact ⟨rfl, hb⟩
theorem name_to (n : Int) (l : List UInt8) (x : Int) (h : M.nameE n = (l, x)) (w : World) : Calls Tryd.prog 41 #[.int .i64 n] w fun e w' => e = .returned (.tuple #[.string ⟨l.toArray⟩, .int .i64 x]) ∧ Bel w w' := by
  cases hn : M.isEnc n with
  | false =>
    rw [M.nameE, hn, if_neg (by decide)] at h
    injection h with h1 h2
    subst h1; subst h2
    have HN := Lib.hid hn
    clear hn
    go_enter Tryd.func41, Tryd.ntmps41
    go_wp2_with (go_at_call 62; refine (isEnc_any _ _).mono ?_; rintro e w' ⟨rfl, rfl⟩; rw [HN.out])
    go_ret2
    exact ⟨rfl, Bel.refl _⟩
  | true =>
    rw [M.nameE, hn, if_pos rfl] at h
    injection h with h1 h2
    subst h1; subst h2
    have HN := Lib.hid hn
    have h7 : n = 1 ∨ n = 2 ∨ n = 3 ∨ n = 4 ∨ n = 5 ∨ n = 6 ∨ n = 7 := by simp only [M.isEnc, decide_eq_true_eq] at hn; omega
    clear hn
    rcases h7 with rfl | rfl | rfl | rfl | rfl | rfl | rfl
    all_goals
      go_enter Tryd.func41, Tryd.ntmps41
      go_wp2_with (go_at_call 62; refine (isEnc_any _ _).mono ?_; rintro e w' ⟨rfl, rfl⟩; rw [HN.out])
      go_ret2
      exact ⟨rfl, (by repeat (first | exact Bel.refl _ | refine Bel.drewN ?_ _ | refine Bel.drew ?_ | refine Bel.alloc ?_ _ | refine Bel.trans ?_ (by assumption) | refine Bel.setCell ?_ (by simp; omega) _))⟩
end Go.Proofs.YthaoohckgilahaaDoor

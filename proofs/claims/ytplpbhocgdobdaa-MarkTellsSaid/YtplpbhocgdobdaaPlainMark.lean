/-
  Plain laws on marks.
-/
import Derived.Test.YtplpbhocgdobdaaPlain
namespace Go.Proofs.Ytplpbhocgdobdaa.M
open Go
theorem sniff_app (l m : Bs) (n k : Int) (h : sniff l = (n, k)) (hn : n ≠ 0) : sniff (l ++ m) = (n, k) ∧ may l = false := by
  match l with
  | [] => simp [sniff, Lib.hasPrefix] at h; omega
  | [a] => simp [sniff, Lib.hasPrefix] at h; omega
  | [a, b] =>
    by_cases h2 : 254 = a ∧ 255 = b
    · obtain ⟨rfl, rfl⟩ := h2
      have e : (n, k) = (3, 2) := by rw [← h]; decide
      rw [e]
      exact ⟨by simp [sniff, Lib.hasPrefix, List.isPrefixOf], by decide⟩
    · by_cases h3 : 255 = a ∧ 254 = b
      · obtain ⟨rfl, rfl⟩ := h3
        have e : (n, k) = (2, 2) := by rw [← h]; decide
        rw [e]
        exact ⟨by simp [sniff, Lib.hasPrefix, List.isPrefixOf], by decide⟩
      · simp [sniff, Lib.hasPrefix, List.isPrefixOf, h2, h3] at h
        omega
  | a :: b :: c :: t =>
    simp only [sniff, may, Lib.hasPrefix, List.isPrefixOf, List.cons_append, List.length_cons] at h ⊢
    refine ⟨h, ?_⟩
    simp only [Bool.or_eq_false_iff, Bool.and_eq_false_iff, decide_eq_false_iff_not]
    exact ⟨⟨.inl (by omega), .inl (by omega)⟩, .inl (by omega)⟩
theorem sniff_none (l : Bs) (k : Int) (h : sniff l = (0, k)) : k = 0 := by
  unfold sniff at h
  split at h
  · simp at h
  · split at h
    · simp at h
    · split at h
      · simp at h
      · simp at h; exact h.symm
theorem sniff_more (l m : Bs) (k : Int) (h : sniff l = (0, k)) (hm : may l = false) : sniff (l ++ m) = (0, 0) := by
  have hk := sniff_none l k h
  subst hk
  match l with
  | [] => simp [may, Lib.hasPrefix] at hm
  | [a] =>
    have h1 : ¬ 239 = a := by rintro rfl; revert hm; decide
    have h2 : ¬ 254 = a := by rintro rfl; revert hm; decide
    have h3 : ¬ 255 = a := by rintro rfl; revert hm; decide
    match m with
    | [] => simpa using h
    | [b] => simp [sniff, Lib.hasPrefix, List.isPrefixOf, h2, h3]
    | b :: c :: t => simp [sniff, Lib.hasPrefix, List.isPrefixOf, h1, h2, h3]
  | [a, b] =>
    match m with
    | [] => simpa using h
    | c :: t =>
      have h1 : ¬ (239 = a ∧ 187 = b) := by rintro ⟨rfl, rfl⟩; revert hm; decide
      have h2 : ¬ (254 = a ∧ 255 = b) := by rintro ⟨rfl, rfl⟩; revert h; decide
      have h3 : ¬ (255 = a ∧ 254 = b) := by rintro ⟨rfl, rfl⟩; revert h; decide
      have h4 : ¬ (239 = a ∧ 187 = b ∧ 191 = c) := fun ⟨x, y, _⟩ => h1 ⟨x, y⟩
      simp [sniff, Lib.hasPrefix, List.isPrefixOf, h2, h3, h4]
  | a :: b :: c :: t =>
    simpa [sniff, Lib.hasPrefix] using h
theorem put_found (n : Int) (l t : Bs) (h : put n l = (t, 0)) (hl : l.length < t.length) : ∃ k : Nat, k ≤ 3 ∧ t.length = l.length + k ∧ sniff t = (n, (k : Int)) ∧ t.drop k = l := by
  unfold put at h
  split at h
  · simp at h
  · split at h
    · simp at h
    · simp only [Prod.mk.injEq, and_true] at h
      subst h
      unfold markOf at hl ⊢
      split
      · exact ⟨3, by decide, by simp, by subst n; simp [sniff, Lib.hasPrefix], by simp⟩
      · split
        · exact ⟨2, by decide, by simp, by subst n; simp [sniff, Lib.hasPrefix], by simp⟩
        · split
          · exact ⟨2, by decide, by simp, by subst n; simp [sniff, Lib.hasPrefix], by simp⟩
          · simp_all
theorem may_eq (l : Bs) : may l = (l == [] || l == [239] || l == [239, 187] || l == [254] || l == [255]) := by
  match l with
  | [] => decide
  | [a] =>
    by_cases h1 : a = 239
    · subst h1; decide
    · by_cases h2 : a = 254
      · subst h2; decide
      · by_cases h3 : a = 255
        · subst h3; decide
        · simp [may, Lib.hasPrefix, List.isPrefixOf, h1, h2, h3]
  | [a, b] =>
    by_cases h1 : a = 239 ∧ b = 187
    · obtain ⟨rfl, rfl⟩ := h1; decide
    · simp [may, Lib.hasPrefix, List.isPrefixOf]
  | a :: b :: c :: t =>
    have h1 : may (a :: b :: c :: t) = false := by
      simp only [may, Bool.or_eq_false_iff, Bool.and_eq_false_iff, decide_eq_false_iff_not, List.length_cons]
      exact ⟨⟨.inl (by omega), .inl (by omega)⟩, .inl (by omega)⟩
    rw [h1]; simp
end Go.Proofs.Ytplpbhocgdobdaa.M

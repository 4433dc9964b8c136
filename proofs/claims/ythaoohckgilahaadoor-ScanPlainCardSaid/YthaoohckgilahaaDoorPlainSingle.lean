/-
  Plain laws on encodings of a byte a sign.
-/
import Derived.Test.YthaoohckgilahaaDoorPlain
namespace Go.Proofs.YthaoohckgilahaaDoor.M
open Go
theorem idx_found (xs : List Int) (n : Int) (k : Nat) (h : xs[k]? = some n) (hno : ∀ j, j < k → xs[j]? ≠ some n) : idx xs n = k := by
  have : xs.findIdx? (fun x => x == n) = some k := by
    rw [List.findIdx?_eq_some_iff_getElem]
    obtain ⟨hk, he⟩ := List.getElem?_eq_some_iff.1 h
    refine ⟨hk, by simp [he], fun j hj => ?_⟩
    have hjl : j < xs.length := by omega
    have := hno j hj
    rw [List.getElem?_eq_getElem hjl] at this
    simpa using this
  rw [idx, this]
theorem idx_none (xs : List Int) (n : Int) (hno : ∀ j, j < xs.length → xs[j]? ≠ some n) : idx xs n = -1 := by
  have : xs.findIdx? (fun x => x == n) = none := by
    rw [List.findIdx?_eq_none_iff]
    intro x hx
    obtain ⟨j, hj, rfl⟩ := List.getElem_of_mem hx
    have := hno j hj
    rw [List.getElem?_eq_getElem hj] at this
    simpa using this
  rw [idx, this]
theorem idx_cases (xs : List Int) (n : Int) : (idx xs n = -1 ∧ ∀ j, j < xs.length → xs[j]? ≠ some n) ∨ ∃ k : Nat, idx xs n = k ∧ xs[k]? = some n ∧ ∀ j, j < k → xs[j]? ≠ some n := by
  by_cases h : ∃ k : Nat, xs[k]? = some n
  · have h2 : ∃ k : Nat, xs[k]? = some n ∧ ∀ j, j < k → xs[j]? ≠ some n := by
      obtain ⟨k, hk⟩ := h
      induction k using Nat.strongRecOn with
      | _ k ih =>
        by_cases h3 : ∃ j : Nat, j < k ∧ xs[j]? = some n
        · obtain ⟨j, hj, hh⟩ := h3
          exact ih j hj hh
        · exact ⟨k, hk, fun j hj hh => h3 ⟨j, hj, hh⟩⟩
    obtain ⟨k, hk, hno⟩ := h2
    exact .inr ⟨k, idx_found xs n k hk hno, hk, hno⟩
  · have hno : ∀ j, j < xs.length → xs[j]? ≠ some n := fun j _ hh => h ⟨j, hh⟩
    exact .inl ⟨idx_none xs n hno, hno⟩
end Go.Proofs.YthaoohckgilahaaDoor.M

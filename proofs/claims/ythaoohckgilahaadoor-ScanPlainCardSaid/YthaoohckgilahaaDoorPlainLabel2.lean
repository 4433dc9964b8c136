/-
  Labels: the table by places.
-/
import Derived.Test.YthaoohckgilahaaDoorPlainLabel
namespace Go.Proofs.YthaoohckgilahaaDoor.M
open Go

def labelAt (j : Nat) : Bs × Int := labels.getD j ([], 0)
theorem labels_len : labels.length = 22 := rfl
theorem labelAt_eq (j : Nat) (h : j < labels.length) : labels[j] = labelAt j := by
  unfold labelAt; rw [List.getD_eq_getElem?_getD, List.getElem?_eq_getElem h]; rfl
theorem find_first (name : Bs) (k : Nat) (hk : k < 22) (h : ((labelAt k).1 == name) = true) (hno : ∀ j, j < k → ((labelAt j).1 == name) = false) : find0 name = (labelAt k).2 := by
  have e : labels.find? (fun x => x.1 == name) = some (labelAt k) := by
    rw [List.find?_eq_some_iff_getElem]
    refine ⟨h, k, labels_len ▸ hk, labelAt_eq k _, fun j hj => ?_⟩
    rw [labelAt_eq j, hno j hj]; rfl
  rw [find0, e]
theorem find_none (name : Bs) (hno : ∀ j, j < 22 → ((labelAt j).1 == name) = false) : find0 name = 0 := by
  have e : labels.find? (fun x => x.1 == name) = none := by
    rw [List.find?_eq_none]
    intro x hx
    obtain ⟨j, hj, rfl⟩ := List.getElem_of_mem hx
    rw [labelAt_eq j hj, hno j (labels_len ▸ hj)]; decide
  rw [find0, e]
theorem label_small : ∀ j, j < 22 → (labelAt j).1.length ≤ 40 := by decide
end Go.Proofs.YthaoohckgilahaaDoor.M

/-
  Package label: Labels, Of, Trim, Fold, Find, Name.
-/
import Derived.Test.YthaoohckgilahaaDoorLabel
import Derived.Test.YthaoohckgilahaaDoorPlainLabel2
namespace Go.Proofs.YthaoohckgilahaaDoor
open Go.RowKit
set_option maxRecDepth 1000000

def labelCells : List Value := M.labels.flatMap (fun x => [.string ⟨x.1.toArray⟩, .int .i64 x.2])
theorem labelCells_at : ∀ (l : List (List UInt8 × Int)) (j : Nat), j < l.length → (l.flatMap (fun x => [Value.string ⟨x.1.toArray⟩, .int .i64 x.2]))[0 + j * 2]? = some (.string ⟨(l.getD j ([], 0)).1.toArray⟩) ∧ (l.flatMap (fun x => [Value.string ⟨x.1.toArray⟩, .int .i64 x.2]))[0 + j * 2 + 1]? = some (.int .i64 (l.getD j ([], 0)).2)
  | [], j, h => by simp at h
  | x :: l, 0, h => ⟨rfl, rfl⟩
  | x :: l, j + 1, h => by
    have := labelCells_at l j (by simpa using h)
    rw [show 0 + (j + 1) * 2 = (0 + j * 2) + 2 by omega, show (0 + j * 2) + 2 + 1 = (0 + j * 2 + 1) + 2 by omega]
    exact this
set_option maxHeartbeats 2000000 in
theorem labels_run (w : World) : Calls Tryd.prog 55 #[] w fun e w' => e = .returned (.slice (some ⟨w.heap.size, 0, none⟩) 22 22) ∧ w.alloc (.cells labelCells.toArray 71) = w' := by
  go_enter Tryd.func55, Tryd.ntmps55
  go_wp2
  go_ret
  exact ⟨rfl, rfl⟩
theorem labels_any (w : World) : Calls Tryd.prog 55 #[] w fun e w' => e = .returned (.slice (some ⟨w.heap.size, 0, none⟩) 22 22) ∧ (∀ j, j < 22 → w'.cell? ⟨w.heap.size, 0 + j * 2, none⟩ = some (.string ⟨(M.labelAt j).1.toArray⟩) ∧ w'.cell? ⟨w.heap.size, 0 + j * 2 + 1, none⟩ = some (.int .i64 (M.labelAt j).2)) ∧ Bel w w' ∧ w.heap.size < w'.heap.size := by
  refine (labels_run w).mono ?_
  rintro e w' ⟨rfl, rfl⟩
  refine ⟨rfl, fun j hj => ?_, (by repeat (first | exact Bel.refl _ | refine Bel.drewN ?_ _ | refine Bel.drew ?_ | refine Bel.alloc ?_ _ | refine Bel.trans ?_ (by assumption) | refine Bel.setCell ?_ (by simp; omega) _)), by simp⟩
  obtain ⟨h1, h2⟩ := labelCells_at M.labels j hj
  rw [World.cell?_alloc_new, World.cell?_alloc_new, List.getElem?_toArray, List.getElem?_toArray]
  exact ⟨h1, h2⟩
end Go.Proofs.YthaoohckgilahaaDoor

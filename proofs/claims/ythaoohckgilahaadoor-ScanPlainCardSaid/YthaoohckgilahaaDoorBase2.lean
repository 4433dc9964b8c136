/-
  More words that all proofs share: the types' rows, lists that grow by one.
-/
import Derived.Test.YthaoohckgilahaaDoorProg
import Derived.Test.YthaoohckgilahaaDoorBase
import Derived.WalkLawsBesides
import Derived.WalkSpells
import Derived.Deep.QuietTactic
import Derived.BigQuiet
namespace Go.Proofs.YthaoohckgilahaaDoor
open Go.RowKit

theorem elemByte : Elem Tryd.prog 72 5 1 := ⟨Tryd.underlying72, .int .u8 0, by kernel_rfl, rfl⟩
theorem take_snoc {α β : Type} (f : α → β) (xs : List α) (k : Nat) (x : α) (h : xs[k]? = some x) : (xs.take (k + 1)).map f = (xs.take k).map f ++ [f x] := by
  rw [List.take_add_one, h]; simp
theorem cell_new (w : World) (u : Value) (t : TypeId) : (w.alloc (.cells #[u] t)).cell? ⟨w.heap.size, 0, none⟩ = some u := by
  rw [World.cell?_alloc_new]; rfl
theorem Below.sized {B : Nat} {a w : World} (h : Below B a w) (hB : B ≤ a.heap.size) : B ≤ w.heap.size := Nat.le_trans hB h.size
end Go.Proofs.YthaoohckgilahaaDoor

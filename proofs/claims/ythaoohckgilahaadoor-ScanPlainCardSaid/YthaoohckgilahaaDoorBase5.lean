/-
  A block that is known whole: a struct behind a pointer, a variable that a closure holds.
-/
import Derived.Test.YthaoohckgilahaaDoorBase4
import Derived.Laws.Rows
import Derived.Deep.RegionHeld3
import Derived.StillTailTactics
namespace Go.Proofs.YthaoohckgilahaaDoor
open Go.RowKit

/-- Block g holds just these cells, and none is frozen. -/
def Box (w : World) (g : Nat) (t : TypeId) (cs : List Value) : Prop := w.heap[g]? = some (.cells cs.toArray t (0, 0))
section
variable {w w' : World} {g B : Nat} {t : TypeId} {cs : List Value}
theorem Box.lt (h : Box w g t cs) : g < w.heap.size := by
  unfold Box at h
  exact (Array.getElem?_eq_some_iff.1 h).1
theorem Box.cell (h : Box w g t cs) (i : Nat) (v : Value) (hv : cs[i]? = some v) : w.cell? ⟨g, i, none⟩ = some v := by
  unfold Box at h
  simp [World.cell?, h, hv]
theorem Box.frozen (h : Box w g t cs) (i : Nat) : w.frozen? ⟨g, i, none⟩ = false := by
  unfold Box at h
  simp [World.frozen?, h]
theorem Box.bel (h : Box w g t cs) (hb : Bel w w') : Box w' g t cs := (hb.block g h.lt).trans h
theorem Box.upto (h : Box w g t cs) (hb : Below B w w') (hg : g < B) : Box w' g t cs := (hb.block g hg).trans h
theorem Box.new (w : World) (t : TypeId) (cs : List Value) : Box (w.alloc (.cells cs.toArray t)) w.heap.size t cs := heap_alloc_new w _
theorem Box.drewN (h : Box w g t cs) (n : Nat) : Box (w.drewN n) g t cs := h
theorem Box.set (h : Box w g t cs) (i : Nat) (u : Value) : Box (w.setCell ⟨g, i, none⟩ u) g t (cs.set i u) := by
  unfold Box at h ⊢
  simp [World.setCell, Array.getElem?_modify, h]
theorem Box.far (h : Box w g t cs) {p : Addr} (hp : g ≠ p.block) (u : Value) : Box (w.setCell p u) g t cs := (Below.heap_setCell w p u g hp).trans h
theorem Box.set0 {u v : Value} (h : Box w g t [v]) : Box (w.setCell ⟨g, 0, none⟩ u) g t [u] := h.set 0 u
end
theorem Own.setCell {B : Nat} {e : TypeId} {w : World} {v : Value} {xs : List Value} (h : Own B e w v xs) {p : Addr} (hp : p.block < B) (u : Value) : Own B e (w.setCell p u) v xs := by
  refine ⟨h.1, ?_⟩
  rcases h.2 with h2 | ⟨g, cap, cur, r0, r1, r2, r3⟩
  · exact .inl h2
  · exact .inr ⟨g, cap, cur, r0, r1, (Below.heap_setCell w p u g (by omega)).trans r2, r3⟩
theorem bel_store {w wr w1 : World} {B g i : Nat} (h : Bel w wr) (k : Below B wr w1) (hB : w.heap.size ≤ B) (hg : w.heap.size ≤ g) (u : Value) : Bel w (w1.setCell ⟨g, i, none⟩ u) :=
  (Bel.upto h k hB).setCell hg u
end Go.Proofs.YthaoohckgilahaaDoor

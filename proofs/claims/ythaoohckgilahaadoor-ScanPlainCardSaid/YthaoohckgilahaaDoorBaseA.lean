/-
  Lists of attributes: structs of two texts.
-/
import Derived.Test.YthaoohckgilahaaDoorBase8
namespace Go.Proofs.YthaoohckgilahaaDoor
open Go.RowKit

def agS (p : List UInt8 × List UInt8) : List Value := [.string ⟨p.1.toArray⟩, .string ⟨p.2.toArray⟩]
def attrCells (xs : List (List UInt8 × List UInt8)) : List Value := xs.flatMap agS
theorem attrCells_len (xs : List (List UInt8 × List UInt8)) : (attrCells xs).length = xs.length * 2 := by
  unfold attrCells
  induction xs with
  | nil => rfl
  | cons x l ih => rw [List.flatMap_cons, List.length_append, ih, List.length_cons]; simp [agS]; omega
theorem attrCells_at : ∀ (xs : List (List UInt8 × List UInt8)) (k : Nat) (p : List UInt8 × List UInt8), xs[k]? = some p → (attrCells xs)[k * 2]? = some (.string ⟨p.1.toArray⟩) ∧ (attrCells xs)[k * 2 + 1]? = some (.string ⟨p.2.toArray⟩)
  | [], k, p, h => by cases h
  | x :: l, 0, p, h => by injection h with h; subst h; exact ⟨rfl, rfl⟩
  | x :: l, k + 1, p, h => by
    have := attrCells_at l k p h
    rw [show (k + 1) * 2 = k * 2 + 2 by omega, show k * 2 + 2 + 1 = (k * 2 + 1) + 2 by omega]
    exact this
/-- A list of attributes that is the call's own, in a block from B on. -/
def OwnA (B : Nat) (w : World) (v : Value) (xs : List (List UInt8 × List UInt8)) : Prop := w.ownsRow B 23 2 v xs.length (attrCells xs)
theorem OwnA.nil (B : Nat) (w : World) : OwnA B w (.slice none 0 0) [] := World.ownsRow_nil _ _ _ _
theorem OwnA.lt {B : Nat} {w : World} {v : Value} {xs : List (List UInt8 × List UInt8)} (h : OwnA B w v xs) : ∀ k, v.ownBlock = some k → B ≤ k ∧ k < w.heap.size := World.ownsRow.lt h
theorem OwnA.keep {B : Nat} {w w' : World} {v : Value} {xs : List (List UInt8 × List UInt8)} (h : OwnA B w v xs) (hk : ∀ k, v.ownBlock = some k → w'.heap[k]? = w.heap[k]?) : OwnA B w' v xs := by
  refine ⟨h.1, ?_⟩
  rcases h.2 with h2 | ⟨k, cap, cur, r0, r1, r2, r3⟩
  · exact .inl h2
  · exact .inr ⟨k, cap, cur, r0, r1, (hk k (by subst r0; rfl)).trans r2, r3⟩
theorem OwnA.bel {B : Nat} {w w' : World} {v : Value} {xs : List (List UInt8 × List UInt8)} (h : OwnA B w v xs) (hb : Bel w w') : OwnA B w' v xs :=
  h.keep (fun k hk => hb.block k (h.lt k hk).2)
theorem OwnA.mono {B C : Nat} {w : World} {v : Value} {xs : List (List UInt8 × List UInt8)} (h : OwnA B w v xs) (hC : C ≤ B) : OwnA C w v xs := by
  refine ⟨h.1, ?_⟩
  rcases h.2 with h2 | ⟨k, cap, cur, r0, r1, r2⟩
  · exact .inl h2
  · exact .inr ⟨k, cap, cur, r0, Nat.le_trans hC r1, r2⟩
/-- A list of attributes that is read. -/
def AttrSl (w : World) (v : Value) (xs : List (List UInt8 × List UInt8)) : Prop :=
  ∃ a c, v = .slice a xs.length c ∧ xs.length ≤ c ∧ c ≤ maxLen ∧ (a = none → xs = []) ∧ (∀ x, a = some x → ∃ g o, x = ⟨g, o, none⟩ ∧ ∀ i p, xs[i]? = some p → w.cell? ⟨g, o + i * 2, none⟩ = some (.string ⟨p.1.toArray⟩) ∧ w.cell? ⟨g, o + i * 2 + 1, none⟩ = some (.string ⟨p.2.toArray⟩))
theorem AttrSl.bel {w w' : World} {v : Value} {xs : List (List UInt8 × List UInt8)} (h : AttrSl w v xs) (hb : Bel w w') : AttrSl w' v xs := by
  obtain ⟨a, c, h1, h2, h3, h4, h5⟩ := h
  refine ⟨a, c, h1, h2, h3, h4, fun x hx => ?_⟩
  obtain ⟨g, o, e, h6⟩ := h5 x hx
  refine ⟨g, o, e, fun i p hp => ?_⟩
  obtain ⟨g1, g2⟩ := h6 i p hp
  exact ⟨(hb.cell (World.block_lt_of_cell? w _ g1)).trans g1, (hb.cell (World.block_lt_of_cell? w _ g2)).trans g2⟩
theorem OwnA.sl {B : Nat} {w : World} {v : Value} {xs : List (List UInt8 × List UInt8)} (h : OwnA B w v xs) : AttrSl w v xs := by
  rcases h.2 with ⟨rfl, hn⟩ | ⟨g, cap, cur, rfl, r1, r2, r3, r4, r5, r6⟩
  · have hx : xs = [] := List.eq_nil_of_length_eq_zero hn
    subst hx
    exact ⟨none, 0, rfl, Nat.le_refl _, Nat.zero_le _, fun _ => rfl, fun _ hh => by cases hh⟩
  · refine ⟨some ⟨g, 0, none⟩, cap, rfl, r3, r4, (fun hh => by cases hh), fun x hx => ⟨g, 0, by injection hx with hx; exact hx.symm, fun i p hp => ?_⟩⟩
    obtain ⟨g1, g2⟩ := attrCells_at xs i p hp
    have k1 := World.ownsRow.cells h (g := g) rfl _ _ g1
    have k2 := World.ownsRow.cells h (g := g) rfl _ _ g2
    rw [add_zero] at k1 k2
    rw [Nat.zero_add]
    exact ⟨k1, k2⟩
theorem attrInfo : ∃ z, (Tryd.prog.info? 23).map (fun i => (i.zero, i.size, i.bytes)) = some (some z, 2, 32) ∧ z.cells.size = 2 := ⟨.agg #[.string ⟨#[]⟩, .string ⟨#[]⟩], by kernel_rfl, rfl⟩
/-- 'out = append(out, a)': the two cells have just been laid. -/
theorem wpList_appA {w0 : World} {ops : Array Oper} {rest : List Oper} {o : Oper} {a : Act} {Q : Exit → Act → World → Prop} (s x : Operand)
    (ho : o.op = .call { callee := .builtin .append, args := #[s, x], argTypes := #[27, 27] })
    (B : Nat) (v : Value) (xs : List (List UInt8 × List UInt8)) (p : List UInt8 × List UInt8) (hown : OwnA B w0 v xs) (hlen : xs.length < 68719476736) (hB : B ≤ w0.heap.size)
    (hs : a.eval s = v) (hx : a.eval x = .slice (some ⟨w0.heap.size, 0, none⟩) 1 1) (hw : Region.wanted o (yielded ops a.tmps) = true)
    (h : ∀ v' w', OwnA B w' v' (xs ++ [p]) → Below B w0 w' → (∀ k, v.ownBlock ≠ some k → k < w0.heap.size → w'.heap[k]? = w0.heap[k]?) → wpList Tryd.prog ops Q rest (a.put o.dst v') w') : wpList Tryd.prog ops Q (o :: rest) a (w0.alloc (.cells #[.string ⟨p.1.toArray⟩, .string ⟨p.2.toArray⟩] 23)) := by
  refine wpList_wanted hw fun K hK => ?_
  obtain ⟨z, hi, hz⟩ := attrInfo
  obtain ⟨i, hi, hz0, hz1, hz2⟩ := info_parts hi
  refine wp_append_own _ s x 27 ho B 23 i z 2 32 Tryd.underlying27 hi hz0 hz1 hz2 hz (by decide) v xs.length (attrCells xs) hs (hown.bel ((Bel.refl w0).alloc _)) ⟨w0.heap.size, 0, none⟩ 1 1 (agS p) hx rfl ?_ ?_ (by simp only [maxLen]; omega) ?_ (by simp; omega) ?_
  · intro j u hj
    rw [add_zero, World.cell?_alloc_new]
    show (agS p).toArray[j]? = _
    rw [List.getElem?_toArray]
    exact hj
  · intro u hu
    simp only [agS, List.mem_cons, List.not_mem_nil, or_false] at hu
    rcases hu with rfl | rfl <;> rfl
  · omega
  · intro v' w' ho' hg' _
    refine hK _ _ (h v' w' ?_ ?_ ?_)
    · show w'.ownsRow B 23 2 v' (xs ++ [p]).length (attrCells (xs ++ [p]))
      rw [List.length_append, show attrCells (xs ++ [p]) = attrCells xs ++ agS p by unfold attrCells; rw [List.flatMap_append]; simp]
      exact ho'
    · exact ((Below.refl B w0).alloc hB _).trans ((Below.refl B _).grown hg' (by simp; omega) (fun k hk => (hown.lt k hk).1))
    · intro k hne hk
      exact (hg'.block k (by simp; omega) (fun e => hne e.symm)).trans (((Bel.refl w0).alloc _).block k hk)
/-- The length of what a machine bears is laid: some number. -/
def Len (w : World) : Prop := ∃ m : Int, w.cell? ⟨0, 0, none⟩ = some (.int .i64 m)
theorem Len.bel {w w' : World} (h : Len w) (hb : Bel w w') : Len w' := by
  obtain ⟨m, hm⟩ := h
  exact ⟨m, (hb.cell (World.block_lt_of_cell? w _ hm)).trans hm⟩
theorem len_of {w : World} (h : w.ShapedOpen Tryd.prog) : Len w := Tryd.laysM143.s1_3 w h
end Go.Proofs.YthaoohckgilahaaDoor

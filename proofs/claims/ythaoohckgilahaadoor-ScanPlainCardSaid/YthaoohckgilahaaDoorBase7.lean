/-
  Append, and what lies in other blocks.
-/
import Derived.Test.YthaoohckgilahaaDoorBase6
namespace Go.Proofs.YthaoohckgilahaaDoor
open Go.RowKit

/-- Append of a whole list of numbers: what lies in other blocks is as it was. -/
theorem wpList_appIntsX {P : Program} {w : World} {ops : Array Oper} {rest : List Oper} {o : Oper} {a : Act} {Q : Exit → Act → World → Prop} (s x : Operand) (t : TypeId)
    (ho : o.op = .call { callee := .builtin .append, args := #[s, x], argTypes := #[t, t] }) {e : TypeId} {bytes : Nat} (he : Elem P t e bytes) (hby : bytes ≤ 1024)
    (B : Nat) (v : Value) (xs : List Value) (hown : Own B e w v xs) (y : Value) (ys : List Int) (hy : IntSl w y ys) (hlen : xs.length + ys.length < 68719476736) (hB : B ≤ w.heap.size)
    (hs : a.eval s = v) (hx : a.eval x = y) (hw : Region.wanted o (yielded ops a.tmps) = true)
    (h : ∀ v' w', Own B e w' v' (xs ++ ys.map (Value.int .i64)) → Below B w w' → (∀ k, v.ownBlock ≠ some k → k < w.heap.size → w'.heap[k]? = w.heap[k]?) → wpList P ops Q rest (a.put o.dst v') w') : wpList P ops Q (o :: rest) a w := by
  refine wpList_wanted hw fun K hK => ?_
  obtain ⟨A, c, rfl, h1, h2, h3, h4⟩ := hy
  cases A with
  | none =>
    have hn := h3 rfl
    subst hn
    have hr := run_append_nil_src o.type he hown c
    unfold Oper.wp execOp
    simp only [ho, resolve, invoke, builtin, Sem.run_bind, Sem.run_pure, Result.andThen_ok, List.map_toArray, List.map_cons, List.map_nil, hs, hx, List.length_nil, hr]
    exact hK _ _ (h _ _ (by simpa using hown) (Below.refl _ _) (fun _ _ _ => rfl))
  | some ad =>
    obtain ⟨ht, z, hi, hz⟩ := he
    obtain ⟨i, hi, hz0, hz1, hz2⟩ := info_parts hi
    refine wp_append_own w s x t ho B e i z 1 bytes ht hi hz0 hz1 hz2 hz (by decide) v xs.length xs hs hown ad ys.length c (ys.map (Value.int .i64)) hx (by simp) ?_ ?_ (by simp only [maxLen]; omega) ?_ hB ?_
    · intro j u hj
      rw [List.getElem?_map] at hj
      cases hq : ys[j]? with
      | none => rw [hq] at hj; cases hj
      | some n =>
        rw [hq] at hj
        injection hj with hj
        rw [← hj]
        exact h4 ad rfl j n hq
    · intro u hu
      rw [List.mem_map] at hu
      obtain ⟨n, _, rfl⟩ := hu
      rfl
    · have : (xs.length + ys.length) * bytes ≤ 68719476736 * 1024 := Nat.mul_le_mul (by omega) hby
      omega
    · intro v' w' ho' hg' _
      refine hK _ _ (h v' w' ?_ ?_ ?_)
      · show w'.ownsRow B e 1 v' (xs ++ ys.map (Value.int .i64)).length (xs ++ ys.map (Value.int .i64))
        rw [List.length_append, List.length_map]
        exact ho'
      · exact (Below.refl B w).grown hg' hB (fun k hk => (hown.lt k hk).1)
      · exact fun k hne hk => hg'.block k hk (fun e => hne e.symm)
theorem Own.keep {B : Nat} {e : TypeId} {w w' : World} {v : Value} {xs : List Value} (h : Own B e w v xs) (hk : ∀ k, v.ownBlock = some k → w'.heap[k]? = w.heap[k]?) : Own B e w' v xs := by
  refine ⟨h.1, ?_⟩
  rcases h.2 with h2 | ⟨k, cap, cur, r0, r1, r2, r3⟩
  · exact .inl h2
  · exact .inr ⟨k, cap, cur, r0, r1, (hk k (by subst r0; rfl)).trans r2, r3⟩
theorem Box.keep {w w' : World} {g : Nat} {t : TypeId} {cs : List Value} (h : Box w g t cs) (hk : w'.heap[g]? = w.heap[g]?) : Box w' g t cs := hk.trans h
end Go.Proofs.YthaoohckgilahaaDoor

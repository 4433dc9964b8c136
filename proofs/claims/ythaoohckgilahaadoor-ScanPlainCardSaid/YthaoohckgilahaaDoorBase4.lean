/-
  Append of a whole list of numbers, as a step of a walk (guarded or not).
-/
import Derived.Test.YthaoohckgilahaaDoorBase3
namespace Go.Proofs.YthaoohckgilahaaDoor
open Go.RowKit

theorem wpList_wanted {P : Program} {w : World} {ops : Array Oper} {rest : List Oper} {o : Oper} {a : Act} {Q : Exit → Act → World → Prop} (hw : Region.wanted o (yielded ops a.tmps) = true)
    (h : ∀ K : Act → World → Prop, (∀ a w, wpList P ops Q rest a w → K a w) → o.wp P a w K Q) : wpList P ops Q (o :: rest) a w :=
  wpList_step fun K hK => by rw [if_pos hw]; exact h K hK

theorem run_append_nil_src {P : Program} {w : World} {B : Nat} {t e : TypeId} {bytes : Nat} (ty : TypeId) (he : Elem P t e bytes) {v : Value} {xs : List Value} (hown : Own B e w v xs) (c : Nat) :
    (Builtin.append_ #[t, t] ty #[v, .slice none 0 c]).run P w = .ok v w := by
  obtain ⟨ht, z, hi, hz⟩ := he
  obtain ⟨i, hi, hz0, hz1, hz2⟩ := info_parts hi
  rcases hown.2 with ⟨rfl, h0⟩ | ⟨g, cap, cur, rfl, _, _, hnc, _⟩
  · simp [Builtin.append_, run_underlying ht, sizeOf, typeInfo, hi, Builtin.lenOf, Builtin.firstCells]
  · simp [Builtin.append_, run_underlying ht, sizeOf, typeInfo, hi, Builtin.lenOf, Builtin.firstCells, hnc, storeCells]

theorem wpList_appInts {P : Program} {w : World} {ops : Array Oper} {rest : List Oper} {o : Oper} {a : Act} {Q : Exit → Act → World → Prop} (s x : Operand) (t : TypeId)
    (ho : o.op = .call { callee := .builtin .append, args := #[s, x], argTypes := #[t, t] }) {e : TypeId} {bytes : Nat} (he : Elem P t e bytes) (hby : bytes ≤ 1024)
    (B : Nat) (v : Value) (xs : List Value) (hown : Own B e w v xs) (y : Value) (ys : List Int) (hy : IntSl w y ys) (hlen : xs.length + ys.length < 68719476736) (hB : B ≤ w.heap.size)
    (hs : a.eval s = v) (hx : a.eval x = y) (hw : Region.wanted o (yielded ops a.tmps) = true)
    (h : ∀ v' w', Own B e w' v' (xs ++ ys.map (Value.int .i64)) → Below B w w' → wpList P ops Q rest (a.put o.dst v') w') : wpList P ops Q (o :: rest) a w := by
  refine wpList_wanted hw fun K hK => ?_
  obtain ⟨A, c, rfl, h1, h2, h3, h4⟩ := hy
  cases A with
  | none =>
    have hn := h3 rfl
    subst hn
    have hr := run_append_nil_src o.type he hown c
    unfold Oper.wp execOp
    simp only [ho, resolve, invoke, builtin, Sem.run_bind, Sem.run_pure, Result.andThen_ok, List.map_toArray, List.map_cons, List.map_nil, hs, hx, List.length_nil, hr]
    exact hK _ _ (h _ _ (by simpa using hown) (Below.refl _ _))
  | some ad =>
    obtain ⟨ht, z, hi, hz⟩ := he
    obtain ⟨i, hi, hz0, hz1, hz2⟩ := info_parts hi
    refine wp_append_own w s x t ho B e i z 1 bytes ht hi hz0 hz1 hz2 hz (by decide) v xs.length xs hs hown ad ys.length c (ys.map (Value.int .i64)) hx (by simp) ?_ ?_ (by simp only [maxLen]; omega) ?_ hB ?_
    · intro j u hj
      rw [List.getElem?_map] at hj
      cases hq : ys[j]? with
      | none => rw [hq] at hj; cases hj
      | some n =>
        rw [hq] at hj
        injection hj with hj
        rw [← hj]
        exact h4 ad rfl j n hq
    · intro u hu
      rw [List.mem_map] at hu
      obtain ⟨n, _, rfl⟩ := hu
      rfl
    · have : (xs.length + ys.length) * bytes ≤ 68719476736 * 1024 := Nat.mul_le_mul (by omega) hby
      omega
    · intro v' w' ho' hg' _
      refine hK _ _ (h v' w' ?_ ?_)
      · show w'.ownsRow B e 1 v' (xs ++ ys.map (Value.int .i64)).length (xs ++ ys.map (Value.int .i64))
        rw [List.length_append, List.length_map]
        exact ho'
      · exact (Below.refl B w).grown hg' hB (fun k hk => (hown.lt k hk).1)
/-- '[]int{}'. -/
theorem Own.empty {B : Nat} (w : World) (e : TypeId) (hB : B ≤ w.heap.size) : Own B e (w.alloc (.cells #[] e)) (.slice (some ⟨w.heap.size, 0, none⟩) 0 0) [] :=
  Own.made w [] hB (Nat.zero_le _)
/-- 'out = append(out, x, y, ..)': the cells have just been laid. -/
theorem wpList_apps {P : Program} {w0 : World} {ops : Array Oper} {rest : List Oper} {o : Oper} {a : Act} {Q : Exit → Act → World → Prop} (s x : Operand) (t : TypeId)
    (ho : o.op = .call { callee := .builtin .append, args := #[s, x], argTypes := #[t, t] }) {e : TypeId} {bytes : Nat} (he : Elem P t e bytes) (hby : bytes ≤ 1024)
    (B : Nat) (v : Value) (xs us : List Value) (hown : Own B e w0 v xs) (h1 : ∀ u ∈ us, u.oneCell' = true) (hlen : xs.length + us.length < 68719476736) (hB : B ≤ w0.heap.size)
    (hs : a.eval s = v) (hx : a.eval x = .slice (some ⟨w0.heap.size, 0, none⟩) us.length us.length) (hw : Region.wanted o (yielded ops a.tmps) = true)
    (h : ∀ v' w', Own B e w' v' (xs ++ us) → Below B w0 w' → wpList P ops Q rest (a.put o.dst v') w') : wpList P ops Q (o :: rest) a (w0.alloc (.cells us.toArray e)) := by
  refine wpList_wanted hw fun K hK => ?_
  obtain ⟨ht, z, hi, hz⟩ := he
  obtain ⟨i, hi, hz0, hz1, hz2⟩ := info_parts hi
  refine wp_append_own _ s x t ho B e i z 1 bytes ht hi hz0 hz1 hz2 hz (by decide) v xs.length xs hs (hown.alloc _) ⟨w0.heap.size, 0, none⟩ us.length us.length us hx (by simp) ?_ h1 (by simp only [maxLen]; omega) ?_ (by simp; omega) ?_
  · intro j u hj
    rw [add_zero, World.cell?_alloc_new, List.getElem?_toArray]
    exact hj
  · have : (xs.length + us.length) * bytes ≤ 68719476736 * 1024 := Nat.mul_le_mul (by omega) hby
    omega
  · intro v' w' ho' hg' _
    refine hK _ _ (h v' w' ?_ ?_)
    · show w'.ownsRow B e 1 v' (xs ++ us).length (xs ++ us)
      rw [List.length_append]
      exact ho'
    · exact ((Below.refl B w0).alloc hB _).trans ((Below.refl B _).grown hg' (by simp; omega) (fun k hk => (hown.lt k hk).1))
end Go.Proofs.YthaoohckgilahaaDoor

/-
  Append of one number, and where the new slice lies; a table of the library that stays; numbers in letters.
-/
import Derived.Test.YthaoohckgilahaaDoorBase7
import Derived.Test.YthaoohckgilahaaDoorPlainEnc
import Derived.Test.YthaoohckgilahaaDoorShelf
import Derived.Lib.LaidTab
namespace Go.Proofs.YthaoohckgilahaaDoor
open Go.RowKit

theorem wpList_appM {P : Program} {w0 : World} {ops : Array Oper} {rest : List Oper} {o : Oper} {a : Act} {Q : Exit → Act → World → Prop} (s x : Operand) (t : TypeId)
    (ho : o.op = .call { callee := .builtin .append, args := #[s, x], argTypes := #[t, t] }) {e : TypeId} {bytes : Nat} (he : Elem P t e bytes) (hby : bytes ≤ 1024)
    (B : Nat) (v : Value) (xs : List Value) (u : Value) (hown : Own B e w0 v xs) (h1 : u.oneCell' = true) (hlen : xs.length < 68719476736) (hB : B ≤ w0.heap.size)
    (hs : a.eval s = v) (hx : a.eval x = .slice (some ⟨w0.heap.size, 0, none⟩) 1 1) (hw : Region.wanted o (yielded ops a.tmps) = true)
    (h : ∀ v' w', Own B e w' v' (xs ++ [u]) → Below B w0 w' → (∀ k, v.ownBlock ≠ some k → k < w0.heap.size → w'.heap[k]? = w0.heap[k]?) → (∀ k, v'.ownBlock = some k → v.ownBlock = some k ∨ w0.heap.size ≤ k) → wpList P ops Q rest (a.put o.dst v') w') : wpList P ops Q (o :: rest) a (w0.alloc (.cells #[u] e)) := by
  refine wpList_wanted hw fun K hK => ?_
  obtain ⟨ht, z, hi, hz⟩ := he
  obtain ⟨i, hi, hz0, hz1, hz2⟩ := info_parts hi
  refine wp_append_lies _ s x t ho B e i z 1 bytes ht hi hz0 hz1 hz2 hz (by decide) v xs.length xs hs (hown.alloc _) ⟨w0.heap.size, 0, none⟩ 1 1 [u] hx (by simp) ?_ (by simpa using h1) (by decide) (by simp only [maxLen]; omega) ?_ (by simp; omega) (w0.alloc (.cells #[u] e)).heap.size rfl ?_
  · intro j u' hj
    rw [add_zero, World.cell?_alloc_new]
    simpa using hj
  · have : (xs.length + 1) * bytes ≤ 68719476736 * 1024 := Nat.mul_le_mul (by omega) hby
    omega
  · intro g cap w' ho' hg' hat _
    refine hK _ _ (h _ w' ?_ ?_ ?_ ?_)
    · show w'.ownsRow B e 1 _ (xs ++ [u]).length (xs ++ [u])
      rw [List.length_append]
      exact ho'
    · exact ((Below.refl B w0).alloc hB _).trans ((Below.refl B _).grown hg' (by simp; omega) (fun k hk => (hown.lt k hk).1))
    · intro k hne hk
      exact (hg'.block k (by simp; omega) (fun e => hne e.symm)).trans (((Bel.refl w0).alloc _).block k hk)
    · intro k hk
      have hgk : g = k := by simpa [Value.ownBlock] using hk
      subst hgk
      rcases hat with h9 | h9
      · exact .inl h9
      · right; rw [h9]; simp
theorem dec_len (k : Nat) : ∀ u : Nat, u < 10 ^ (k + 1) → (Lib.decDigits u).length ≤ k + 1 := by
  induction k with
  | zero => intro u hu; rw [Lib.decDigits, dif_pos (by omega)]; exact Nat.le_refl _
  | succ k ih =>
    intro u hu
    rw [Lib.decDigits]
    split
    · simp
    · rw [List.length_append, List.length_singleton]
      have := ih (u / 10) (by rw [Nat.pow_succ] at hu; omega)
      omega
theorem itoa_len (n : Int) (h0 : 0 ≤ n) (h1 : n ≤ 1114111) : (Lib.itoa n).length ≤ 7 := by
  rw [Lib.itoa, if_neg (by omega)]
  exact dec_len 6 _ (by omega)
theorem numE_len (n : Int) (h0 : 0 ≤ n) (h1 : n ≤ 1114111) : (M.numE n).length ≤ 10 := by
  have := itoa_len n h0 h1
  unfold M.numE
  simp only [List.length_append, List.length_cons, List.length_nil]
  omega
end Go.Proofs.YthaoohckgilahaaDoor

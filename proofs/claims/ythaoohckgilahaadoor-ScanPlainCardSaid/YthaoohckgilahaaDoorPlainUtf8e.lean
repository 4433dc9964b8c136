/-
  UTF-8: one round of the document's decoder, in all its ways.
-/
import Derived.Test.YthaoohckgilahaaDoorPlainUtf8d
namespace Go.Proofs.YthaoohckgilahaaDoor.M
open Go

def val8 (c : UInt8) (p : Bs) : Int := if c.toNat < 128 then (c.toNat : Int) else (acc8 c p : Nat)
theorem lead8_val (c : Nat) (hc : c < 256) (h : 0 ≤ (lead8 c).1) : (c < 128 ∧ lead8 c = (0, (c : Int), 0, 0)) ∨ (128 ≤ c ∧ len8 c ≠ 0 ∧ (lead8 c).2.1 = ((c % (256 / 2 ^ (len8 c + 1)) : Nat) : Int)) := by
  by_cases h0 : c < 128
  · exact .inl ⟨h0, by rw [lead8, if_pos h0]⟩
  · refine .inr ⟨by omega, ?_⟩
    have hn : ¬ (c < 194 ∨ 244 < c) := by
      intro hh
      rw [lead8, if_neg h0, if_pos hh] at h
      exact absurd h (by decide)
    have h3 : len8 c ≠ 0 := by
      unfold len8
      (repeat' split) <;> omega
    refine ⟨h3, ?_⟩
    obtain ⟨v, lo, hi, hl, hcl⟩ := lead8_class c h3
    unfold lead8
    rcases hcl with ⟨g1, g2, g3, _⟩ | ⟨g1, g3, _⟩ | ⟨g1, g3, _⟩ | ⟨g1, g2, g4, g3, _⟩ | ⟨g1, g3, _⟩ | ⟨g1, g3, _⟩ | ⟨g1, g2, g3, _⟩
    all_goals
      rw [g3]
      (repeat' split) <;> first | (exfalso; omega) | (simp; done) | (simp; omega)
theorem fold8_int : ∀ (p : Bs) (n : Nat), p.foldl (fun n b => n * 64 + (b.toNat : Int) % 64) (n : Int) = ((p.foldl (fun n b => 64 * n + b.toNat % 64) n : Nat) : Int)
  | [], n => rfl
  | b :: t, n => by
    rw [List.foldl_cons, List.foldl_cons, ← fold8_int t]
    congr 1
    omega
theorem go8_whole : ∀ (m : Nat) (l : Bs) (i n lo hi : Int), (go8 m l i n lo hi).2.2 = true → (go8 m l i n lo hi).2.1 = i + m → m ≤ l.length ∧ (go8 m l i n lo hi).1 = (l.take m).foldl (fun n b => n * 64 + (b.toNat : Int) % 64) n
  | 0, l, i, n, lo, hi, _, _ => by simp [go8]
  | m + 1, [], i, n, lo, hi, h, _ => by simp [go8] at h
  | m + 1, b :: t, i, n, lo, hi, h, h2 => by
    rw [go8] at h h2 ⊢
    split at h
    · rename_i hb
      rw [if_pos hb] at h2
      simp only at h2
      omega
    · rename_i hb
      rw [if_neg hb] at h2 ⊢
      obtain ⟨h3, h4⟩ := go8_whole m t (i + 1) _ 128 191 h (by rw [h2]; omega)
      exact ⟨by simp only [List.length_cons]; omega, by rw [h4, List.take_succ_cons, List.foldl_cons]⟩
/-- What a sequence that ends early tells. -/
theorem go8_early : ∀ (m : Nat) (l : Bs) (i n lo hi : Int), (∃ r, go8 m l i n lo hi = (r, i + m, true)) ∨ (∃ K : Nat, K < m ∧ K < l.length ∧ go8 m l i n lo hi = (65533, i + K, true)) ∨ (l.length < m ∧ go8 m l i n lo hi = (65533, i + l.length, false))
  | 0, l, i, n, lo, hi => .inl ⟨n, by simp [go8]⟩
  | m + 1, [], i, n, lo, hi => .inr (.inr ⟨by simp, by simp [go8]⟩)
  | m + 1, b :: t, i, n, lo, hi => by
    by_cases hb : (b.toNat : Int) < lo ∨ hi < (b.toNat : Int)
    · exact .inr (.inl ⟨0, by omega, by simp, by rw [go8, if_pos hb]; simp⟩)
    · rw [go8, if_neg hb]
      rcases go8_early m t (i + 1) (n * 64 + (b.toNat : Int) % 64) 128 191 with ⟨r, h⟩ | ⟨K, h1, h2, h⟩ | ⟨h1, h⟩
      · exact .inl ⟨r, by rw [h]; simp only [Prod.mk.injEq, and_true, true_and]; omega⟩
      · exact .inr (.inl ⟨K + 1, by omega, by simpa using h2, by rw [h]; simp only [Prod.mk.injEq, and_true, true_and]; omega⟩)
      · exact .inr (.inr ⟨by simpa using h1, by rw [h]; simp only [Prod.mk.injEq, and_true, true_and, List.length_cons]; omega⟩)
theorem round8 (c : UInt8) (t : Bs) :
    ((lead8 c.toNat).1 = -1 ∧ ok8 c [] = false ∧ first8 (c :: t) = (65533, 1, true)) ∨
    (∃ m K : Nat, (lead8 c.toNat).1 = m ∧ 1 ≤ K ∧ K ≤ m + 1 ∧ K ≤ t.length + 1 ∧ m ≤ 3 ∧ (∀ j, j < K → ok8 c (t.take j) = true) ∧
      ((K = m + 1 ∧ first8 (c :: t) = (val8 c (t.take m), ((m + 1 : Nat) : Int), true)) ∨
       (K ≤ m ∧ K < t.length + 1 ∧ ok8 c (t.take K) = false ∧ first8 (c :: t) = (65533, (K : Int), true)) ∨
       (K ≤ m ∧ K = t.length + 1 ∧ first8 (c :: t) = (65533, (K : Int), false)))) := by
  rcases lead8_bounds c.toNat with h | ⟨h0, h3, _⟩
  · exact .inl ⟨h, by simp [ok8, h], by rw [first8, if_pos (by rw [h]; decide)]⟩
  · obtain ⟨m, hm⟩ := Int.eq_ofNat_of_zero_le h0
    have hgo := first8_go c t h0
    have hlen := (first8_bounds c t).2
    have key : ∀ K : Nat, (first8 (c :: t)).2.1 = K → K ≤ m + 1 → ∀ j, j < K → ok8 c (t.take j) = true := fun K hK hle j hj =>
      inner_ok c t K j h0 hK (by omega) (by rw [hm]; omega)
    have hmt : (lead8 c.toNat).1.toNat = m := by rw [hm]; simp
    rw [hmt] at hgo
    rcases go8_early m t 1 (lead8 c.toNat).2.1 (lead8 c.toNat).2.2.1 (lead8 c.toNat).2.2.2 with ⟨r, hr⟩ | ⟨K, h1, h2, hr⟩ | ⟨h1, hr⟩
    · have hf : first8 (c :: t) = (r, ((m + 1 : Nat) : Int), true) := by rw [hgo, hr]; simp only [Prod.mk.injEq, and_true, true_and]; omega
      obtain ⟨hw1, hw2⟩ := go8_whole m t 1 _ _ _ (by rw [hr]) (by rw [hr])
      rw [hr] at hw2
      simp only at hw2
      refine .inr ⟨m, m + 1, hm, by omega, by omega, by omega, by omega, key _ (by rw [hf]) (by omega), .inl ⟨rfl, ?_⟩⟩
      rw [hf, hw2]
      congr 1
      rcases lead8_val c.toNat c.toNat_lt h0 with ⟨g1, g2⟩ | ⟨g1, g2, g3⟩
      · have hm0 : m = 0 := by rw [g2] at hm; simp only at hm; omega
        subst hm0
        rw [val8, if_pos g1, g2]
        rfl
      · rw [val8, if_neg (by omega), g3, fold8_int]
        rfl
    · have hf : first8 (c :: t) = (65533, ((K + 1 : Nat) : Int), true) := by rw [hgo, hr]; simp only [Prod.mk.injEq, and_true, true_and]; omega
      exact .inr ⟨m, K + 1, hm, by omega, by omega, by omega, by omega, key _ (by rw [hf]) (by omega), .inr (.inl ⟨by omega, by omega, inner_no c t (K + 1) h0 (by rw [hf]) (by rw [hm]; omega) (by omega), hf⟩)⟩
    · have hf : first8 (c :: t) = (65533, ((t.length + 1 : Nat) : Int), false) := by rw [hgo, hr]; simp only [Prod.mk.injEq, and_true, true_and]; omega
      exact .inr ⟨m, t.length + 1, hm, by omega, by omega, by omega, by omega, key _ (by rw [hf]) (by omega), .inr (.inr ⟨by omega, rfl, hf⟩)⟩
end Go.Proofs.YthaoohckgilahaaDoor.M

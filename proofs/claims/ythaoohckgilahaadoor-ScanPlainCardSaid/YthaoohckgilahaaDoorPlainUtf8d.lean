/-
  UTF-8: the document's inner loop tells the same as the program's first.
-/
import Derived.Test.YthaoohckgilahaaDoorPlainUtf8c
namespace Go.Proofs.YthaoohckgilahaaDoor.M
open Go

theorem go8_at : ∀ (m : Nat) (p : Bs) (i n lo hi : Int), p.length ≤ m → ((go8 m p i n lo hi).2.1 = i + p.length ↔ (∀ b t, p = b :: t → lo ≤ (b.toNat : Int) ∧ (b.toNat : Int) ≤ hi) ∧ ∀ b ∈ p.tail, 128 ≤ b.toNat ∧ b.toNat ≤ 191)
  | 0, p, i, n, lo, hi, h => by
    have : p = [] := List.eq_nil_of_length_eq_zero (by omega)
    subst this
    simp [go8]
  | m + 1, [], i, n, lo, hi, _ => by simp [go8]
  | m + 1, b :: t, i, n, lo, hi, h => by
    have hlen : t.length ≤ m := by simpa using h
    by_cases hb : (b.toNat : Int) < lo ∨ hi < (b.toNat : Int)
    · rw [go8, if_pos hb]
      constructor
      · intro hh
        simp only [List.length_cons] at hh
        omega
      · rintro ⟨hh, _⟩
        have := hh b t rfl
        omega
    · have ih := go8_at m t (i + 1) (n * 64 + (b.toNat : Int) % 64) 128 191 hlen
      rw [go8, if_neg hb]
      have e : i + ((b :: t).length : Int) = i + 1 + (t.length : Int) := by simp only [List.length_cons]; omega
      rw [e, ih]
      constructor
      · rintro ⟨h1, h2⟩
        refine ⟨fun b' t' hh => ?_, fun b' hb' => ?_⟩
        · injection hh with h3 h4
          subst h3
          omega
        · rw [List.tail_cons] at hb'
          cases t with
          | nil => cases hb'
          | cons x y =>
            rcases List.mem_cons.1 hb' with rfl | hb'
            · have := h1 b' y rfl; omega
            · exact h2 b' hb'
      · rintro ⟨h1, h2⟩
        rw [List.tail_cons] at h2
        exact ⟨fun b' t' hh => by have := h2 b' (by rw [hh]; simp); omega, fun b' hb' => h2 b' (List.mem_of_mem_tail hb')⟩
theorem go8_prefix : ∀ (m : Nat) (l : Bs) (i n lo hi : Int) (K : Nat), (go8 m l i n lo hi).2.1 = i + K → ∀ j, j ≤ K → (go8 m (l.take j) i n lo hi).2.1 = i + j
  | 0, l, i, n, lo, hi, K, h, j, hj => by
    simp only [go8] at h ⊢
    have : j = 0 := by omega
    subst this
    simp
  | m + 1, [], i, n, lo, hi, K, h, j, hj => by
    simp only [go8] at h
    have : j = 0 := by omega
    subst this
    simp [go8]
  | m + 1, b :: t, i, n, lo, hi, K, h, j, hj => by
    cases j with
    | zero => simp [go8]
    | succ j =>
      rw [List.take_succ_cons, go8]
      rw [go8] at h
      split at h
      · simp only at h; omega
      · rename_i hb
        rw [if_neg hb]
        have := go8_prefix m t (i + 1) _ 128 191 (K - 1) (by rw [h]; omega) j (by omega)
        rw [this]
        omega
theorem lead8_lohi (c : Nat) (h : 1 ≤ (lead8 c).1) : 128 ≤ (lead8 c).2.2.1 ∧ (lead8 c).2.2.2 ≤ 191 := by
  revert h
  unfold lead8
  (repeat' split) <;> intro h <;> simp at h ⊢
theorem ok8_first8 (c : UInt8) (p : Bs) (h0 : 0 ≤ (lead8 c.toNat).1) (h : (p.length : Int) ≤ (lead8 c.toNat).1) : ok8 c p = true ↔ (first8 (c :: p)).2.1 = p.length + 1 := by
  rw [first8, if_neg (by omega)]
  have hg := go8_at (lead8 c.toNat).1.toNat p 1 (lead8 c.toNat).2.1 (lead8 c.toNat).2.2.1 (lead8 c.toNat).2.2.2 (by omega)
  rw [Int.add_comm, hg]
  cases p with
  | nil => simp [ok8, h0]
  | cons b t =>
    have hl := lead8_lohi c.toNat (by simp only [List.length_cons] at h; omega)
    simp only [ok8, Bool.and_eq_true, decide_eq_true_eq, List.all_eq_true, List.tail_cons, List.mem_cons, forall_eq_or_imp, cont8]
    constructor
    · rintro ⟨⟨⟨_, _⟩, _, h2⟩, h3⟩
      refine ⟨fun b' t' hh => ?_, h2⟩
      injection hh with h4 h5
      subst h4
      exact h3
    · rintro ⟨h1, h2⟩
      have := h1 b t rfl
      exact ⟨⟨⟨h0, h⟩, by omega, h2⟩, this⟩
theorem go8_mono : ∀ (m : Nat) (l : Bs) (i n lo hi : Int) (j : Nat), j ≤ l.length → (go8 m (l.take j) i n lo hi).2.1 = i + j → i + j ≤ (go8 m l i n lo hi).2.1
  | 0, l, i, n, lo, hi, j, _, h => by simp only [go8] at h ⊢; omega
  | m + 1, [], i, n, lo, hi, j, hj, h => by
    simp at hj
    subst hj
    simp [go8]
  | m + 1, b :: t, i, n, lo, hi, j, hj, h => by
    cases j with
    | zero =>
      have := (go8_bounds (m + 1) (b :: t) i n lo hi).1
      simpa using this
    | succ j =>
      rw [List.take_succ_cons, go8] at h
      rw [go8]
      split at h
      · simp only at h; omega
      · rename_i hb
        rw [if_neg hb]
        have := go8_mono m t (i + 1) (n * 64 + (b.toNat : Int) % 64) 128 191 j (by simpa using hj) (by rw [h]; omega)
        omega
theorem first8_go (c : UInt8) (t : Bs) (h0 : 0 ≤ (lead8 c.toNat).1) : first8 (c :: t) = go8 (lead8 c.toNat).1.toNat t 1 (lead8 c.toNat).2.1 (lead8 c.toNat).2.2.1 (lead8 c.toNat).2.2.2 := by
  rw [first8, if_neg (by omega)]
/-- What stands ahead of the end is a beginning; what goes one further is none. -/
theorem inner_ok (c : UInt8) (t : Bs) (K j : Nat) (h0 : 0 ≤ (lead8 c.toNat).1) (hK : (first8 (c :: t)).2.1 = K) (hj : j + 1 ≤ K) (hl : (j : Int) ≤ (lead8 c.toNat).1) : ok8 c (t.take j) = true := by
  have hb := (first8_bounds c t).2
  rw [hK] at hb
  have hlen : (t.take j).length = j := by rw [List.length_take]; simp only [List.length_cons] at hb; omega
  rw [ok8_first8 c _ h0 (by rw [hlen]; exact hl), hlen, first8_go c _ h0]
  rw [first8_go c t h0] at hK
  rw [go8_prefix _ t 1 _ _ _ (K - 1) (by rw [hK]; omega) j (by omega)]
  omega
theorem inner_no (c : UInt8) (t : Bs) (K : Nat) (h0 : 0 ≤ (lead8 c.toNat).1) (hK : (first8 (c :: t)).2.1 = K) (hl : (K : Int) ≤ (lead8 c.toNat).1) (ht : K ≤ t.length) : ok8 c (t.take K) = false := by
  have hlen : (t.take K).length = K := by rw [List.length_take]; omega
  rw [← Bool.not_eq_true, ok8_first8 c _ h0 (by rw [hlen]; exact hl), hlen, first8_go c _ h0]
  rw [first8_go c t h0] at hK
  intro hh
  have := go8_mono _ t 1 (lead8 c.toNat).2.1 (lead8 c.toNat).2.2.1 (lead8 c.toNat).2.2.2 K ht (by rw [hh]; omega)
  omega
end Go.Proofs.YthaoohckgilahaaDoor.M

/-
  UTF-8: the document's way: is a row of bytes the beginning of some scalar's?
-/
import Derived.Test.YthaoohckgilahaaDoorPlainUtf8b
namespace Go.Proofs.YthaoohckgilahaaDoor.M
open Go

def cont8 (b : UInt8) : Bool := decide (128 ≤ b.toNat ∧ b.toNat ≤ 191)
/-- Is it the beginning of a sequence (whole or not)? -/
def ok8 (c : UInt8) (p : Bs) : Bool :=
  decide (0 ≤ (lead8 c.toNat).1) && decide ((p.length : Int) ≤ (lead8 c.toNat).1) && p.all cont8 && (match p with | [] => true | b :: _ => decide ((lead8 c.toNat).2.2.1 ≤ (b.toNat : Int) ∧ (b.toNat : Int) ≤ (lead8 c.toNat).2.2.2))
/-- How long the document takes a sequence to be; 0: it is none. -/
def len8 (c : Nat) : Nat := if 194 ≤ c ∧ c ≤ 223 then 2 else if 224 ≤ c ∧ c ≤ 239 then 3 else if 240 ≤ c ∧ c ≤ 244 then 4 else 0
def acc8 (c : UInt8) (p : Bs) : Nat := p.foldl (fun n b => 64 * n + b.toNat % 64) (c.toNat % (256 / 2 ^ (len8 c.toNat + 1)))
def least8 (n : Nat) : Nat → Nat
  | 0 => n
  | k + 1 => 64 * least8 n k
def most8 (n : Nat) : Nat → Nat
  | 0 => n
  | k + 1 => 64 * most8 n k + 63
def lowest8 (a : Nat) : Nat := if a = 2 then 128 else if a = 3 then 2048 else if a = 4 then 65536 else 0
def fits8 (c : UInt8) (p : Bs) : Bool :=
  decide (lowest8 (len8 c.toNat) ≤ most8 (acc8 c p) (len8 c.toNat - (p.length + 1))) && decide (least8 (acc8 c p) (len8 c.toNat - (p.length + 1)) ≤ 1114111) && !(decide (55296 ≤ least8 (acc8 c p) (len8 c.toNat - (p.length + 1))) && decide (most8 (acc8 c p) (len8 c.toNat - (p.length + 1)) ≤ 57343))
theorem lead8_class (c : Nat) (h : len8 c ≠ 0) : ∃ v lo hi : Int, lead8 c = ((len8 c : Int) - 1, v, lo, hi) ∧
    ((194 ≤ c ∧ c ≤ 223 ∧ len8 c = 2 ∧ lo = 128 ∧ hi = 191) ∨ (c = 224 ∧ len8 c = 3 ∧ lo = 160 ∧ hi = 191) ∨ (c = 237 ∧ len8 c = 3 ∧ lo = 128 ∧ hi = 159) ∨ (225 ≤ c ∧ c ≤ 239 ∧ c ≠ 237 ∧ len8 c = 3 ∧ lo = 128 ∧ hi = 191) ∨
      (c = 240 ∧ len8 c = 4 ∧ lo = 144 ∧ hi = 191) ∨ (c = 244 ∧ len8 c = 4 ∧ lo = 128 ∧ hi = 143) ∨ (241 ≤ c ∧ c ≤ 243 ∧ len8 c = 4 ∧ lo = 128 ∧ hi = 191)) := by
  have hlen : (194 ≤ c ∧ c ≤ 223 ∧ len8 c = 2) ∨ (224 ≤ c ∧ c ≤ 239 ∧ len8 c = 3) ∨ (240 ≤ c ∧ c ≤ 244 ∧ len8 c = 4) := by
    unfold len8 at h ⊢
    by_cases g1 : 194 ≤ c ∧ c ≤ 223
    · rw [if_pos g1]; omega
    · rw [if_neg g1] at h ⊢
      by_cases g2 : 224 ≤ c ∧ c ≤ 239
      · rw [if_pos g2]; omega
      · rw [if_neg g2] at h ⊢
        by_cases g3 : 240 ≤ c ∧ c ≤ 244
        · rw [if_pos g3]; omega
        · rw [if_neg g3] at h; exact absurd rfl h
  rcases hlen with ⟨h1, h2, h3⟩ | ⟨h1, h2, h3⟩ | ⟨h1, h2, h3⟩
  · exact ⟨_, _, _, by rw [h3, lead8, if_neg (by omega), if_neg (by omega), if_pos (by omega)]; rfl, .inl ⟨h1, h2, h3, rfl, rfl⟩⟩
  · by_cases e1 : c = 224
    · exact ⟨_, _, _, by rw [h3, lead8, if_neg (by omega), if_neg (by omega), if_neg (by omega), if_pos e1]; rfl, .inr (.inl ⟨e1, h3, rfl, rfl⟩)⟩
    · by_cases e2 : c = 237
      · exact ⟨_, _, _, by rw [h3, lead8, if_neg (by omega), if_neg (by omega), if_neg (by omega), if_neg e1, if_pos e2]; rfl, .inr (.inr (.inl ⟨e2, h3, rfl, rfl⟩))⟩
      · exact ⟨_, _, _, by rw [h3, lead8, if_neg (by omega), if_neg (by omega), if_neg (by omega), if_neg e1, if_neg e2, if_pos (by omega)]; rfl, .inr (.inr (.inr (.inl ⟨by omega, h2, e2, h3, rfl, rfl⟩)))⟩
  · by_cases e1 : c = 240
    · exact ⟨_, _, _, by rw [h3, lead8, if_neg (by omega), if_neg (by omega), if_neg (by omega), if_neg (by omega), if_neg (by omega), if_neg (by omega), if_pos e1]; rfl, .inr (.inr (.inr (.inr (.inl ⟨e1, h3, rfl, rfl⟩))))⟩
    · by_cases e2 : c = 244
      · exact ⟨_, _, _, by rw [h3, lead8, if_neg (by omega), if_neg (by omega), if_neg (by omega), if_neg (by omega), if_neg (by omega), if_neg (by omega), if_neg e1, if_pos e2]; rfl, .inr (.inr (.inr (.inr (.inr (.inl ⟨e2, h3, rfl, rfl⟩)))))⟩
      · exact ⟨_, _, _, by rw [h3, lead8, if_neg (by omega), if_neg (by omega), if_neg (by omega), if_neg (by omega), if_neg (by omega), if_neg (by omega), if_neg e1, if_neg e2]; rfl, .inr (.inr (.inr (.inr (.inr (.inr ⟨by omega, by omega, h3, rfl, rfl⟩)))))⟩
set_option maxHeartbeats 4000000 in
theorem fits8_ok (c : UInt8) (p : Bs) (h1 : p ≠ []) (h2 : p.length + 1 ≤ len8 c.toNat) (h3 : p.all cont8 = true) : fits8 c p = ok8 c p := by
  obtain ⟨v, lo, hi, hl, hcl⟩ := lead8_class c.toNat (by omega)
  have hsum : ok8 c p = true ↔ ∀ b t, p = b :: t → lo ≤ (b.toNat : Int) ∧ (b.toNat : Int) ≤ hi := by
    cases p with
    | nil => exact absurd rfl h1
    | cons b t =>
      have q1 : decide (0 ≤ (lead8 c.toNat).1) = true := by rw [hl, decide_eq_true_eq]; show (0 : Int) ≤ (len8 c.toNat : Int) - 1; omega
      have q2 : decide (((b :: t).length : Int) ≤ (lead8 c.toNat).1) = true := by rw [hl, decide_eq_true_eq]; show ((b :: t).length : Int) ≤ (len8 c.toNat : Int) - 1; omega
      rw [ok8, q1, q2, h3, hl]
      simp only [Bool.true_and]
      rw [decide_eq_true_eq]
      constructor
      · rintro h b' t' hh
        injection hh with hb ht
        subst hb
        exact h
      · intro h
        exact h b t rfl
  rw [Bool.eq_iff_iff, hsum]
  have hall : ∀ b ∈ p, 128 ≤ b.toNat ∧ b.toNat ≤ 191 := fun b hb => by
    have := List.all_eq_true.1 h3 b hb
    simpa [cont8] using this
  simp only [fits8, Bool.and_eq_true, decide_eq_true_eq, Bool.not_eq_true', Bool.and_eq_false_iff, decide_eq_false_iff_not]
  rcases hcl with ⟨g1, g2, g3, rfl, rfl⟩ | ⟨g1, g3, rfl, rfl⟩ | ⟨g1, g3, rfl, rfl⟩ | ⟨g1, g2, g4, g3, rfl, rfl⟩ | ⟨g1, g3, rfl, rfl⟩ | ⟨g1, g3, rfl, rfl⟩ | ⟨g1, g2, g3, rfl, rfl⟩
  all_goals
    rw [g3] at h2
    match p, h1, h2, hall with
    | [], h1, _, _ => exact absurd rfl h1
    | b :: d :: e :: f :: t, _, h2, _ => simp only [List.length_cons] at h2; omega
    | [b], _, h2, hall =>
      have hb := hall b (by simp)
      simp only [List.length_cons, List.length_nil] at h2
      simp [g3, acc8, lowest8, most8, least8] at h2 ⊢
      omega
    | [b, d], _, h2, hall =>
      have hb := hall b (by simp)
      have hd := hall d (by simp)
      simp only [List.length_cons, List.length_nil] at h2
      simp [g3, acc8, lowest8, most8, least8] at h2 ⊢
      try omega
    | [b, d, e], _, h2, hall =>
      have hb := hall b (by simp)
      have hd := hall d (by simp)
      have he := hall e (by simp)
      simp only [List.length_cons, List.length_nil] at h2
      simp [g3, acc8, lowest8, most8, least8] at h2 ⊢
      try omega
theorem len8_le (c : Nat) : len8 c ≤ 4 := by unfold len8; (repeat' split) <;> omega
theorem ok8_low (c : UInt8) (p : Bs) (h : c.toNat < 128) : ok8 c p = decide (p.length = 0) := by
  have hl : lead8 c.toNat = (0, (c.toNat : Int), 0, 0) := by rw [lead8, if_pos h]
  cases p with
  | nil => simp [ok8, hl]
  | cons b t => simp [ok8, hl]; omega
theorem ok8_none (c : UInt8) (p : Bs) (h : 128 ≤ c.toNat) (h2 : len8 c.toNat = 0) : ok8 c p = false := by
  have hl : (lead8 c.toNat).1 = -1 := by
    unfold len8 at h2
    rw [lead8, if_neg (by omega), if_pos]
    have := c.toNat_lt
    (repeat' split at h2) <;> omega
  simp [ok8, hl]
theorem ok8_long (c : UInt8) (p : Bs) (h : len8 c.toNat ≠ 0) (h2 : len8 c.toNat < p.length + 1) : ok8 c p = false := by
  obtain ⟨v, lo, hi, hl, _⟩ := lead8_class c.toNat h
  have : decide ((p.length : Int) ≤ (lead8 c.toNat).1) = false := by rw [hl, decide_eq_false_iff_not]; show ¬ ((p.length : Int) ≤ (len8 c.toNat : Int) - 1); omega
  unfold ok8
  rw [this]
  simp
theorem ok8_cont (c : UInt8) (p : Bs) (h : p.all cont8 = false) : ok8 c p = false := by
  unfold ok8
  rw [h]
  simp
theorem ok8_one (c : UInt8) (h : len8 c.toNat ≠ 0) : ok8 c [] = true := by
  obtain ⟨v, lo, hi, hl, _⟩ := lead8_class c.toNat h
  simp [ok8, hl]
  omega
theorem lead8_len (c : Nat) (h : len8 c ≠ 0) : (lead8 c).1 = (len8 c : Int) - 1 := by
  obtain ⟨v, lo, hi, hl, _⟩ := lead8_class c h
  rw [hl]
theorem fold8_lt : ∀ (p : Bs) (n B : Nat), n < B → p.foldl (fun n b => 64 * n + b.toNat % 64) n < B * 64 ^ p.length
  | [], n, B, h => by simpa using h
  | b :: t, n, B, h => by
    have := fold8_lt t (64 * n + b.toNat % 64) (64 * B) (by omega)
    rw [List.foldl_cons, List.length_cons, Nat.pow_succ]
    have e : B * (64 ^ t.length * 64) = 64 * B * 64 ^ t.length := by rw [Nat.mul_comm (64 ^ t.length) 64, ← Nat.mul_assoc, Nat.mul_comm B 64]
    omega
theorem acc8_lt (c : UInt8) (p : Bs) (h : p.length ≤ 3) : acc8 c p < 67108864 := by
  have h1 := fold8_lt p (c.toNat % (256 / 2 ^ (len8 c.toNat + 1))) 256 (by
    have := c.toNat_lt
    exact Nat.lt_of_le_of_lt (Nat.mod_le _ _) this)
  have h2 : 64 ^ p.length ≤ 64 ^ 3 := Nat.pow_le_pow_right (by decide) h
  unfold acc8
  omega
theorem acc8_snoc (c : UInt8) (p : Bs) (k : Nat) (b : UInt8) (h : p[k]? = some b) : acc8 c (p.take (k + 1)) = 64 * acc8 c (p.take k) + b.toNat % 64 := by
  rw [List.take_add_one, h]
  simp [acc8, List.foldl_append]
theorem most8_lt (n : Nat) : ∀ k, least8 n k ≤ most8 n k ∧ most8 n k + 1 = (n + 1) * 64 ^ k
  | 0 => by simp [most8, least8]
  | k + 1 => by
    obtain ⟨h1, h2⟩ := most8_lt n k
    have e : (n + 1) * 64 ^ (k + 1) = 64 * ((n + 1) * 64 ^ k) := by rw [Nat.pow_succ, Nat.mul_comm (64 ^ k) 64, ← Nat.mul_assoc, ← Nat.mul_assoc, Nat.mul_comm (n + 1) 64]
    simp only [most8, least8]
    omega
theorem most8_le (n k : Nat) (h : n < 67108864) (hk : k ≤ 3) : least8 n k ≤ most8 n k ∧ most8 n k < 17592186044416 := by
  obtain ⟨h1, h2⟩ := most8_lt n k
  have h3 : (n + 1) * 64 ^ k ≤ 67108864 * 64 ^ 3 := Nat.mul_le_mul h (Nat.pow_le_pow_right (by decide) hk)
  omega
end Go.Proofs.YthaoohckgilahaaDoor.M

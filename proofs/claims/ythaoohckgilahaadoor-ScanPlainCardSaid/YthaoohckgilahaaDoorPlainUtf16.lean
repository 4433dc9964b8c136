/-
  UTF-16, in plain functions and laws.
-/
import Derived.Test.YthaoohckgilahaaDoorPlainUtf8
namespace Go.Proofs.YthaoohckgilahaaDoor.M
open Go

def unit16 (big : Bool) (a b : UInt8) : Int := if big then 256 * (a.toNat : Int) + (b.toNat : Int) else (a.toNat : Int) + 256 * (b.toNat : Int)
def isHi (n : Int) : Bool := decide (55296 ≤ n ∧ n ≤ 56319)
def isLo (n : Int) : Bool := decide (56320 ≤ n ∧ n ≤ 57343)
def pair16 (n m : Int) : Int := 65536 + 1024 * (n - 55296) + (m - 56320)
def told16 (big : Bool) : Bs → List Int × Bs
  | [] => ([], [])
  | [a] => ([], [a])
  | [a, b] => if isHi (unit16 big a b) = true then ([], [a, b]) else ([if isLo (unit16 big a b) = true then 65533 else unit16 big a b], [])
  | [a, b, c] => if isHi (unit16 big a b) = true then ([], [a, b, c]) else ([if isLo (unit16 big a b) = true then 65533 else unit16 big a b], [c])
  | a :: b :: c :: d :: u =>
    if isHi (unit16 big a b) = true then
      (if isLo (unit16 big c d) = true then (pair16 (unit16 big a b) (unit16 big c d) :: (told16 big u).1, (told16 big u).2) else (65533 :: (told16 big (c :: d :: u)).1, (told16 big (c :: d :: u)).2))
    else ((if isLo (unit16 big a b) = true then 65533 else unit16 big a b) :: (told16 big (c :: d :: u)).1, (told16 big (c :: d :: u)).2)
def all16 (big : Bool) (s : Bs) : List Int := if (told16 big s).2 = [] then (told16 big s).1 else (told16 big s).1 ++ [65533]
def dec16 (big : Bool) (s : Bs) : List Int × Int := if 3000 < s.length then ([], 2) else (all16 big s, 0)
def put16 (big : Bool) (n : Nat) : Bs := if big then [UInt8.ofNat (n / 256), UInt8.ofNat (n % 256)] else [UInt8.ofNat (n % 256), UInt8.ofNat (n / 256)]
def row16 (big : Bool) (n : Int) : Bs := if n < 65536 then put16 big n.toNat else put16 big (55296 + (n.toNat - 65536) / 1024) ++ put16 big (56320 + (n.toNat - 65536) % 1024)
def bytes16 (big : Bool) (l : List Int) : Bs := l.flatMap (row16 big)
def enc16 (big : Bool) (l : List Int) : Bs × Int := if points l = 0 then (bytes16 big l, 0) else ([], points l)

theorem unit16_le (big : Bool) (a b : UInt8) : 0 ≤ unit16 big a b ∧ unit16 big a b ≤ 65535 := by
  have := a.toNat_lt; have := b.toNat_lt
  unfold unit16; split <;> omega
/-- What one unit that begins none of two tells. -/
def one16 (n : Int) : Int := if isLo n = true then 65533 else n
theorem told16_nil (big : Bool) : told16 big [] = ([], []) := by rw [told16]
theorem told16_one (big : Bool) (a : UInt8) : told16 big [a] = ([], [a]) := by rw [told16]
theorem told16_plain (big : Bool) (a b : UInt8) (t : Bs) (h : isHi (unit16 big a b) = false) : told16 big (a :: b :: t) = (one16 (unit16 big a b) :: (told16 big t).1, (told16 big t).2) := by
  match t with
  | [] => rw [told16_nil, told16, if_neg (by rw [h]; decide)]; rfl
  | [c] => rw [told16_one, told16, if_neg (by rw [h]; decide)]; rfl
  | c :: d :: u => rw [told16, if_neg (by rw [h]; decide)]; rfl
theorem told16_wait (big : Bool) (a b : UInt8) (t : Bs) (h : isHi (unit16 big a b) = true) (ht : t.length < 2) : told16 big (a :: b :: t) = ([], a :: b :: t) := by
  match t, ht with
  | [], _ => rw [told16, if_pos h]
  | [c], _ => rw [told16, if_pos h]
  | c :: d :: u, ht => simp only [List.length_cons] at ht; omega
theorem told16_two (big : Bool) (a b c d : UInt8) (u : Bs) (h : isHi (unit16 big a b) = true) (h2 : isLo (unit16 big c d) = true) : told16 big (a :: b :: c :: d :: u) = (pair16 (unit16 big a b) (unit16 big c d) :: (told16 big u).1, (told16 big u).2) := by
  rw [told16, if_pos h, if_pos h2]
theorem told16_lone (big : Bool) (a b c d : UInt8) (u : Bs) (h : isHi (unit16 big a b) = true) (h2 : isLo (unit16 big c d) = false) : told16 big (a :: b :: c :: d :: u) = (65533 :: (told16 big (c :: d :: u)).1, (told16 big (c :: d :: u)).2) := by
  rw [told16, if_pos h, if_neg (by rw [h2]; decide)]
theorem all16_cons (big : Bool) (s : Bs) (n : Int) (u : Bs) (h : told16 big s = (n :: (told16 big u).1, (told16 big u).2)) : all16 big s = n :: all16 big u := by
  rw [all16, h, all16]; split <;> rfl
theorem all16_nil (big : Bool) : all16 big [] = [] := by rw [all16, told16_nil]; rfl
theorem all16_wait (big : Bool) (s : Bs) (hs : s ≠ []) (h : told16 big s = ([], s)) : all16 big s = [65533] := by
  rw [all16, h, if_neg hs]; rfl
/-- The ways of a text of two bytes or more. -/
theorem say16 (big : Bool) (a b : UInt8) (t : Bs) :
    (isHi (unit16 big a b) = false ∧ told16 big (a :: b :: t) = (one16 (unit16 big a b) :: (told16 big t).1, (told16 big t).2)) ∨
    (isHi (unit16 big a b) = true ∧ t.length < 2 ∧ told16 big (a :: b :: t) = ([], a :: b :: t)) ∨
    (∃ c d u, t = c :: d :: u ∧ isHi (unit16 big a b) = true ∧ isLo (unit16 big c d) = true ∧ told16 big (a :: b :: t) = (pair16 (unit16 big a b) (unit16 big c d) :: (told16 big u).1, (told16 big u).2)) ∨
    (∃ c d u, t = c :: d :: u ∧ isHi (unit16 big a b) = true ∧ isLo (unit16 big c d) = false ∧ told16 big (a :: b :: t) = (65533 :: (told16 big t).1, (told16 big t).2)) := by
  cases h : isHi (unit16 big a b) with
  | false => exact .inl ⟨rfl, told16_plain big a b t h⟩
  | true =>
    match t with
    | [] => exact .inr (.inl ⟨rfl, by simp, told16_wait big a b [] h (by simp)⟩)
    | [c] => exact .inr (.inl ⟨rfl, by simp, told16_wait big a b [c] h (by simp)⟩)
    | c :: d :: u =>
      cases h2 : isLo (unit16 big c d) with
      | false => exact .inr (.inr (.inr ⟨c, d, u, rfl, rfl, h2, told16_lone big a b c d u h h2⟩))
      | true => exact .inr (.inr (.inl ⟨c, d, u, rfl, rfl, h2, told16_two big a b c d u h h2⟩))
theorem told16_len (big : Bool) : ∀ (k : Nat) (s : Bs), s.length ≤ k → 2 * (told16 big s).1.length + (told16 big s).2.length ≤ s.length ∧ (told16 big s).2.length ≤ 3
  | _, [], _ => by simp [told16_nil]
  | _, [a], _ => by simp [told16_one]
  | 0, _ :: _ :: _, h => by simp at h
  | k + 1, a :: b :: t, h => by
    simp only [List.length_cons] at h
    rcases say16 big a b t with ⟨_, e⟩ | ⟨_, h2, e⟩ | ⟨c, d, u, rfl, _, _, e⟩ | ⟨c, d, u, rfl, _, _, e⟩
    · obtain ⟨h1, h2⟩ := told16_len big k t (by omega)
      rw [e]; simp only [List.length_cons]; omega
    · rw [e]; simp only [List.length_cons, List.length_nil]; omega
    · simp only [List.length_cons] at h
      obtain ⟨h1, h2⟩ := told16_len big k u (by omega)
      rw [e]; simp only [List.length_cons]; omega
    · obtain ⟨h1, h2⟩ := told16_len big k (c :: d :: u) (by omega)
      rw [e]; simp only [List.length_cons] at h1 ⊢; omega
theorem all16_len (big : Bool) (s : Bs) : (all16 big s).length ≤ s.length := by
  obtain ⟨h1, _⟩ := told16_len big _ s (Nat.le_refl _)
  unfold all16
  split
  · omega
  · rename_i hr
    have : (told16 big s).2.length ≠ 0 := fun h => hr (List.eq_nil_of_length_eq_zero h)
    rw [List.length_append, List.length_singleton]; omega
theorem one16_scalar (n : Int) (h0 : 0 ≤ n) (h1 : n ≤ 65535) (h : isHi n = false) : scalar (one16 n) = true := by
  unfold one16
  split
  · decide
  · rename_i h2
    simp only [isHi, isLo, decide_eq_true_eq, decide_eq_false_iff_not] at h h2
    simp only [scalar, decide_eq_true_eq]; omega
theorem all16_scalar (big : Bool) : ∀ (k : Nat) (s : Bs), s.length ≤ k → ∀ n ∈ all16 big s, scalar n = true
  | _, [], _ => by simp [all16_nil]
  | _, [a], _ => by rw [all16_wait big [a] (by simp) (told16_one big a)]; simp [scalar]
  | 0, _ :: _ :: _, h => by simp at h
  | k + 1, a :: b :: t, h => by
    simp only [List.length_cons] at h
    obtain ⟨u0, u1⟩ := unit16_le big a b
    rcases say16 big a b t with ⟨h0, e⟩ | ⟨_, h2, e⟩ | ⟨c, d, u, rfl, h1, h2, e⟩ | ⟨c, d, u, rfl, _, _, e⟩
    · rw [all16_cons big _ _ _ e]
      simp only [List.mem_cons, forall_eq_or_imp]
      exact ⟨one16_scalar _ u0 u1 h0, all16_scalar big k t (by omega)⟩
    · rw [all16_wait big _ (by simp) e]; simp [scalar]
    · simp only [List.length_cons] at h
      rw [all16_cons big _ _ _ e]
      simp only [List.mem_cons, forall_eq_or_imp]
      refine ⟨?_, all16_scalar big k u (by omega)⟩
      simp only [isHi, isLo, decide_eq_true_eq] at h1 h2
      rw [scalar, decide_eq_true_eq, pair16]; omega
    · rw [all16_cons big _ _ _ e]
      simp only [List.mem_cons, forall_eq_or_imp]
      exact ⟨by decide, all16_scalar big k (c :: d :: u) (by omega)⟩
/-! ## What is encoded is decoded as it was -/
theorem u8n (k : Nat) (h : k < 256) : (UInt8.ofNat k).toNat = k := UInt8.toNat_ofNat_of_lt' h
theorem put16_unit (big : Bool) (n : Nat) (h : n < 65536) : ∃ a b, put16 big n = [a, b] ∧ unit16 big a b = (n : Int) := by
  unfold put16
  cases big
  · refine ⟨_, _, rfl, ?_⟩
    simp only [unit16, Bool.false_eq_true, if_false, u8n (n % 256) (by omega), u8n (n / 256) (by omega)]; omega
  · refine ⟨_, _, rfl, ?_⟩
    simp only [unit16, if_true, u8n (n % 256) (by omega), u8n (n / 256) (by omega)]; omega
theorem told16_row (big : Bool) (n : Int) (h : scalar n = true) (u : Bs) : told16 big (row16 big n ++ u) = (n :: (told16 big u).1, (told16 big u).2) := by
  simp only [scalar, decide_eq_true_eq] at h
  obtain ⟨m, rfl⟩ := Int.eq_ofNat_of_zero_le h.1
  by_cases h1 : m < 65536
  · rw [row16, if_pos (by omega), Int.toNat_natCast]
    obtain ⟨a, b, e1, e2⟩ := put16_unit big m h1
    rw [e1]
    have h3 : isHi (unit16 big a b) = false := by rw [e2]; simp only [isHi, decide_eq_false_iff_not]; omega
    have h4 : isLo (unit16 big a b) = false := by rw [e2]; simp only [isLo, decide_eq_false_iff_not]; omega
    rw [List.cons_append, List.cons_append, List.nil_append, told16_plain big a b u h3, one16, if_neg (by rw [h4]; decide), e2]
  · rw [row16, if_neg (by omega), Int.toNat_natCast]
    obtain ⟨a, b, e1, e2⟩ := put16_unit big (55296 + (m - 65536) / 1024) (by omega)
    obtain ⟨c, d, e3, e4⟩ := put16_unit big (56320 + (m - 65536) % 1024) (by omega)
    rw [e1, e3]
    have h3 : isHi (unit16 big a b) = true := by rw [e2]; simp only [isHi, decide_eq_true_eq]; omega
    have h4 : isLo (unit16 big c d) = true := by rw [e4]; simp only [isLo, decide_eq_true_eq]; omega
    have h5 : pair16 (unit16 big a b) (unit16 big c d) = (m : Int) := by rw [e2, e4, pair16]; omega
    rw [show ([a, b] ++ [c, d] ++ u) = a :: b :: c :: d :: u from rfl, told16_two big a b c d u h3 h4, h5]
theorem all16_bytes (big : Bool) : ∀ l : List Int, (∀ n ∈ l, scalar n = true) → all16 big (bytes16 big l) = l
  | [], _ => all16_nil big
  | n :: l, h => by
    have : bytes16 big (n :: l) = row16 big n ++ bytes16 big l := rfl
    rw [this, all16_cons big _ _ _ (told16_row big n (h n (by simp)) _), all16_bytes big l (fun m hm => h m (by simp [hm]))]
theorem row16_len (big : Bool) (n : Int) : (row16 big n).length ≤ 4 := by
  unfold row16 put16; cases big <;> split <;> simp
/-! ## Turned two by two -/
def turn16 : Bs → Bs
  | a :: b :: t => b :: a :: turn16 t
  | l => l
theorem unit16_turn (a b : UInt8) : unit16 false b a = unit16 true a b := by simp only [unit16, if_true, Bool.false_eq_true, if_false]; omega
theorem turn16_len : ∀ s : Bs, (turn16 s).length = s.length
  | [] => rfl
  | [_] => rfl
  | a :: b :: t => by rw [turn16]; simp [turn16_len t]
theorem all16_turn : ∀ (k : Nat) (s : Bs), s.length ≤ k → s.length % 2 = 0 → all16 false (turn16 s) = all16 true s
  | _, [], _, _ => by rw [turn16, all16_nil, all16_nil]; simp
  | _, [a], _, h => by simp at h
  | 0, _ :: _ :: _, h, _ => by simp at h
  | k + 1, a :: b :: t, h, h2 => by
    simp only [List.length_cons] at h h2
    have hu := unit16_turn a b
    rw [turn16]
    rcases say16 true a b t with ⟨h0, e⟩ | ⟨h0, h3, e⟩ | ⟨c, d, u, rfl, h1, h3, e⟩ | ⟨c, d, u, rfl, h1, h3, e⟩
    · rw [all16_cons true _ _ _ e, all16_cons false _ _ _ (told16_plain false b a _ (by rw [hu]; exact h0)), hu, all16_turn k t (by omega) (by omega)]
    · rw [all16_wait true _ (by simp) e, all16_wait false _ (by simp) (told16_wait false b a _ (by rw [hu]; exact h0) (by rw [turn16_len]; exact h3))]
    · simp only [List.length_cons] at h h2
      have hv := unit16_turn c d
      rw [all16_cons true _ _ _ e, turn16, all16_cons false _ _ _ (told16_two false b a d c _ (by rw [hu]; exact h1) (by rw [hv]; exact h3)), hu, hv, all16_turn k u (by omega) (by omega)]
    · have hv := unit16_turn c d
      have ih := all16_turn k (c :: d :: u) (by omega) (by omega)
      rw [turn16] at ih ⊢
      rw [all16_cons true _ _ _ e, all16_cons false _ _ _ (told16_lone false b a d c _ (by rw [hu]; exact h1) (by rw [hv]; exact h3)), ih]
/-! ## Where a text may be cut -/
/-- Is the last unit the first one of two? -/
def lastHi (big : Bool) : Bs → Bool
  | [a, b] => isHi (unit16 big a b)
  | _ :: _ :: t => lastHi big t
  | _ => false
theorem lastHi_cons (big : Bool) (a b : UInt8) (t : Bs) (h : t ≠ []) : lastHi big (a :: b :: t) = lastHi big t := by
  cases t with
  | nil => exact absurd rfl h
  | cons x y => rw [lastHi]; simp
theorem all16_parts (big : Bool) : ∀ (k : Nat) (s t : Bs), s.length ≤ k → s.length % 2 = 0 → (all16 big (s ++ t)).length ≤ (all16 big s).length + (all16 big t).length ∧ (lastHi big s = false → all16 big (s ++ t) = all16 big s ++ all16 big t)
  | _, [], t, _, _ => by simp [all16_nil]
  | _, [a], _, _, h => by simp at h
  | 0, _ :: _ :: _, _, h, _ => by simp at h
  | k + 1, a :: b :: s, t, h, h2 => by
    simp only [List.length_cons] at h h2
    rw [List.cons_append, List.cons_append]
    rcases say16 big a b s with ⟨h0, e⟩ | ⟨h0, h3, e⟩ | ⟨c, d, u, rfl, h1, h3, e⟩ | ⟨c, d, u, rfl, h1, h3, e⟩
    · obtain ⟨i1, i2⟩ := all16_parts big k s t (by omega) (by omega)
      rw [all16_cons big _ _ _ e, all16_cons big _ _ _ (told16_plain big a b (s ++ t) h0)]
      refine ⟨by simp only [List.length_cons]; omega, fun hl => ?_⟩
      rw [i2, List.cons_append]
      cases s with
      | nil => rfl
      | cons x y => rwa [lastHi_cons big a b _ (by simp)] at hl
    · have hs : s = [] := List.eq_nil_of_length_eq_zero (by omega)
      subst hs
      rw [List.nil_append, all16_wait big _ (by simp) e]
      refine ⟨?_, fun hl => ?_⟩
      · rcases say16 big a b t with ⟨g0, _⟩ | ⟨_, _, g⟩ | ⟨c, d, u, rfl, g1, g2, g⟩ | ⟨c, d, u, rfl, _, _, g⟩
        · rw [h0] at g0; cases g0
        · rw [all16_wait big _ (by simp) g]; simp
        · have g3 : isHi (unit16 big c d) = false := by
            simp only [isLo, isHi, decide_eq_true_eq, decide_eq_false_iff_not] at g2 ⊢; omega
          rw [all16_cons big _ _ _ g, all16_cons big (c :: d :: u) _ _ (told16_plain big c d u g3)]
          simp only [List.length_cons, List.length_nil]; omega
        · rw [all16_cons big _ _ _ g]; simp only [List.length_cons, List.length_nil]; omega
      · rw [lastHi, h0] at hl; cases hl
    · simp only [List.length_cons] at h h2
      obtain ⟨i1, i2⟩ := all16_parts big k u t (by omega) (by omega)
      rw [all16_cons big _ _ _ e, List.cons_append, List.cons_append, all16_cons big _ _ _ (told16_two big a b c d (u ++ t) h1 h3)]
      refine ⟨by simp only [List.length_cons]; omega, fun hl => ?_⟩
      rw [i2, List.cons_append]
      rw [lastHi_cons big a b _ (by simp)] at hl
      cases u with
      | nil => rfl
      | cons x y => rwa [lastHi_cons big c d _ (by simp)] at hl
    · obtain ⟨i1, i2⟩ := all16_parts big k (c :: d :: u) t (by omega) (by omega)
      rw [List.cons_append, List.cons_append] at i1 i2
      rw [all16_cons big _ _ _ e, List.cons_append, List.cons_append, all16_cons big _ _ _ (told16_lone big a b c d (u ++ t) h1 h3)]
      refine ⟨by simp only [List.length_cons] at i1 ⊢; omega, fun hl => ?_⟩
      rw [lastHi_cons big a b _ (by simp)] at hl
      rw [i2 hl, List.cons_append]
/-- The greater byte of the last unit says it. -/
theorem lastHi_byte (big : Bool) : ∀ (k : Nat) (s : Bs), s.length ≤ k → s.length % 2 = 0 → s ≠ [] → ∀ c : UInt8, s[s.length - (if big then 2 else 1)]? = some c → lastHi big s = decide (216 ≤ c.toNat ∧ c.toNat ≤ 219)
  | _, [], _, _, h, _, _ => absurd rfl h
  | _, [a], _, h, _, _, _ => by simp at h
  | 0, _ :: _ :: _, h, _, _, _, _ => by simp at h
  | k + 1, a :: b :: t, h, h2, _, c, hc => by
    cases t with
    | nil =>
      have := a.toNat_lt; have := b.toNat_lt
      rw [lastHi, isHi, decide_eq_decide, unit16]
      cases big
      · simp at hc; subst hc; simp; omega
      · simp at hc; subst hc; simp; omega
    | cons x y =>
      cases y with
      | nil => simp at h2
      | cons x' y =>
        rw [lastHi_cons big a b _ (by simp)]
        refine lastHi_byte big k (x :: x' :: y) (by simp only [List.length_cons] at *; omega) (by simp only [List.length_cons] at *; omega) (by simp) c ?_
        rw [← hc]
        cases big
        · simp
        · simp
end Go.Proofs.YthaoohckgilahaaDoor.M

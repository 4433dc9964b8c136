/-
  UTF-8, in plain functions.
-/
import Derived.Test.YthaoohckgilahaaDoorPlain
namespace Go.Proofs.YthaoohckgilahaaDoor.M
open Go

def scalar (n : Int) : Bool := decide (0 ≤ n ∧ n ≤ 1114111 ∧ (n < 55296 ∨ 57343 < n))
def points (l : List Int) : Int := if 3000 < l.length then 2 else if l.all scalar then 0 else 3
def lead8 (c : Nat) : Int × Int × Int × Int :=
  if c < 128 then (0, (c : Int), 0, 0) else if c < 194 ∨ 244 < c then (-1, 0, 0, 0) else if c < 224 then (1, (c : Int) % 32, 128, 191) else if c = 224 then (2, 0, 160, 191)
  else if c = 237 then (2, 13, 128, 159) else if c < 240 then (2, (c : Int) % 16, 128, 191) else if c = 240 then (3, 0, 144, 191) else if c = 244 then (3, 4, 128, 143) else (3, (c : Int) % 8, 128, 191)
/-- So many bytes are still wanted: what they tell. -/
def go8 : Nat → Bs → Int → Int → Int → Int → Int × Int × Bool
  | 0, _, i, n, _, _ => (n, i, true)
  | _ + 1, [], i, _, _, _ => (65533, i, false)
  | m + 1, b :: t, i, n, lo, hi => if (b.toNat : Int) < lo ∨ hi < (b.toNat : Int) then (65533, i, true) else go8 m t (i + 1) (n * 64 + (b.toNat : Int) % 64) 128 191
def first8 : Bs → Int × Int × Bool
  | [] => (65533, 1, true)
  | c :: t => if (lead8 c.toNat).1 < 0 then (65533, 1, true) else go8 (lead8 c.toNat).1.toNat t 1 (lead8 c.toNat).2.1 (lead8 c.toNat).2.2.1 (lead8 c.toNat).2.2.2
/-- Scalars that are told, with so many rounds at most; what is left. -/
def toldF : Nat → Bs → List Int × Bs
  | 0, s => ([], s)
  | _ + 1, [] => ([], [])
  | f + 1, c :: t => if (first8 (c :: t)).2.2 = true then ((first8 (c :: t)).1 :: (toldF f ((c :: t).drop (first8 (c :: t)).2.1.toNat)).1, (toldF f ((c :: t).drop (first8 (c :: t)).2.1.toNat)).2) else ([], c :: t)
def told8 (s : Bs) : List Int × Bs := toldF s.length s
def all8 (s : Bs) : List Int := if (told8 s).2 = [] then (told8 s).1 else (told8 s).1 ++ [65533]
def dec8 (s : Bs) : List Int × Int := if 3000 < s.length then ([], 2) else (all8 s, 0)
def row8 (n : Int) : Bs :=
  if n < 128 then [UInt8.ofNat n.toNat] else if n < 2048 then [UInt8.ofNat (192 + n.toNat / 64), UInt8.ofNat (128 + n.toNat % 64)]
  else if n < 65536 then [UInt8.ofNat (224 + n.toNat / 4096), UInt8.ofNat (128 + n.toNat / 64 % 64), UInt8.ofNat (128 + n.toNat % 64)]
  else [UInt8.ofNat (240 + n.toNat / 262144), UInt8.ofNat (128 + n.toNat / 4096 % 64), UInt8.ofNat (128 + n.toNat / 64 % 64), UInt8.ofNat (128 + n.toNat % 64)]
def bytes8 (l : List Int) : Bs := l.flatMap row8
def enc8 (l : List Int) : Bs × Int := if points l = 0 then (bytes8 l, 0) else ([], points l)
def split8 (s : Bs) : Int × Int := if 3000 < s.length then (0, 2) else (((told8 s).2.length : Int), 0)
theorem lead8_bounds (c : Nat) : (lead8 c).1 = -1 ∨ (0 ≤ (lead8 c).1 ∧ (lead8 c).1 ≤ 3 ∧ 0 ≤ (lead8 c).2.1 ∧ (lead8 c).2.1 ≤ 127 ∧ 0 ≤ (lead8 c).2.2.1 ∧ (lead8 c).2.2.1 ≤ 255 ∧ 0 ≤ (lead8 c).2.2.2 ∧ (lead8 c).2.2.2 ≤ 255) := by
  unfold lead8
  split
  · right; dsimp only; omega
  · split
    · left; rfl
    · right
      split
      · dsimp only; omega
      · split
        · dsimp only; omega
        · split
          · dsimp only; omega
          · split
            · dsimp only; omega
            · split
              · dsimp only; omega
              · split <;> dsimp only <;> omega
theorem go8_bounds : ∀ (m : Nat) (l : Bs) (i n lo hi : Int), i ≤ (go8 m l i n lo hi).2.1 ∧ (go8 m l i n lo hi).2.1 ≤ i + l.length
  | 0, _, i, _, _, _ => by simp only [go8]; omega
  | _ + 1, [], i, _, _, _ => by simp [go8]
  | m + 1, b :: t, i, n, lo, hi => by
    rw [go8]
    split
    · simp only [List.length_cons]; omega
    · have := go8_bounds m t (i + 1) (n * 64 + (b.toNat : Int) % 64) 128 191
      simp only [List.length_cons]; omega
theorem first8_bounds (c : UInt8) (t : Bs) : 1 ≤ (first8 (c :: t)).2.1 ∧ (first8 (c :: t)).2.1 ≤ ((c :: t).length : Int) := by
  rw [first8]
  split
  · simp only [List.length_cons]; omega
  · have := go8_bounds (lead8 c.toNat).1.toNat t 1 (lead8 c.toNat).2.1 (lead8 c.toNat).2.2.1 (lead8 c.toNat).2.2.2
    simp only [List.length_cons]; omega
theorem toldF_enough : ∀ (f : Nat) (s : Bs) (g : Nat), s.length ≤ f → s.length ≤ g → toldF f s = toldF g s
  | 0, s, g, hf, _ => by
    have : s = [] := List.eq_nil_of_length_eq_zero (by omega)
    subst this
    cases g <;> rfl
  | f + 1, [], g, _, _ => by cases g <;> rfl
  | f + 1, c :: t, g, hf, hg => by
    cases g with
    | zero => simp at hg
    | succ g =>
      rw [toldF, toldF]
      obtain ⟨h1, h2⟩ := first8_bounds c t
      have hl : ((c :: t).drop (first8 (c :: t)).2.1.toNat).length ≤ t.length := by
        rw [List.length_drop]
        simp only [List.length_cons] at *
        omega
      simp only [List.length_cons] at hf hg
      rw [toldF_enough f _ g (by omega) (by omega)]
theorem toldF_len : ∀ (f : Nat) (s : Bs), (toldF f s).1.length + (toldF f s).2.length ≤ s.length
  | 0, s => by simp [toldF]
  | f + 1, [] => by simp [toldF]
  | f + 1, c :: t => by
    rw [toldF]
    split
    · obtain ⟨h1, h2⟩ := first8_bounds c t
      have h3 := toldF_len f ((c :: t).drop (first8 (c :: t)).2.1.toNat)
      rw [List.length_drop] at h3
      simp only [List.length_cons] at *
      omega
    · simp
theorem told8_len (s : Bs) : (told8 s).1.length + (told8 s).2.length ≤ s.length := toldF_len _ _
theorem told8_nil : told8 [] = ([], []) := rfl
theorem told8_ok (c : UInt8) (t : Bs) (h : (first8 (c :: t)).2.2 = true) : told8 (c :: t) = ((first8 (c :: t)).1 :: (told8 ((c :: t).drop (first8 (c :: t)).2.1.toNat)).1, (told8 ((c :: t).drop (first8 (c :: t)).2.1.toNat)).2) := by
  obtain ⟨h1, h2⟩ := first8_bounds c t
  have hl : ((c :: t).drop (first8 (c :: t)).2.1.toNat).length ≤ t.length := by
    rw [List.length_drop]
    simp only [List.length_cons] at *
    omega
  have e : told8 ((c :: t).drop (first8 (c :: t)).2.1.toNat) = toldF t.length ((c :: t).drop (first8 (c :: t)).2.1.toNat) := toldF_enough _ _ _ (Nat.le_refl _) hl
  rw [e]
  show toldF (t.length + 1) (c :: t) = _
  rw [toldF, if_pos h]
theorem told8_no (c : UInt8) (t : Bs) (h : (first8 (c :: t)).2.2 = false) : told8 (c :: t) = ([], c :: t) := by
  show toldF (t.length + 1) (c :: t) = _
  rw [toldF, if_neg (by rw [h]; decide)]
end Go.Proofs.YthaoohckgilahaaDoor.M

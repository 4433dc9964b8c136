/-
  Attributes, in plain functions and laws.
-/
import Derived.Test.YthaoohckgilahaaDoorPlainLabel
namespace Go.Proofs.YthaoohckgilahaaDoor.M
open Go

def skipB (c : UInt8) : Bool := white c || decide (c = 47)
def nameB (c : UInt8) : Bool := !white c && decide (c ≠ 47 ∧ c ≠ 62 ∧ c ≠ 61)
def valB (c : UInt8) : Bool := !white c && decide (c ≠ 62)
def labB (c : UInt8) : Bool := !white c && decide (c ≠ 59)
def quotedA (q : UInt8) (t : Bs) : Option Bs × Bs := match t.dropWhile (fun c => c != q) with | [] => (none, []) | _ :: u => (some (t.takeWhile (fun c => c != q)), u)
def valueA (l : Bs) : Option Bs × Bs :=
  match l.dropWhile white with
  | [] => (some [], [])
  | q :: t => if q = 34 ∨ q = 39 then quotedA q t else (some ((q :: t).takeWhile valB), (q :: t).dropWhile valB)
def afterA (name l : Bs) : Option (Bs × Bs) × Bs :=
  match l with
  | [] => (some (fold name, []), [])
  | e :: t => if e = 61 then ((valueA t).1.map (fun v => (fold name, fold v)), (valueA t).2) else (some (fold name, []), e :: t)
def nextA (l : Bs) : Option (Bs × Bs) × Bs :=
  match l.dropWhile skipB with
  | [] => (none, [])
  | c :: t => if c = 62 then (none, c :: t) else afterA (c :: t.takeWhile nameB) ((t.dropWhile nameB).dropWhile white)
def attrsF : Nat → Bs → List (Bs × Bs) × Bs
  | 0, l => ([], l)
  | f + 1, l => match nextA l with
    | (some a, r) => (a :: (attrsF f r).1, (attrsF f r).2)
    | (none, r) => ([], r)
def attrsA (l : Bs) : List (Bs × Bs) × Bs := attrsF (l.length + 1) l
/-- A suffix. -/
def Suf (r l : Bs) : Prop := ∃ k, k ≤ l.length ∧ r = l.drop k
theorem Suf.refl (l : Bs) : Suf l l := ⟨0, by omega, by simp⟩
theorem Suf.trans {a b c : Bs} (h : Suf a b) (g : Suf b c) : Suf a c := by
  obtain ⟨k, hk, rfl⟩ := h
  obtain ⟨m, hm, rfl⟩ := g
  rw [List.length_drop] at hk
  exact ⟨m + k, by omega, by rw [List.drop_drop]⟩
theorem Suf.len {a b : Bs} (h : Suf a b) : a.length ≤ b.length := by
  obtain ⟨k, hk, rfl⟩ := h; rw [List.length_drop]; omega
theorem Suf.at {a b : Bs} (h : Suf a b) : a = b.drop (b.length - a.length) := by
  obtain ⟨k, hk, rfl⟩ := h
  rw [List.length_drop, show b.length - (b.length - k) = k by omega]
theorem Suf.nil (l : Bs) : Suf [] l := ⟨l.length, by omega, by simp⟩
theorem Suf.tail {c : UInt8} {t l : Bs} (h : Suf (c :: t) l) : Suf t l := Suf.trans ⟨1, by simp, rfl⟩ h
theorem Suf.drop (l : Bs) (k : Nat) : Suf (l.drop k) l := by
  by_cases h : k ≤ l.length
  · exact ⟨k, h, rfl⟩
  · rw [List.drop_of_length_le (by omega)]; exact Suf.nil l
theorem suf_dropWhile (p : UInt8 → Bool) (l : Bs) : Suf (l.dropWhile p) l := by
  induction l with
  | nil => exact Suf.refl []
  | cons c t ih =>
    rw [List.dropWhile_cons]
    split
    · exact Suf.trans ih ⟨1, by simp, rfl⟩
    · exact Suf.refl _
theorem quotedA_suf (q : UInt8) (t : Bs) : Suf (quotedA q t).2 t := by
  have h := suf_dropWhile (fun c => c != q) t
  unfold quotedA
  split
  · exact Suf.nil t
  · rename_i x u hu
    rw [hu] at h
    exact h.tail
theorem valueA_suf (l : Bs) : Suf (valueA l).2 l := by
  have h := suf_dropWhile white l
  unfold valueA
  split
  · exact Suf.nil l
  · rename_i q t ht
    rw [ht] at h
    split
    · exact (quotedA_suf q t).trans h.tail
    · exact (suf_dropWhile valB _).trans h
theorem afterA_suf (name l : Bs) : Suf (afterA name l).2 l := by
  unfold afterA
  split
  · exact Suf.refl _
  · rename_i e t
    split
    · exact (valueA_suf t).trans ⟨1, by simp, rfl⟩
    · exact Suf.refl _
theorem nextA_suf (l : Bs) : Suf (nextA l).2 l := by
  have h := suf_dropWhile skipB l
  unfold nextA
  split
  · exact Suf.nil l
  · rename_i c t hc
    rw [hc] at h
    split
    · exact h
    · exact (afterA_suf _ _).trans ((suf_dropWhile white _).trans ((suf_dropWhile nameB t).trans h.tail))
theorem nextA_less (l : Bs) (a : Bs × Bs) (h : (nextA l).1 = some a) : (nextA l).2.length < l.length := by
  have h0 := (suf_dropWhile skipB l).len
  unfold nextA at h ⊢
  split at h
  · cases h
  · rename_i c t hc
    rw [hc] at h0
    split at h
    · cases h
    · rename_i hne
      simp only [if_neg hne]
      have h1 := (afterA_suf (c :: t.takeWhile nameB) ((t.dropWhile nameB).dropWhile white)).len
      have h2 := (suf_dropWhile white (t.dropWhile nameB)).len
      have h3 := (suf_dropWhile nameB t).len
      simp only [List.length_cons] at h0
      omega
theorem attrsF_enough : ∀ (f g : Nat) (l : Bs), l.length < f → l.length < g → attrsF f l = attrsF g l
  | 0, _, l, h, _ => by omega
  | _ + 1, 0, l, _, h => by omega
  | f + 1, g + 1, l, h, h2 => by
    rw [attrsF, attrsF]
    split
    · rename_i a r hn
      have hl := nextA_less l a (by rw [hn])
      rw [hn] at hl
      simp only at hl
      rw [attrsF_enough f g r (by omega) (by omega)]
    · rfl
theorem attrsA_some (l : Bs) (a : Bs × Bs) (r : Bs) (h : nextA l = (some a, r)) : attrsA l = (a :: (attrsA r).1, (attrsA r).2) := by
  have hl := nextA_less l a (by rw [h])
  rw [h] at hl
  simp only at hl
  show attrsF (l.length + 1) l = _
  rw [attrsF, h]
  simp only
  rw [attrsF_enough l.length (r.length + 1) r hl (by omega)]
  rfl
theorem attrsA_none (l r : Bs) (h : nextA l = (none, r)) : attrsA l = ([], r) := by
  show attrsF (l.length + 1) l = _
  rw [attrsF, h]
theorem attrsA_suf : ∀ (k : Nat) (l : Bs), l.length ≤ k → Suf (attrsA l).2 l ∧ (attrsA l).1.length ≤ l.length
  | k, l, h => by
    cases hn : nextA l with
    | mk o r =>
      have hs := nextA_suf l
      rw [hn] at hs
      cases o with
      | none => rw [attrsA_none l r hn]; exact ⟨hs, by simp⟩
      | some a =>
        have hl := nextA_less l a (by rw [hn])
        rw [hn] at hl
        simp only at hl
        match k, h with
        | 0, h => omega
        | k + 1, h =>
          obtain ⟨i1, i2⟩ := attrsA_suf k r (by omega)
          rw [attrsA_some l a r hn]
          refine ⟨i1.trans hs, ?_⟩
          simp only [List.length_cons]; omega
/-- Where all end: at the end, or at a >. -/
theorem nextA_end (l r : Bs) (h : nextA l = (none, r)) : r = [] ∨ ∃ t, r = 62 :: t := by
  unfold nextA at h
  split at h
  · injection h with _ h; exact .inl h.symm
  · rename_i c t hc
    split at h
    · rename_i h62; injection h with _ h; exact .inr ⟨t, by rw [← h, h62]⟩
    · unfold afterA at h
      split at h
      · cases h
      · split at h
        · injection h with h1 h2
          rename_i e t' _ _
          unfold valueA at h1 h2
          split at h1
          · cases h1
          · rename_i q u hq
            split at h1
            · rename_i hqq
              unfold quotedA at h1
              split at h1
              · rename_i hd
                rw [hq] at h2
                simp only [if_pos hqq, quotedA, hd] at h2
                exact .inl h2.symm
              · cases h1
            · cases h1
        · cases h
/-! ## A charset -/
def charset7 : Bs := [99, 104, 97, 114, 115, 101, 116]
def charOf (l : Bs) : Int :=
  match l.dropWhile white with
  | [] => find []
  | q :: t => if q = 34 ∨ q = 39 then (match (quotedA q t).1 with | some v => find v | none => 0) else find ((q :: t).takeWhile labB)
def behindEq (r : Bs) : Option Bs := match r with | e :: u => if e = 61 then some u else none | [] => none
def charF : Nat → Bs → Int
  | 0, _ => 0
  | _ + 1, [] => 0
  | f + 1, c :: t => if Lib.hasPrefix (fold (c :: t)) charset7 = true then
      (match behindEq (((c :: t).drop 7).dropWhile white) with | some u => charOf u | none => charF f (((c :: t).drop 7).dropWhile white))
    else charF f t
def charA (l : Bs) : Int := charF l.length l
def charE (l : Bs) : Int × Int := if 3000 < l.length then (0, 2) else (charA l, 0)
theorem charF_enough : ∀ (f g : Nat) (l : Bs), l.length ≤ f → l.length ≤ g → charF f l = charF g l
  | 0, g, l, h, _ => by
    have : l = [] := List.eq_nil_of_length_eq_zero (by omega)
    subst this
    cases g <;> rfl
  | f + 1, 0, l, _, h => by
    have : l = [] := List.eq_nil_of_length_eq_zero (by omega)
    subst this
    rfl
  | f + 1, g + 1, [], _, _ => rfl
  | f + 1, g + 1, c :: t, h, h2 => by
    have h1 := (suf_dropWhile white ((c :: t).drop 7)).len
    rw [List.length_drop] at h1
    simp only [List.length_cons] at h h1 h2
    rw [charF, charF, charF_enough f g t (by omega) (by omega), charF_enough f g (((c :: t).drop 7).dropWhile white) (by omega) (by omega)]
theorem charA_nil : charA [] = 0 := rfl
theorem charA_step (c : UInt8) (t : Bs) (h : Lib.hasPrefix (fold (c :: t)) charset7 = false) : charA (c :: t) = charA t := by
  show charF (t.length + 1) (c :: t) = _
  rw [charF, if_neg (by rw [h]; decide)]; rfl
theorem charA_eq (c : UInt8) (t u : Bs) (h : Lib.hasPrefix (fold (c :: t)) charset7 = true) (h2 : behindEq (((c :: t).drop 7).dropWhile white) = some u) : charA (c :: t) = charOf u := by
  show charF (t.length + 1) (c :: t) = _
  rw [charF, if_pos h, h2]
theorem charA_no (c : UInt8) (t : Bs) (h : Lib.hasPrefix (fold (c :: t)) charset7 = true) (h2 : behindEq (((c :: t).drop 7).dropWhile white) = none) : charA (c :: t) = charA (((c :: t).drop 7).dropWhile white) := by
  have h1 := (suf_dropWhile white ((c :: t).drop 7)).len
  rw [List.length_drop] at h1
  simp only [List.length_cons] at h1
  show charF (t.length + 1) (c :: t) = _
  rw [charF, if_pos h, h2]
  exact charF_enough _ _ _ (by omega) (by omega)
/-- Bytes ahead of which it stands nowhere. -/
theorem charA_skip : ∀ (k : Nat) (l : Bs), (∀ j, j < k → Lib.hasPrefix (fold (l.drop j)) charset7 = false) → charA l = charA (l.drop k)
  | 0, l, _ => by simp
  | k + 1, [], _ => by simp
  | k + 1, c :: t, h => by
    rw [charA_step c t (by have := h 0 (by omega); simpa using this), charA_skip k t (fun j hj => by have := h (j + 1) (by omega); simpa using this)]
    simp
end Go.Proofs.YthaoohckgilahaaDoor.M

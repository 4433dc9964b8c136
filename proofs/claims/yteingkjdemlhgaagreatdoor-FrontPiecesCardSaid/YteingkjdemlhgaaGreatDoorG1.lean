/-
  Texts of the proof, laid together: Plain, PlainLabel, PlainAttr, PlainScan, PlainUtf8, PlainUtf8b, PlainUtf8c, PlainUtf8d, PlainUtf8e, PlainUtf16, PlainKana. No condition of its own.
-/
import Derived.Lib.Strings

/-
  The plain functions that the Go text computes, and the plain laws about them: lists of bytes and numbers, no program in sight.
-/
namespace Go.Proofs.YteingkjdemlhgaaGreatDoor.M
open Go
abbrev Bs := List UInt8
/-! ## marks -/
def sniff (l : Bs) : Int × Int :=
  if Lib.hasPrefix l [239, 187, 191] then (1, 3) else if Lib.hasPrefix l [254, 255] then (3, 2) else if Lib.hasPrefix l [255, 254] then (2, 2) else (0, 0)
def may (l : Bs) : Bool :=
  (decide (l.length < 3) && Lib.hasPrefix [239, 187, 191] l) || (decide (l.length < 2) && Lib.hasPrefix [254, 255] l) || (decide (l.length < 2) && Lib.hasPrefix [255, 254] l)
def markOf (n : Int) : Bs := if 1 = n then [239, 187, 191] else if 3 = n then [254, 255] else if 2 = n then [255, 254] else []
def isEnc (n : Int) : Bool := decide (1 ≤ n ∧ n ≤ 7)
def put (n : Int) (l : Bs) : Bs × Int := if isEnc n = false then ([], 6) else if 3000 < l.length then ([], 2) else (markOf n ++ l, 0)
def long (l : Bs) : Int := if 3000 < l.length then 2 else 0
/-! ## a byte a sign -/
def high : List Int := [8364, 129, 8218, 402, 8222, 8230, 8224, 8225, 710, 8240, 352, 8249, 338, 141, 381, 143, 144, 8216, 8217, 8220, 8221, 8226, 8211, 8212, 732, 8482, 353, 8250, 339, 157, 382, 376]
def pointOf (user : Bool) (c : Nat) : Int := if c < 128 then (c : Int) else if user = true then 63232 + (c : Int) else if c < 160 then high[c - 128]?.getD 0 else (c : Int)
def tableOf (user : Bool) : List Int := (List.range 256).map (pointOf user)
def idx (xs : List Int) (n : Int) : Int := match xs.findIdx? (fun x => x == n) with | some i => (i : Int) | none => -1
def byteOf (user : Bool) (n : Int) : Int := idx (tableOf user) n
def decodeS (user : Bool) (l : Bs) : List Int := l.map (fun c => pointOf user c.toNat)
def tellsS (user : Bool) (n : Int) : Int × Int := if byteOf user n < 0 then (0, 5) else (byteOf user n, 0)
def encodeS (user : Bool) : List Int → Option Bs
  | [] => some []
  | n :: t => if byteOf user n < 0 then none else (encodeS user t).map (UInt8.ofNat (byteOf user n).toNat :: ·)
def rawS (user : Bool) (xs : List Int) : Bs × Int := match encodeS user xs with | some b => (b, 0) | none => ([], 5)
end Go.Proofs.YteingkjdemlhgaaGreatDoor.M

/-
  Labels, in plain functions and laws.
-/
namespace Go.Proofs.YteingkjdemlhgaaGreatDoor.M
open Go
def white (c : UInt8) : Bool := decide (c = 32 ∨ c = 9 ∨ c = 10 ∨ c = 12 ∨ c = 13)
def trimL (l : Bs) : Bs := l.dropWhile white
def trimR (l : Bs) : Bs := (l.reverse.dropWhile white).reverse
def trim (l : Bs) : Bs := trimR (trimL l)
def fold1 (c : UInt8) : UInt8 := if 65 ≤ c.toNat ∧ c.toNat ≤ 90 then c + 32 else c
def fold (l : Bs) : Bs := l.map fold1
def labels : List (Bs × Int) := [
  ([117, 110, 105, 99, 111, 100, 101, 45, 49, 45, 49, 45, 117, 116, 102, 45, 56], 1), ([117, 116, 102, 45, 56], 1), ([117, 116, 102, 56], 1),
  ([117, 116, 102, 45, 49, 54], 2), ([117, 116, 102, 45, 49, 54, 108, 101], 2), ([117, 110, 105, 99, 111, 100, 101], 2), ([117, 116, 102, 45, 49, 54, 98, 101], 3), ([117, 110, 105, 99, 111, 100, 101, 102, 102, 102, 101], 3),
  ([119, 105, 110, 100, 111, 119, 115, 45, 49, 50, 53, 50], 4), ([99, 112, 49, 50, 53, 50], 4), ([105, 115, 111, 45, 56, 56, 53, 57, 45, 49], 4), ([108, 97, 116, 105, 110, 49], 4), ([97, 115, 99, 105, 105], 4), ([117, 115, 45, 97, 115, 99, 105, 105], 4), ([108, 49], 4),
  ([120, 45, 117, 115, 101, 114, 45, 100, 101, 102, 105, 110, 101, 100], 5), ([105, 115, 111, 45, 50, 48, 50, 50, 45, 106, 112], 6), ([99, 115, 105, 115, 111, 50, 48, 50, 50, 106, 112], 6),
  ([114, 101, 112, 108, 97, 99, 101, 109, 101, 110, 116], 7), ([104, 122, 45, 103, 98, 45, 50, 51, 49, 50], 7), ([105, 115, 111, 45, 50, 48, 50, 50, 45, 107, 114], 7), ([105, 115, 111, 45, 50, 48, 50, 50, 45, 99, 110], 7)]
def find0 (name : Bs) : Int := match labels.find? (fun x => x.1 == name) with | some x => x.2 | none => 0
def find (s : Bs) : Int := find0 (fold (trim s))
theorem add32 (c : UInt8) (h : 65 ≤ c.toNat ∧ c.toNat ≤ 90) : (c + 32).toNat = c.toNat + 32 := by
  rw [UInt8.toNat_add]; show (c.toNat + 32) % 256 = _; omega
theorem fold1_nat (c : UInt8) : (fold1 c).toNat = if 65 ≤ c.toNat ∧ c.toNat ≤ 90 then c.toNat + 32 else c.toNat := by
  unfold fold1; split
  · rename_i h; exact add32 c h
  · rfl
theorem white_nat (c : UInt8) : white c = decide (c.toNat = 32 ∨ c.toNat = 9 ∨ c.toNat = 10 ∨ c.toNat = 12 ∨ c.toNat = 13) := by
  unfold white
  rw [decide_eq_decide]
  simp only [← UInt8.toNat_inj]
  rfl
theorem trimL_of_head (l : Bs) (h : ∀ c, l.head? = some c → white c = false) : trimL l = l := by
  cases l with
  | nil => rfl
  | cons c t => rw [trimL, List.dropWhile_cons, if_neg (by rw [h c rfl]; decide)]
theorem dropWhile_head (p : UInt8 → Bool) (l : Bs) (c : UInt8) (h : (l.dropWhile p).head? = some c) : p c = false := by
  induction l with
  | nil => cases h
  | cons d t ih =>
    rw [List.dropWhile_cons] at h
    split at h
    · exact ih h
    · rename_i hd; injection h with h; subst h; simpa using hd
theorem dropWhile_le (p : UInt8 → Bool) (l : Bs) : (l.dropWhile p).length ≤ l.length := by
  induction l with
  | nil => exact Nat.le_refl _
  | cons c t ih => rw [List.dropWhile_cons]; split <;> simp only [List.length_cons] <;> omega
theorem trim_len (l : Bs) : (trim l).length ≤ l.length := by
  unfold trim trimR trimL
  rw [List.length_reverse]
  have h1 := dropWhile_le white (l.dropWhile white).reverse
  have h2 := dropWhile_le white l
  rw [List.length_reverse] at h1
  omega
theorem fold_len (l : Bs) : (fold l).length = l.length := by unfold fold; rw [List.length_map]
theorem trim_rev (l : Bs) : trim l = trimL (trimR l) := by
  -- both ways cut the same
  have key : ∀ l : Bs, (∃ c ∈ l, white c = false) → ∃ a m b : Bs, l = a ++ m ++ b ∧ a.all white = true ∧ b.all white = true ∧ m ≠ [] ∧ (∀ c, m.head? = some c → white c = false) ∧ (∀ c, m.getLast? = some c → white c = false) := by
    intro l hl
    have h1 : l.takeWhile white ++ l.dropWhile white = l := List.takeWhile_append_dropWhile
    have h2 : (l.dropWhile white).reverse.takeWhile white ++ (l.dropWhile white).reverse.dropWhile white = (l.dropWhile white).reverse := List.takeWhile_append_dropWhile
    have h3 := congrArg List.reverse h2
    rw [List.reverse_append, List.reverse_reverse] at h3
    refine ⟨l.takeWhile white, ((l.dropWhile white).reverse.dropWhile white).reverse, ((l.dropWhile white).reverse.takeWhile white).reverse, ?_, ?_, ?_, ?_, ?_, ?_⟩
    · rw [List.append_assoc, h3, h1]
    · exact List.all_takeWhile
    · rw [List.all_reverse]; exact List.all_takeWhile
    · intro hn
      rw [hn, List.nil_append] at h3
      obtain ⟨c, hc, hw⟩ := hl
      rw [← h1, List.mem_append] at hc
      rcases hc with hc | hc
      · have := List.all_eq_true.1 (List.all_takeWhile (p := white) (l := l)) c hc
        rw [hw] at this; cases this
      · rw [← h3, List.mem_reverse] at hc
        have := List.all_eq_true.1 (List.all_takeWhile (p := white) (l := (l.dropWhile white).reverse)) c hc
        rw [hw] at this; cases this
    · intro c hc
      have : (l.dropWhile white).head? = some c := by
        rw [← h3, List.head?_append, hc]; rfl
      exact dropWhile_head white l c this
    · intro c hc
      rw [List.getLast?_reverse] at hc
      exact dropWhile_head white _ c hc
  have hL : ∀ a m : Bs, a.all white = true → (∀ c, m.head? = some c → white c = false) → trimL (a ++ m) = m := by
    intro a m ha hm
    induction a with
    | nil => exact trimL_of_head m hm
    | cons x t ih =>
      rw [List.all_cons, Bool.and_eq_true] at ha
      rw [List.cons_append, trimL, List.dropWhile_cons, if_pos ha.1]
      exact ih ha.2
  have hR : ∀ m b : Bs, b.all white = true → (∀ c, m.getLast? = some c → white c = false) → trimR (m ++ b) = m := by
    intro m b hb hm
    have := hL b.reverse m.reverse (by rw [List.all_reverse]; exact hb) (by intro c hc; rw [List.head?_reverse] at hc; exact hm c hc)
    unfold trimR
    rw [List.reverse_append]
    unfold trimL at this
    rw [this, List.reverse_reverse]
  by_cases hl : ∃ c ∈ l, white c = false
  · obtain ⟨a, m, b, rfl, ha, hb, hm, h1, h2⟩ := key l hl
    have e1 : trimL (a ++ m ++ b) = m ++ b := by
      rw [List.append_assoc]
      refine hL a (m ++ b) ha (fun c hc => ?_)
      cases m with
      | nil => exact absurd rfl hm
      | cons x y => exact h1 c hc
    have e2 : trimR (a ++ m ++ b) = a ++ m := by
      refine hR (a ++ m) b hb (fun c hc => ?_)
      rw [List.getLast?_append] at hc
      cases hq : m.getLast? with
      | none => exact absurd (List.getLast?_eq_none_iff.1 hq) hm
      | some x => rw [hq] at hc; exact h2 c (hq.trans hc)
    rw [trim, e1, hR m b hb h2, e2, hL a m ha h1]
  · have hall : l.all white = true := by
      rw [List.all_eq_true]; intro c hc
      cases hw : white c with
      | true => rfl
      | false => exact absurd ⟨c, hc, hw⟩ hl
    have e1 : trimL l = [] := by have := hL l [] hall (by simp); rwa [List.append_nil] at this
    have e2 : trimR l = [] := by have := hR [] l hall (by simp); rwa [List.nil_append] at this
    rw [trim, e1, e2]; rfl
end Go.Proofs.YteingkjdemlhgaaGreatDoor.M

/-
  Attributes, in plain functions and laws.
-/
namespace Go.Proofs.YteingkjdemlhgaaGreatDoor.M
open Go
def skipB (c : UInt8) : Bool := white c || decide (c = 47)
def nameB (c : UInt8) : Bool := !white c && decide (c ≠ 47 ∧ c ≠ 62 ∧ c ≠ 61)
def valB (c : UInt8) : Bool := !white c && decide (c ≠ 62)
def labB (c : UInt8) : Bool := !white c && decide (c ≠ 59)
def quotedA (q : UInt8) (t : Bs) : Option Bs × Bs := match t.dropWhile (fun c => c != q) with | [] => (none, []) | _ :: u => (some (t.takeWhile (fun c => c != q)), u)
def valueA (l : Bs) : Option Bs × Bs :=
  match l.dropWhile white with
  | [] => (some [], [])
  | q :: t => if q = 34 ∨ q = 39 then quotedA q t else (some ((q :: t).takeWhile valB), (q :: t).dropWhile valB)
def afterA (name l : Bs) : Option (Bs × Bs) × Bs :=
  match l with
  | [] => (some (fold name, []), [])
  | e :: t => if e = 61 then ((valueA t).1.map (fun v => (fold name, fold v)), (valueA t).2) else (some (fold name, []), e :: t)
def nextA (l : Bs) : Option (Bs × Bs) × Bs :=
  match l.dropWhile skipB with
  | [] => (none, [])
  | c :: t => if c = 62 then (none, c :: t) else afterA (c :: t.takeWhile nameB) ((t.dropWhile nameB).dropWhile white)
def attrsF : Nat → Bs → List (Bs × Bs) × Bs
  | 0, l => ([], l)
  | f + 1, l => match nextA l with
    | (some a, r) => (a :: (attrsF f r).1, (attrsF f r).2)
    | (none, r) => ([], r)
def attrsA (l : Bs) : List (Bs × Bs) × Bs := attrsF (l.length + 1) l
/-- A suffix. -/
def Suf (r l : Bs) : Prop := ∃ k, k ≤ l.length ∧ r = l.drop k
theorem Suf.refl (l : Bs) : Suf l l := ⟨0, by omega, by simp⟩
theorem Suf.trans {a b c : Bs} (h : Suf a b) (g : Suf b c) : Suf a c := by
  obtain ⟨k, hk, rfl⟩ := h
  obtain ⟨m, hm, rfl⟩ := g
  rw [List.length_drop] at hk
  exact ⟨m + k, by omega, by rw [List.drop_drop]⟩
theorem Suf.len {a b : Bs} (h : Suf a b) : a.length ≤ b.length := by
  obtain ⟨k, hk, rfl⟩ := h; rw [List.length_drop]; omega
theorem Suf.at {a b : Bs} (h : Suf a b) : a = b.drop (b.length - a.length) := by
  obtain ⟨k, hk, rfl⟩ := h
  rw [List.length_drop, show b.length - (b.length - k) = k by omega]
theorem Suf.nil (l : Bs) : Suf [] l := ⟨l.length, by omega, by simp⟩
theorem Suf.tail {c : UInt8} {t l : Bs} (h : Suf (c :: t) l) : Suf t l := Suf.trans ⟨1, by simp, rfl⟩ h
theorem Suf.drop (l : Bs) (k : Nat) : Suf (l.drop k) l := by
  by_cases h : k ≤ l.length
  · exact ⟨k, h, rfl⟩
  · rw [List.drop_of_length_le (by omega)]; exact Suf.nil l
theorem suf_dropWhile (p : UInt8 → Bool) (l : Bs) : Suf (l.dropWhile p) l := by
  induction l with
  | nil => exact Suf.refl []
  | cons c t ih =>
    rw [List.dropWhile_cons]
    split
    · exact Suf.trans ih ⟨1, by simp, rfl⟩
    · exact Suf.refl _
theorem quotedA_suf (q : UInt8) (t : Bs) : Suf (quotedA q t).2 t := by
  have h := suf_dropWhile (fun c => c != q) t
  unfold quotedA
  split
  · exact Suf.nil t
  · rename_i x u hu
    rw [hu] at h
    exact h.tail
theorem valueA_suf (l : Bs) : Suf (valueA l).2 l := by
  have h := suf_dropWhile white l
  unfold valueA
  split
  · exact Suf.nil l
  · rename_i q t ht
    rw [ht] at h
    split
    · exact (quotedA_suf q t).trans h.tail
    · exact (suf_dropWhile valB _).trans h
theorem afterA_suf (name l : Bs) : Suf (afterA name l).2 l := by
  unfold afterA
  split
  · exact Suf.refl _
  · rename_i e t
    split
    · exact (valueA_suf t).trans ⟨1, by simp, rfl⟩
    · exact Suf.refl _
theorem nextA_suf (l : Bs) : Suf (nextA l).2 l := by
  have h := suf_dropWhile skipB l
  unfold nextA
  split
  · exact Suf.nil l
  · rename_i c t hc
    rw [hc] at h
    split
    · exact h
    · exact (afterA_suf _ _).trans ((suf_dropWhile white _).trans ((suf_dropWhile nameB t).trans h.tail))
theorem nextA_less (l : Bs) (a : Bs × Bs) (h : (nextA l).1 = some a) : (nextA l).2.length < l.length := by
  have h0 := (suf_dropWhile skipB l).len
  unfold nextA at h ⊢
  split at h
  · cases h
  · rename_i c t hc
    rw [hc] at h0
    split at h
    · cases h
    · rename_i hne
      simp only [if_neg hne]
      have h1 := (afterA_suf (c :: t.takeWhile nameB) ((t.dropWhile nameB).dropWhile white)).len
      have h2 := (suf_dropWhile white (t.dropWhile nameB)).len
      have h3 := (suf_dropWhile nameB t).len
      simp only [List.length_cons] at h0
      omega
theorem attrsF_enough : ∀ (f g : Nat) (l : Bs), l.length < f → l.length < g → attrsF f l = attrsF g l
  | 0, _, l, h, _ => by omega
  | _ + 1, 0, l, _, h => by omega
  | f + 1, g + 1, l, h, h2 => by
    rw [attrsF, attrsF]
    split
    · rename_i a r hn
      have hl := nextA_less l a (by rw [hn])
      rw [hn] at hl
      simp only at hl
      rw [attrsF_enough f g r (by omega) (by omega)]
    · rfl
theorem attrsA_some (l : Bs) (a : Bs × Bs) (r : Bs) (h : nextA l = (some a, r)) : attrsA l = (a :: (attrsA r).1, (attrsA r).2) := by
  have hl := nextA_less l a (by rw [h])
  rw [h] at hl
  simp only at hl
  show attrsF (l.length + 1) l = _
  rw [attrsF, h]
  simp only
  rw [attrsF_enough l.length (r.length + 1) r hl (by omega)]
  rfl
theorem attrsA_none (l r : Bs) (h : nextA l = (none, r)) : attrsA l = ([], r) := by
  show attrsF (l.length + 1) l = _
  rw [attrsF, h]
theorem attrsA_suf : ∀ (k : Nat) (l : Bs), l.length ≤ k → Suf (attrsA l).2 l ∧ (attrsA l).1.length ≤ l.length
  | k, l, h => by
    cases hn : nextA l with
    | mk o r =>
      have hs := nextA_suf l
      rw [hn] at hs
      cases o with
      | none => rw [attrsA_none l r hn]; exact ⟨hs, by simp⟩
      | some a =>
        have hl := nextA_less l a (by rw [hn])
        rw [hn] at hl
        simp only at hl
        match k, h with
        | 0, h => omega
        | k + 1, h =>
          obtain ⟨i1, i2⟩ := attrsA_suf k r (by omega)
          rw [attrsA_some l a r hn]
          refine ⟨i1.trans hs, ?_⟩
          simp only [List.length_cons]; omega
/-! ## A charset -/
def charset7 : Bs := [99, 104, 97, 114, 115, 101, 116]
def charOf (l : Bs) : Int :=
  match l.dropWhile white with
  | [] => find []
  | q :: t => if q = 34 ∨ q = 39 then (match (quotedA q t).1 with | some v => find v | none => 0) else find ((q :: t).takeWhile labB)
def behindEq (r : Bs) : Option Bs := match r with | e :: u => if e = 61 then some u else none | [] => none
def charF : Nat → Bs → Int
  | 0, _ => 0
  | _ + 1, [] => 0
  | f + 1, c :: t => if Lib.hasPrefix (fold (c :: t)) charset7 = true then
      (match behindEq (((c :: t).drop 7).dropWhile white) with | some u => charOf u | none => charF f (((c :: t).drop 7).dropWhile white))
    else charF f t
def charA (l : Bs) : Int := charF l.length l
def charE (l : Bs) : Int × Int := if 3000 < l.length then (0, 2) else (charA l, 0)
theorem charF_enough : ∀ (f g : Nat) (l : Bs), l.length ≤ f → l.length ≤ g → charF f l = charF g l
  | 0, g, l, h, _ => by
    have : l = [] := List.eq_nil_of_length_eq_zero (by omega)
    subst this
    cases g <;> rfl
  | f + 1, 0, l, _, h => by
    have : l = [] := List.eq_nil_of_length_eq_zero (by omega)
    subst this
    rfl
  | f + 1, g + 1, [], _, _ => rfl
  | f + 1, g + 1, c :: t, h, h2 => by
    have h1 := (suf_dropWhile white ((c :: t).drop 7)).len
    rw [List.length_drop] at h1
    simp only [List.length_cons] at h h1 h2
    rw [charF, charF, charF_enough f g t (by omega) (by omega), charF_enough f g (((c :: t).drop 7).dropWhile white) (by omega) (by omega)]
theorem charA_nil : charA [] = 0 := rfl
theorem charA_step (c : UInt8) (t : Bs) (h : Lib.hasPrefix (fold (c :: t)) charset7 = false) : charA (c :: t) = charA t := by
  show charF (t.length + 1) (c :: t) = _
  rw [charF, if_neg (by rw [h]; decide)]; rfl
theorem charA_eq (c : UInt8) (t u : Bs) (h : Lib.hasPrefix (fold (c :: t)) charset7 = true) (h2 : behindEq (((c :: t).drop 7).dropWhile white) = some u) : charA (c :: t) = charOf u := by
  show charF (t.length + 1) (c :: t) = _
  rw [charF, if_pos h, h2]
theorem charA_no (c : UInt8) (t : Bs) (h : Lib.hasPrefix (fold (c :: t)) charset7 = true) (h2 : behindEq (((c :: t).drop 7).dropWhile white) = none) : charA (c :: t) = charA (((c :: t).drop 7).dropWhile white) := by
  have h1 := (suf_dropWhile white ((c :: t).drop 7)).len
  rw [List.length_drop] at h1
  simp only [List.length_cons] at h1
  show charF (t.length + 1) (c :: t) = _
  rw [charF, if_pos h, h2]
  exact charF_enough _ _ _ (by omega) (by omega)
/-- Bytes ahead of which it stands nowhere. -/
theorem charA_skip : ∀ (k : Nat) (l : Bs), (∀ j, j < k → Lib.hasPrefix (fold (l.drop j)) charset7 = false) → charA l = charA (l.drop k)
  | 0, l, _ => by simp
  | k + 1, [], _ => by simp
  | k + 1, c :: t, h => by
    rw [charA_step c t (by have := h 0 (by omega); simpa using this), charA_skip k t (fun j hj => by have := h (j + 1) (by omega); simpa using this)]
    simp
end Go.Proofs.YteingkjdemlhgaaGreatDoor.M

/-
  What a text says of itself, in plain functions and laws.
-/
namespace Go.Proofs.YteingkjdemlhgaaGreatDoor.M
open Go
def httpEquiv : Bs := [104, 116, 116, 112, 45, 101, 113, 117, 105, 118]
def contentB : Bs := [99, 111, 110, 116, 101, 110, 116]
def contentType : Bs := [99, 111, 110, 116, 101, 110, 116, 45, 116, 121, 112, 101]
def valOf (l : List (Bs × Bs)) (name : Bs) : Option Bs := (l.find? (fun a => a.1 == name)).map (fun a => a.2)
def toldA (l : List (Bs × Bs)) : Int := match valOf l charset7 with | some v => find v | none => if valOf l httpEquiv = some contentType then charA ((valOf l contentB).getD []) else 0
def turnA (n : Int) : Int := if n = 2 ∨ n = 3 then 1 else if n = 5 then 4 else n
def metaA (l : List (Bs × Bs)) : Int := turnA (toldA l)
/-- What stands behind the first such text. -/
def behindF (sub : Bs) : Bs → Bs
  | [] => []
  | c :: t => if Lib.hasPrefix (fold (c :: t)) sub = true then (c :: t).drop sub.length else behindF sub t
def endB (c : UInt8) : Bool := white c || decide (c = 62)
def letterB (c : UInt8) : Bool := decide (97 ≤ c.toNat ∧ c.toNat ≤ 122)
def openS : Bs := [60, 33, 45, 45]
def closeS : Bs := [45, 45, 62]
def metaS : Bs := [60, 109, 101, 116, 97]
def nameEnd (l : Bs) : Option Bs :=
  match l with
  | c :: d :: t => if c = 60 ∧ (letterB (fold1 d) = true ∨ (d = 47 ∧ ∃ x, t.head? = some x ∧ letterB (fold1 x) = true)) then some (l.dropWhile (fun c => !endB c)) else none
  | _ => none
def slashW (l : Bs) : Bool := match l with | [] => false | c :: _ => skipB c
def stepS (l : Bs) : Int × Bs :=
  if Lib.hasPrefix (fold l) openS = true then (0, behindF closeS (l.drop 2))
  else if Lib.hasPrefix (fold l) metaS = true ∧ slashW (l.drop 5) = true then (metaA (attrsA (l.drop 5)).1, (attrsA (l.drop 5)).2.drop 1)
  else match nameEnd l with
    | some e => (0, (attrsA e).2.drop 1)
    | none => if Lib.hasPrefix l [60, 33] = true ∨ Lib.hasPrefix l [60, 47] = true ∨ Lib.hasPrefix l [60, 63] = true then (0, behindF [62] l) else (0, l.drop 1)
def scanF : Nat → Bs → Int
  | 0, _ => 0
  | _ + 1, [] => 0
  | f + 1, c :: t => if (stepS (c :: t)).1 = 0 then scanF f (stepS (c :: t)).2 else (stepS (c :: t)).1
def scan0 (l : Bs) : Int := scanF l.length l
def scanA (l : Bs) : Int := scan0 (l.take 256)
theorem behindF_suf (sub : Bs) (l : Bs) : Suf (behindF sub l) l := by
  induction l with
  | nil => exact Suf.refl []
  | cons c t ih =>
    rw [behindF]
    split
    · exact Suf.drop _ _
    · exact ih.trans ⟨1, by simp, rfl⟩
theorem behindF_less (sub : Bs) (hs : sub ≠ []) (c : UInt8) (t : Bs) : (behindF sub (c :: t)).length < (c :: t).length := by
  rw [behindF]
  split
  · cases sub with
    | nil => exact absurd rfl hs
    | cons x y => simp only [List.length_cons, List.drop_succ_cons, List.length_drop]; omega
  · have := (behindF_suf sub t).len; simp only [List.length_cons]; omega
theorem drop1_less (r : Bs) (n : Nat) (h : r.length ≤ n) (hn : 0 < n) : (r.drop 1).length < n := by rw [List.length_drop]; omega
theorem stepS_less (c : UInt8) (t : Bs) : (stepS (c :: t)).2.length < (c :: t).length := by
  have ha := fun l : Bs => (attrsA_suf _ l (Nat.le_refl _)).1.len
  unfold stepS
  split
  · have h1 := (behindF_suf closeS ((c :: t).drop 2)).len
    rw [List.length_drop] at h1
    simp only [List.length_cons] at h1 ⊢; omega
  · split
    · refine drop1_less _ _ ?_ (by simp)
      have h1 := ha ((c :: t).drop 5)
      rw [List.length_drop] at h1
      simp only [List.length_cons] at h1 ⊢; omega
    · split
      · rename_i e he
        refine drop1_less _ _ ?_ (by simp)
        have h1 := ha e
        have h2 : e.length ≤ (c :: t).length := by
          unfold nameEnd at he
          split at he
          · split at he
            · injection he with he
              rw [← he]; exact (suf_dropWhile _ _).len
            · cases he
          · cases he
        omega
      · split
        · exact behindF_less [62] (by simp) c t
        · simp
theorem scanF_enough : ∀ (f g : Nat) (l : Bs), l.length ≤ f → l.length ≤ g → scanF f l = scanF g l
  | 0, g, l, h, _ => by
    have : l = [] := List.eq_nil_of_length_eq_zero (by omega)
    subst this
    cases g <;> rfl
  | f + 1, 0, l, _, h => by
    have : l = [] := List.eq_nil_of_length_eq_zero (by omega)
    subst this
    rfl
  | f + 1, g + 1, [], _, _ => rfl
  | f + 1, g + 1, c :: t, h, h2 => by
    have h1 := stepS_less c t
    rw [scanF, scanF, scanF_enough f g (stepS (c :: t)).2 (by omega) (by omega)]
theorem scan0_cons (c : UInt8) (t : Bs) : scan0 (c :: t) = if (stepS (c :: t)).1 = 0 then scan0 (stepS (c :: t)).2 else (stepS (c :: t)).1 := by
  have h1 := stepS_less c t
  show scanF (t.length + 1) (c :: t) = _
  rw [scanF]
  split
  · exact scanF_enough _ _ _ (by simp only [List.length_cons] at h1; omega) (Nat.le_refl _)
  · rfl
/-! ## What is told is one of these -/
theorem find_range (s : Bs) : 0 ≤ find s ∧ find s ≤ 7 := by
  have key : ∀ x ∈ labels, 0 ≤ x.2 ∧ x.2 ≤ 7 := by decide
  unfold find find0
  split
  · rename_i x hx; exact key x (List.mem_of_find?_eq_some hx)
  · omega
theorem charOf_range (l : Bs) : 0 ≤ charOf l ∧ charOf l ≤ 7 := by
  unfold charOf
  split
  · exact find_range _
  · split
    · split
      · exact find_range _
      · omega
    · exact find_range _
theorem charF_range : ∀ (f : Nat) (l : Bs), 0 ≤ charF f l ∧ charF f l ≤ 7
  | 0, _ => by rw [charF]; omega
  | _ + 1, [] => by rw [charF]; omega
  | f + 1, c :: t => by
    rw [charF]
    split
    · split
      · exact charOf_range _
      · exact charF_range f _
    · exact charF_range f t
theorem metaA_range (l : List (Bs × Bs)) : metaA l = 0 ∨ metaA l = 1 ∨ metaA l = 4 ∨ metaA l = 6 ∨ metaA l = 7 := by
  have h : 0 ≤ toldA l ∧ toldA l ≤ 7 := by
    unfold toldA
    split
    · exact find_range _
    · split
      · exact charF_range _ _
      · omega
  unfold metaA turnA
  split
  · omega
  · split <;> omega
theorem stepS_range (l : Bs) : (stepS l).1 = 0 ∨ (stepS l).1 = 1 ∨ (stepS l).1 = 4 ∨ (stepS l).1 = 6 ∨ (stepS l).1 = 7 := by
  unfold stepS
  split
  · simp
  · split
    · exact metaA_range _
    · split
      · simp
      · split <;> simp
theorem scanF_range : ∀ (f : Nat) (l : Bs), scanF f l = 0 ∨ scanF f l = 1 ∨ scanF f l = 4 ∨ scanF f l = 6 ∨ scanF f l = 7
  | 0, _ => by rw [scanF]; omega
  | _ + 1, [] => by rw [scanF]; omega
  | f + 1, c :: t => by
    rw [scanF]
    split
    · exact scanF_range f _
    · exact stepS_range _
/-! ## Plain texts -/
end Go.Proofs.YteingkjdemlhgaaGreatDoor.M

/-
  UTF-8, in plain functions.
-/
namespace Go.Proofs.YteingkjdemlhgaaGreatDoor.M
open Go
def scalar (n : Int) : Bool := decide (0 ≤ n ∧ n ≤ 1114111 ∧ (n < 55296 ∨ 57343 < n))
def points (l : List Int) : Int := if 3000 < l.length then 2 else if l.all scalar then 0 else 3
def lead8 (c : Nat) : Int × Int × Int × Int :=
  if c < 128 then (0, (c : Int), 0, 0) else if c < 194 ∨ 244 < c then (-1, 0, 0, 0) else if c < 224 then (1, (c : Int) % 32, 128, 191) else if c = 224 then (2, 0, 160, 191)
  else if c = 237 then (2, 13, 128, 159) else if c < 240 then (2, (c : Int) % 16, 128, 191) else if c = 240 then (3, 0, 144, 191) else if c = 244 then (3, 4, 128, 143) else (3, (c : Int) % 8, 128, 191)
/-- So many bytes are still wanted: what they tell. -/
def go8 : Nat → Bs → Int → Int → Int → Int → Int × Int × Bool
  | 0, _, i, n, _, _ => (n, i, true)
  | _ + 1, [], i, _, _, _ => (65533, i, false)
  | m + 1, b :: t, i, n, lo, hi => if (b.toNat : Int) < lo ∨ hi < (b.toNat : Int) then (65533, i, true) else go8 m t (i + 1) (n * 64 + (b.toNat : Int) % 64) 128 191
def first8 : Bs → Int × Int × Bool
  | [] => (65533, 1, true)
  | c :: t => if (lead8 c.toNat).1 < 0 then (65533, 1, true) else go8 (lead8 c.toNat).1.toNat t 1 (lead8 c.toNat).2.1 (lead8 c.toNat).2.2.1 (lead8 c.toNat).2.2.2
/-- Scalars that are told, with so many rounds at most; what is left. -/
def toldF : Nat → Bs → List Int × Bs
  | 0, s => ([], s)
  | _ + 1, [] => ([], [])
  | f + 1, c :: t => if (first8 (c :: t)).2.2 = true then ((first8 (c :: t)).1 :: (toldF f ((c :: t).drop (first8 (c :: t)).2.1.toNat)).1, (toldF f ((c :: t).drop (first8 (c :: t)).2.1.toNat)).2) else ([], c :: t)
def told8 (s : Bs) : List Int × Bs := toldF s.length s
def all8 (s : Bs) : List Int := if (told8 s).2 = [] then (told8 s).1 else (told8 s).1 ++ [65533]
def row8 (n : Int) : Bs :=
  if n < 128 then [UInt8.ofNat n.toNat] else if n < 2048 then [UInt8.ofNat (192 + n.toNat / 64), UInt8.ofNat (128 + n.toNat % 64)]
  else if n < 65536 then [UInt8.ofNat (224 + n.toNat / 4096), UInt8.ofNat (128 + n.toNat / 64 % 64), UInt8.ofNat (128 + n.toNat % 64)]
  else [UInt8.ofNat (240 + n.toNat / 262144), UInt8.ofNat (128 + n.toNat / 4096 % 64), UInt8.ofNat (128 + n.toNat / 64 % 64), UInt8.ofNat (128 + n.toNat % 64)]
def bytes8 (l : List Int) : Bs := l.flatMap row8
theorem lead8_bounds (c : Nat) : (lead8 c).1 = -1 ∨ (0 ≤ (lead8 c).1 ∧ (lead8 c).1 ≤ 3 ∧ 0 ≤ (lead8 c).2.1 ∧ (lead8 c).2.1 ≤ 127 ∧ 0 ≤ (lead8 c).2.2.1 ∧ (lead8 c).2.2.1 ≤ 255 ∧ 0 ≤ (lead8 c).2.2.2 ∧ (lead8 c).2.2.2 ≤ 255) := by
  unfold lead8
  split
  · right; dsimp only; omega
  · split
    · left; rfl
    · right
      split
      · dsimp only; omega
      · split
        · dsimp only; omega
        · split
          · dsimp only; omega
          · split
            · dsimp only; omega
            · split
              · dsimp only; omega
              · split <;> dsimp only <;> omega
theorem go8_bounds : ∀ (m : Nat) (l : Bs) (i n lo hi : Int), i ≤ (go8 m l i n lo hi).2.1 ∧ (go8 m l i n lo hi).2.1 ≤ i + l.length
  | 0, _, i, _, _, _ => by simp only [go8]; omega
  | _ + 1, [], i, _, _, _ => by simp [go8]
  | m + 1, b :: t, i, n, lo, hi => by
    rw [go8]
    split
    · simp only [List.length_cons]; omega
    · have := go8_bounds m t (i + 1) (n * 64 + (b.toNat : Int) % 64) 128 191
      simp only [List.length_cons]; omega
theorem first8_bounds (c : UInt8) (t : Bs) : 1 ≤ (first8 (c :: t)).2.1 ∧ (first8 (c :: t)).2.1 ≤ ((c :: t).length : Int) := by
  rw [first8]
  split
  · simp only [List.length_cons]; omega
  · have := go8_bounds (lead8 c.toNat).1.toNat t 1 (lead8 c.toNat).2.1 (lead8 c.toNat).2.2.1 (lead8 c.toNat).2.2.2
    simp only [List.length_cons]; omega
theorem toldF_enough : ∀ (f : Nat) (s : Bs) (g : Nat), s.length ≤ f → s.length ≤ g → toldF f s = toldF g s
  | 0, s, g, hf, _ => by
    have : s = [] := List.eq_nil_of_length_eq_zero (by omega)
    subst this
    cases g <;> rfl
  | f + 1, [], g, _, _ => by cases g <;> rfl
  | f + 1, c :: t, g, hf, hg => by
    cases g with
    | zero => simp at hg
    | succ g =>
      rw [toldF, toldF]
      obtain ⟨h1, h2⟩ := first8_bounds c t
      have hl : ((c :: t).drop (first8 (c :: t)).2.1.toNat).length ≤ t.length := by
        rw [List.length_drop]
        simp only [List.length_cons] at *
        omega
      simp only [List.length_cons] at hf hg
      rw [toldF_enough f _ g (by omega) (by omega)]
theorem toldF_len : ∀ (f : Nat) (s : Bs), (toldF f s).1.length + (toldF f s).2.length ≤ s.length
  | 0, s => by simp [toldF]
  | f + 1, [] => by simp [toldF]
  | f + 1, c :: t => by
    rw [toldF]
    split
    · obtain ⟨h1, h2⟩ := first8_bounds c t
      have h3 := toldF_len f ((c :: t).drop (first8 (c :: t)).2.1.toNat)
      rw [List.length_drop] at h3
      simp only [List.length_cons] at *
      omega
    · simp
theorem told8_len (s : Bs) : (told8 s).1.length + (told8 s).2.length ≤ s.length := toldF_len _ _
theorem told8_nil : told8 [] = ([], []) := rfl
theorem told8_ok (c : UInt8) (t : Bs) (h : (first8 (c :: t)).2.2 = true) : told8 (c :: t) = ((first8 (c :: t)).1 :: (told8 ((c :: t).drop (first8 (c :: t)).2.1.toNat)).1, (told8 ((c :: t).drop (first8 (c :: t)).2.1.toNat)).2) := by
  obtain ⟨h1, h2⟩ := first8_bounds c t
  have hl : ((c :: t).drop (first8 (c :: t)).2.1.toNat).length ≤ t.length := by
    rw [List.length_drop]
    simp only [List.length_cons] at *
    omega
  have e : told8 ((c :: t).drop (first8 (c :: t)).2.1.toNat) = toldF t.length ((c :: t).drop (first8 (c :: t)).2.1.toNat) := toldF_enough _ _ _ (Nat.le_refl _) hl
  rw [e]
  show toldF (t.length + 1) (c :: t) = _
  rw [toldF, if_pos h]
theorem told8_no (c : UInt8) (t : Bs) (h : (first8 (c :: t)).2.2 = false) : told8 (c :: t) = ([], c :: t) := by
  show toldF (t.length + 1) (c :: t) = _
  rw [toldF, if_neg (by rw [h]; decide)]
end Go.Proofs.YteingkjdemlhgaaGreatDoor.M

/-
  UTF-8, in plain functions: what is encoded is decoded as it was; where a text may be cut.
-/
namespace Go.Proofs.YteingkjdemlhgaaGreatDoor.M
open Go
theorem u8ofNat (a : UInt8) (n : Nat) (h : a.toNat = n) : UInt8.ofNat n = a := by subst h; exact UInt8.ofNat_toNat
/-- The three ways of a sequence that is begun. -/
theorem go8_say : ∀ (m : Nat) (l : Bs) (i n lo hi : Int),
    (∃ p u, l = p ++ u ∧ p.length = m ∧ (∀ b t, p = b :: t → lo ≤ (b.toNat : Int) ∧ (b.toNat : Int) ≤ hi) ∧ (∀ b ∈ p.tail, 128 ≤ b.toNat ∧ b.toNat ≤ 191) ∧
      ∀ u', go8 m (p ++ u') i n lo hi = (p.foldl (fun n b => n * 64 + (b.toNat : Int) % 64) n, i + m, true)) ∨
    (∃ p b u, l = p ++ b :: u ∧ p.length < m ∧ (∀ u', go8 m (p ++ b :: u') i n lo hi = (65533, i + p.length, true)) ∧ go8 m p i n lo hi = (65533, i + p.length, false)) ∨
    (l.length < m ∧ go8 m l i n lo hi = (65533, i + l.length, false))
  | 0, l, i, n, lo, hi => .inl ⟨[], l, rfl, rfl, (fun _ _ h => by cases h), (fun _ h => by cases h), fun u' => by simp [go8]⟩
  | m + 1, [], i, n, lo, hi => .inr (.inr ⟨by simp, by simp [go8]⟩)
  | m + 1, b :: t, i, n, lo, hi => by
    by_cases h : (b.toNat : Int) < lo ∨ hi < (b.toNat : Int)
    · refine .inr (.inl ⟨[], b, t, rfl, by simp, fun u' => ?_, ?_⟩)
      · rw [List.nil_append, go8, if_pos h]; simp
      · simp [go8]
    · rcases go8_say m t (i + 1) (n * 64 + (b.toNat : Int) % 64) 128 191 with ⟨p, u, rfl, hp, h1, h2, h3⟩ | ⟨p, c, u, rfl, hp, h1, h2⟩ | ⟨hl, h1⟩
      · refine .inl ⟨b :: p, u, rfl, by simp [hp], fun b' t' hh => ?_, fun b' hb' => ?_, fun u' => ?_⟩
        · injection hh with h4 h5
          subst h4
          omega
        · rw [List.tail_cons] at hb'
          cases p with
          | nil => cases hb'
          | cons x y =>
            rcases List.mem_cons.1 hb' with rfl | hb'
            · have := h1 b' y rfl; omega
            · exact h2 b' hb'
        · rw [List.cons_append, go8, if_neg h, h3]
          simp only [List.foldl_cons, Prod.mk.injEq, and_true, true_and]
          omega
      · refine .inr (.inl ⟨b :: p, c, u, rfl, by simp; omega, fun u' => ?_, ?_⟩)
        · rw [List.cons_append, go8, if_neg h, h1]
          simp only [List.length_cons, Prod.mk.injEq, and_true, true_and]
          omega
        · rw [go8, if_neg h, h2]
          simp only [List.length_cons, Prod.mk.injEq, and_true, true_and]
          omega
      · refine .inr (.inr ⟨by simp; omega, ?_⟩)
        rw [go8, if_neg h, h1]
        simp only [List.length_cons, Prod.mk.injEq, and_true, true_and]
        omega
set_option maxHeartbeats 4000000 in
/-- A sequence that is whole: what it tells is told by itself. -/
theorem whole8 (c : UInt8) (p : Bs) (h0 : ¬ (lead8 c.toNat).1 < 0) (hp : p.length = (lead8 c.toNat).1.toNat)
    (h1 : ∀ b t, p = b :: t → (lead8 c.toNat).2.2.1 ≤ (b.toNat : Int) ∧ (b.toNat : Int) ≤ (lead8 c.toNat).2.2.2) (h2 : ∀ b ∈ p.tail, 128 ≤ b.toNat ∧ b.toNat ≤ 191) :
    scalar (p.foldl (fun n b => n * 64 + (b.toNat : Int) % 64) (lead8 c.toNat).2.1) = true ∧ row8 (p.foldl (fun n b => n * 64 + (b.toNat : Int) % 64) (lead8 c.toNat).2.1) = c :: p := by
  have hc := c.toNat_lt
  have key : ∀ (m : Nat) (n lo hi : Int), lead8 c.toNat = ((m : Int), n, lo, hi) → p.length = m → (∀ b t, p = b :: t → lo ≤ (b.toNat : Int) ∧ (b.toNat : Int) ≤ hi) →
      scalar (p.foldl (fun n b => n * 64 + (b.toNat : Int) % 64) n) = true ∧ row8 (p.foldl (fun n b => n * 64 + (b.toNat : Int) % 64) n) = c :: p := by
    intro m n lo hi hl hp h1
    unfold lead8 at hl
    have fin1 : ∀ a : Nat, 128 ≤ a → a ≤ 191 → 0 ≤ ((a : Int) % 64) ∧ (a : Int) % 64 = (a : Int) - 128 := by omega
    match p, hp, h1, h2 with
    | [], hp, _, _ =>
      have hm : m = 0 := by simpa using hp.symm
      subst hm
      (repeat' split at hl) <;> simp only [Prod.mk.injEq] at hl <;> try omega
      obtain ⟨_, rfl, _⟩ := hl
      refine ⟨by simp [scalar]; omega, ?_⟩
      rw [List.foldl_nil, row8, if_pos (by omega), Int.toNat_natCast, UInt8.ofNat_toNat]
    | [b], hp, h1, _ =>
      have hm : m = 1 := by simpa using hp.symm
      subst hm
      have hb := h1 b [] rfl
      have hb2 := b.toNat_lt
      simp only [List.foldl_cons, List.foldl_nil]
      (repeat' split at hl) <;> simp only [Prod.mk.injEq] at hl <;> try omega
      obtain ⟨_, rfl, rfl, rfl⟩ := hl
      refine ⟨by unfold scalar; rw [decide_eq_true_eq]; omega, ?_⟩
      rw [row8, if_neg (by omega), if_pos (by omega), u8ofNat c _ (by omega), u8ofNat b _ (by omega)]
    | [b, d], hp, h1, h2 =>
      have hm : m = 2 := by simpa using hp.symm
      subst hm
      have hb := h1 b [d] rfl
      have hb2 := b.toNat_lt
      have hd := h2 d (by simp)
      simp only [List.foldl_cons, List.foldl_nil]
      (repeat' split at hl) <;> simp only [Prod.mk.injEq] at hl <;> try omega
      all_goals
        obtain ⟨_, rfl, rfl, rfl⟩ := hl
        refine ⟨by unfold scalar; rw [decide_eq_true_eq]; omega, ?_⟩
        rw [row8, if_neg (by omega), if_neg (by omega), if_pos (by omega), u8ofNat c _ (by omega), u8ofNat b _ (by omega), u8ofNat d _ (by omega)]
    | [b, d, e], hp, h1, h2 =>
      have hm : m = 3 := by simpa using hp.symm
      subst hm
      have hb := h1 b [d, e] rfl
      have hb2 := b.toNat_lt
      have hd := h2 d (by simp)
      have he := h2 e (by simp)
      simp only [List.foldl_cons, List.foldl_nil]
      (repeat' split at hl) <;> simp only [Prod.mk.injEq] at hl <;> try omega
      all_goals
        obtain ⟨_, rfl, rfl, rfl⟩ := hl
        refine ⟨by unfold scalar; rw [decide_eq_true_eq]; omega, ?_⟩
        rw [row8, if_neg (by omega), if_neg (by omega), if_neg (by omega), u8ofNat c _ (by omega), u8ofNat b _ (by omega), u8ofNat d _ (by omega), u8ofNat e _ (by omega)]
    | b :: d :: e :: f :: t, hp, _, _ =>
      exfalso
      simp only [List.length_cons] at hp
      (repeat' split at hl) <;> simp only [Prod.mk.injEq] at hl <;> omega
  rcases lead8_bounds c.toNat with h | ⟨h3, _⟩
  · omega
  · refine key (lead8 c.toNat).1.toNat _ _ _ ?_ hp h1
    rw [Int.toNat_of_nonneg h3]
theorem u8to (k : Nat) (h : k < 256) : (UInt8.ofNat k).toNat = k := UInt8.toNat_ofNat_of_lt' h
theorem row8_cons (n : Int) : ∃ c t, row8 n = c :: t := by unfold row8; (repeat' split) <;> exact ⟨_, _, rfl⟩
theorem first8_lead (c : UInt8) (t : Bs) (m : Nat) (v lo hi : Int) (h : lead8 c.toNat = ((m : Int), v, lo, hi)) : first8 (c :: t) = go8 m t 1 v lo hi := by
  rw [first8, h, if_neg (show ¬ ((m : Int) < 0) by omega)]
  rfl
theorem first8_row (n : Int) (h : scalar n = true) (u : Bs) : first8 (row8 n ++ u) = (n, ((row8 n).length : Int), true) := by
  have h' : 0 ≤ n ∧ n ≤ 1114111 ∧ (n < 55296 ∨ 57343 < n) := by simpa [scalar] using h
  obtain ⟨m, rfl⟩ := Int.eq_ofNat_of_zero_le h'.1
  clear h
  by_cases g1 : m < 128
  · have hr : row8 (m : Int) = [UInt8.ofNat m] := by rw [row8, if_pos (by omega), Int.toNat_natCast]
    have hx := u8to m (by omega)
    have hl : lead8 (UInt8.ofNat m).toNat = (0, (m : Int), 0, 0) := by rw [hx, lead8, if_pos g1]
    rw [hr, List.singleton_append, first8_lead _ _ 0 _ _ _ hl]
    rfl
  · by_cases g2 : m < 2048
    · have hr : row8 (m : Int) = [UInt8.ofNat (192 + m / 64), UInt8.ofNat (128 + m % 64)] := by rw [row8, if_neg (by omega), if_pos (by omega), Int.toNat_natCast]
      have hx := u8to (192 + m / 64) (by omega)
      have hy := u8to (128 + m % 64) (by omega)
      have hl : lead8 (UInt8.ofNat (192 + m / 64)).toNat = (1, ((m / 64 : Nat) : Int), 128, 191) := by
        rw [hx, lead8, if_neg (by omega), if_neg (by omega), if_pos (by omega)]; simp only [Prod.mk.injEq, and_true, true_and]; omega
      rw [hr, List.cons_append, List.singleton_append, first8_lead _ _ 1 _ _ _ hl]
      rw [go8, if_neg (by rw [hy]; omega), go8, hy]
      simp only [List.length_cons, List.length_nil, Prod.mk.injEq, and_true]
      omega
    · by_cases g3 : m < 65536
      · have hr : row8 (m : Int) = [UInt8.ofNat (224 + m / 4096), UInt8.ofNat (128 + m / 64 % 64), UInt8.ofNat (128 + m % 64)] := by rw [row8, if_neg (by omega), if_neg (by omega), if_pos (by omega), Int.toNat_natCast]
        have hx := u8to (224 + m / 4096) (by omega)
        have hy := u8to (128 + m / 64 % 64) (by omega)
        have hz := u8to (128 + m % 64) (by omega)
        obtain ⟨lo, hi, hl, hlo, hhi⟩ : ∃ lo hi : Int, lead8 (224 + m / 4096) = (2, ((m / 4096 : Nat) : Int), lo, hi) ∧ lo ≤ ((128 + m / 64 % 64 : Nat) : Int) ∧ ((128 + m / 64 % 64 : Nat) : Int) ≤ hi := by
          unfold lead8
          rw [if_neg (by omega), if_neg (by omega), if_neg (by omega)]
          split
          · exact ⟨160, 191, by simp only [Prod.mk.injEq, and_true, true_and]; omega, by omega, by omega⟩
          · split
            · exact ⟨128, 159, by simp only [Prod.mk.injEq, and_true, true_and]; omega, by omega, by omega⟩
            · rw [if_pos (by omega)]
              exact ⟨128, 191, by simp only [Prod.mk.injEq, and_true, true_and]; omega, by omega, by omega⟩
        rw [hr, List.cons_append, List.cons_append, List.singleton_append, first8_lead _ _ 2 _ _ _ (by rw [hx]; exact hl)]
        rw [go8, if_neg (by rw [hy]; omega), go8, if_neg (by rw [hz]; omega), go8, hy, hz]
        simp only [List.length_cons, List.length_nil, Prod.mk.injEq, and_true]
        omega
      · have hr : row8 (m : Int) = [UInt8.ofNat (240 + m / 262144), UInt8.ofNat (128 + m / 4096 % 64), UInt8.ofNat (128 + m / 64 % 64), UInt8.ofNat (128 + m % 64)] := by rw [row8, if_neg (by omega), if_neg (by omega), if_neg (by omega), Int.toNat_natCast]
        have hx := u8to (240 + m / 262144) (by omega)
        have hw := u8to (128 + m / 4096 % 64) (by omega)
        have hy := u8to (128 + m / 64 % 64) (by omega)
        have hz := u8to (128 + m % 64) (by omega)
        obtain ⟨lo, hi, hl, hlo, hhi⟩ : ∃ lo hi : Int, lead8 (240 + m / 262144) = (3, ((m / 262144 : Nat) : Int), lo, hi) ∧ lo ≤ ((128 + m / 4096 % 64 : Nat) : Int) ∧ ((128 + m / 4096 % 64 : Nat) : Int) ≤ hi := by
          unfold lead8
          rw [if_neg (by omega), if_neg (by omega), if_neg (by omega), if_neg (by omega), if_neg (by omega), if_neg (by omega)]
          split
          · exact ⟨144, 191, by simp only [Prod.mk.injEq, and_true, true_and]; omega, by omega, by omega⟩
          · split
            · exact ⟨128, 143, by simp only [Prod.mk.injEq, and_true, true_and]; omega, by omega, by omega⟩
            · exact ⟨128, 191, by simp only [Prod.mk.injEq, and_true, true_and]; omega, by omega, by omega⟩
        rw [hr, List.cons_append, List.cons_append, List.cons_append, List.singleton_append, first8_lead _ _ 3 _ _ _ (by rw [hx]; exact hl)]
        rw [go8, if_neg (by rw [hw]; omega), go8, if_neg (by rw [hy]; omega), go8, if_neg (by rw [hz]; omega), go8, hw, hy, hz]
        simp only [List.length_cons, List.length_nil, Prod.mk.injEq, and_true]
        omega
theorem first8_say (c : UInt8) (t : Bs) :
    (∃ n u, scalar n = true ∧ c :: t = row8 n ++ u) ∨
    (∃ p u, c :: t = p ++ u ∧ 1 ≤ p.length ∧ p.length ≤ 3 ∧ first8 (p ++ u) = (65533, (p.length : Int), true) ∧ ∀ u', u = [] ∨ u' = [] ∨ u'.head? = u.head? → ∃ b, first8 (p ++ u') = (65533, (p.length : Int), b) ∧ (b = false → u' = [])) ∨
    ((c :: t).length ≤ 3 ∧ first8 (c :: t) = (65533, ((c :: t).length : Int), false)) := by
  by_cases h0 : (lead8 c.toNat).1 < 0
  · refine .inr (.inl ⟨[c], t, rfl, by simp, by simp, ?_, fun u' _ => ⟨true, ?_, fun h => by cases h⟩⟩)
    · rw [List.singleton_append, first8, if_pos h0]; rfl
    · rw [List.singleton_append, first8, if_pos h0]; rfl
  · have hm : (lead8 c.toNat).1.toNat ≤ 3 := by
      rcases lead8_bounds c.toNat with h | h
      · omega
      · omega
    rcases go8_say (lead8 c.toNat).1.toNat t 1 (lead8 c.toNat).2.1 (lead8 c.toNat).2.2.1 (lead8 c.toNat).2.2.2 with ⟨p, u, rfl, hp, h1, h2, _⟩ | ⟨p, b, u, rfl, hp, h1, h2⟩ | ⟨hl, h1⟩
    · obtain ⟨hs, hr⟩ := whole8 c p h0 hp h1 h2
      exact .inl ⟨_, u, hs, by rw [hr]; rfl⟩
    · refine .inr (.inl ⟨c :: p, b :: u, rfl, by simp, by simp; omega, ?_, fun u' hu' => ?_⟩)
      · rw [List.cons_append, first8, if_neg h0, h1]
        simp only [List.length_cons, Prod.mk.injEq, and_true, true_and]
        omega
      · rcases hu' with hu' | rfl | hu'
        · cases hu'
        · refine ⟨false, ?_, fun _ => rfl⟩
          rw [List.append_nil, first8, if_neg h0, h2]
          simp only [List.length_cons, Prod.mk.injEq, and_true, true_and]
          omega
        · cases u' with
          | nil => cases hu'
          | cons b' u' =>
            simp only [List.head?_cons, Option.some.injEq] at hu'
            subst hu'
            refine ⟨true, ?_, fun h => by cases h⟩
            rw [List.cons_append, first8, if_neg h0, h1]
            simp only [List.length_cons, Prod.mk.injEq, and_true, true_and]
            omega
    · refine .inr (.inr ⟨by simp only [List.length_cons]; omega, ?_⟩)
      rw [first8, if_neg h0, h1]
      simp only [List.length_cons, Prod.mk.injEq, and_true, true_and]
      omega
theorem told8_row (n : Int) (h : scalar n = true) (u : Bs) : told8 (row8 n ++ u) = (n :: (told8 u).1, (told8 u).2) := by
  have hf := first8_row n h u
  obtain ⟨c, t, hc⟩ := row8_cons n
  rw [hc, List.cons_append] at hf ⊢
  rw [told8_ok c (t ++ u) (by rw [hf]), hf]
  rw [Int.toNat_natCast, ← List.cons_append, List.drop_left]
theorem all8_row (n : Int) (h : scalar n = true) (u : Bs) : all8 (row8 n ++ u) = n :: all8 u := by
  rw [all8, told8_row n h, all8]
  split <;> rfl
theorem all8_nil : all8 [] = [] := rfl
theorem all8_wait (s : Bs) (k : Int) (hs : s ≠ []) (h : first8 s = (65533, k, false)) : told8 s = ([], s) ∧ all8 s = [65533] := by
  cases s with
  | nil => exact absurd rfl hs
  | cons c t =>
    have h1 := told8_no c t (by rw [h])
    exact ⟨h1, by rw [all8, h1, if_neg (by simp)]; rfl⟩
theorem all8_bad (p u : Bs) (hp : 1 ≤ p.length) (h : first8 (p ++ u) = (65533, (p.length : Int), true)) : told8 (p ++ u) = (65533 :: (told8 u).1, (told8 u).2) ∧ all8 (p ++ u) = 65533 :: all8 u := by
  cases p with
  | nil => simp at hp
  | cons c t =>
    have h1 : told8 (c :: t ++ u) = (65533 :: (told8 u).1, (told8 u).2) := by
      rw [List.cons_append] at h ⊢
      rw [told8_ok c (t ++ u) (by rw [h]), h]
      rw [Int.toNat_natCast, ← List.cons_append, List.drop_left]
    refine ⟨h1, ?_⟩
    rw [all8, h1, all8]
    split <;> rfl
theorem all8_say (c : UInt8) (t : Bs) :
    (∃ n u, scalar n = true ∧ c :: t = row8 n ++ u ∧ all8 (c :: t) = n :: all8 u) ∨
    (∃ p u, c :: t = p ++ u ∧ 1 ≤ p.length ∧ p.length ≤ 3 ∧ told8 (c :: t) = (65533 :: (told8 u).1, (told8 u).2) ∧ all8 (c :: t) = 65533 :: all8 u ∧ ∀ u', u = [] ∨ u' = [] ∨ u'.head? = u.head? → all8 (p ++ u') = 65533 :: all8 u') ∨
    ((c :: t).length ≤ 3 ∧ told8 (c :: t) = ([], c :: t) ∧ all8 (c :: t) = [65533]) := by
  rcases first8_say c t with ⟨n, u, hn, hu⟩ | ⟨p, u, hu, hp, hp3, hf, hall⟩ | ⟨hl, hf⟩
  · exact .inl ⟨n, u, hn, hu, by rw [hu, all8_row n hn]⟩
  · refine .inr (.inl ⟨p, u, hu, hp, hp3, by rw [hu]; exact (all8_bad p u hp hf).1, by rw [hu]; exact (all8_bad p u hp hf).2, fun u' hu' => ?_⟩)
    obtain ⟨b, h1, h2⟩ := hall u' hu'
    cases b with
    | true => exact (all8_bad p u' hp h1).2
    | false =>
      obtain rfl := h2 rfl
      rw [List.append_nil] at h1 ⊢
      rw [(all8_wait p _ (by intro h; rw [h] at hp; simp at hp) h1).2, all8_nil]
  · exact .inr (.inr ⟨hl, (all8_wait _ _ (by simp) hf).1, (all8_wait _ _ (by simp) hf).2⟩)
theorem row8_len (n : Int) : 1 ≤ (row8 n).length ∧ (row8 n).length ≤ 4 := by unfold row8; (repeat' split) <;> simp
/-- What is encoded is decoded as it was. -/
theorem all8_bytes : ∀ l : List Int, (∀ n ∈ l, scalar n = true) → all8 (bytes8 l) = l
  | [], _ => rfl
  | n :: l, h => by
    have : bytes8 (n :: l) = row8 n ++ bytes8 l := rfl
    rw [this, all8_row n (h n (by simp)), all8_bytes l (fun x hx => h x (by simp [hx]))]
theorem all8_many : ∀ (k : Nat) (s : Bs), s.length ≤ k → (all8 s).length ≤ s.length ∧ s.length ≤ 4 * (all8 s).length ∧ ∀ n ∈ all8 s, scalar n = true
  | _, [], _ => by simp [all8_nil]
  | 0, _ :: _, h => by simp at h
  | k + 1, c :: t, h => by
    rcases all8_say c t with ⟨n, u, hn, hu, ha⟩ | ⟨p, u, hu, hp, hp3, _, ha, _⟩ | ⟨hl, _, ha⟩
    · have hl := row8_len n
      have hul := congrArg List.length hu
      rw [List.length_append] at hul
      obtain ⟨h1, h2, h3⟩ := all8_many k u (by omega)
      rw [ha]
      refine ⟨by rw [List.length_cons (a := n)]; omega, by rw [List.length_cons (a := n)]; omega, fun x hx => ?_⟩
      rcases List.mem_cons.1 hx with rfl | hx
      · exact hn
      · exact h3 x hx
    · have hul := congrArg List.length hu
      rw [List.length_append] at hul
      obtain ⟨h1, h2, h3⟩ := all8_many k u (by omega)
      rw [ha]
      refine ⟨by rw [List.length_cons (a := 65533)]; omega, by rw [List.length_cons (a := 65533)]; omega, fun x hx => ?_⟩
      rcases List.mem_cons.1 hx with rfl | hx
      · rfl
      · exact h3 x hx
    · rw [ha]
      refine ⟨by simp, by simp only [List.length_cons, List.length_nil] at hl ⊢; omega, fun x hx => ?_⟩
      rw [List.mem_singleton] at hx
      subst hx
      rfl
/-- Where nothing is left a text may be cut. -/
theorem told8_cut : ∀ (k : Nat) (s : Bs), s.length ≤ k → ∃ a, s = a ++ (told8 s).2 ∧ (told8 s).2.length ≤ 3 ∧ all8 a = (told8 s).1 ∧ (∀ t, all8 (s ++ t) = (told8 s).1 ++ all8 ((told8 s).2 ++ t)) ∧ ((told8 s).2 ≠ [] → all8 (told8 s).2 = [65533])
  | _, [], _ => ⟨[], by simp [told8_nil], by simp [told8_nil], rfl, fun t => by simp [told8_nil], fun h => absurd rfl h⟩
  | 0, _ :: _, h => by simp at h
  | k + 1, c :: t, h => by
    rcases all8_say c t with ⟨n, u, hn, hu, ha⟩ | ⟨p, u, hu, hp, hp3, ht, ha, hall⟩ | ⟨hl, ht, ha⟩
    · have hl := row8_len n
      have hul := congrArg List.length hu
      rw [List.length_append] at hul
      obtain ⟨a, h1, h2, h3, h4, h5⟩ := told8_cut k u (by omega)
      have ht : told8 (c :: t) = (n :: (told8 u).1, (told8 u).2) := by rw [hu, told8_row n hn]
      rw [ht]
      refine ⟨row8 n ++ a, ?_, h2, ?_, fun t' => ?_, h5⟩
      · rw [List.append_assoc, ← h1]; exact hu
      · rw [all8_row n hn, h3]
      · rw [hu, List.append_assoc, all8_row n hn, h4]; rfl
    · have hul := congrArg List.length hu
      rw [List.length_append] at hul
      obtain ⟨a, h1, h2, h3, h4, h5⟩ := told8_cut k u (by omega)
      rw [ht]
      refine ⟨p ++ a, ?_, h2, ?_, fun t' => ?_, h5⟩
      · rw [List.append_assoc, ← h1]; exact hu
      · rw [hall a, h3]
        cases a with
        | nil => exact .inr (.inl rfl)
        | cons x y => rw [h1]; exact .inr (.inr rfl)
      · rw [hu, List.append_assoc, hall (u ++ t'), h4]
        · rfl
        · cases u with
          | nil => exact .inl rfl
          | cons x y => exact .inr (.inr rfl)
    · rw [ht]
      exact ⟨[], rfl, hl, rfl, fun t' => rfl, fun _ => ha⟩
end Go.Proofs.YteingkjdemlhgaaGreatDoor.M

/-
  UTF-8: the document's way: is a row of bytes the beginning of some scalar's?
-/
namespace Go.Proofs.YteingkjdemlhgaaGreatDoor.M
open Go
def cont8 (b : UInt8) : Bool := decide (128 ≤ b.toNat ∧ b.toNat ≤ 191)
/-- Is it the beginning of a sequence (whole or not)? -/
def ok8 (c : UInt8) (p : Bs) : Bool :=
  decide (0 ≤ (lead8 c.toNat).1) && decide ((p.length : Int) ≤ (lead8 c.toNat).1) && p.all cont8 && (match p with | [] => true | b :: _ => decide ((lead8 c.toNat).2.2.1 ≤ (b.toNat : Int) ∧ (b.toNat : Int) ≤ (lead8 c.toNat).2.2.2))
/-- How long the document takes a sequence to be; 0: it is none. -/
def len8 (c : Nat) : Nat := if 194 ≤ c ∧ c ≤ 223 then 2 else if 224 ≤ c ∧ c ≤ 239 then 3 else if 240 ≤ c ∧ c ≤ 244 then 4 else 0
def acc8 (c : UInt8) (p : Bs) : Nat := p.foldl (fun n b => 64 * n + b.toNat % 64) (c.toNat % (256 / 2 ^ (len8 c.toNat + 1)))
def least8 (n : Nat) : Nat → Nat
  | 0 => n
  | k + 1 => 64 * least8 n k
def most8 (n : Nat) : Nat → Nat
  | 0 => n
  | k + 1 => 64 * most8 n k + 63
def lowest8 (a : Nat) : Nat := if a = 2 then 128 else if a = 3 then 2048 else if a = 4 then 65536 else 0
def fits8 (c : UInt8) (p : Bs) : Bool :=
  decide (lowest8 (len8 c.toNat) ≤ most8 (acc8 c p) (len8 c.toNat - (p.length + 1))) && decide (least8 (acc8 c p) (len8 c.toNat - (p.length + 1)) ≤ 1114111) && !(decide (55296 ≤ least8 (acc8 c p) (len8 c.toNat - (p.length + 1))) && decide (most8 (acc8 c p) (len8 c.toNat - (p.length + 1)) ≤ 57343))
theorem lead8_class (c : Nat) (h : len8 c ≠ 0) : ∃ v lo hi : Int, lead8 c = ((len8 c : Int) - 1, v, lo, hi) ∧
    ((194 ≤ c ∧ c ≤ 223 ∧ len8 c = 2 ∧ lo = 128 ∧ hi = 191) ∨ (c = 224 ∧ len8 c = 3 ∧ lo = 160 ∧ hi = 191) ∨ (c = 237 ∧ len8 c = 3 ∧ lo = 128 ∧ hi = 159) ∨ (225 ≤ c ∧ c ≤ 239 ∧ c ≠ 237 ∧ len8 c = 3 ∧ lo = 128 ∧ hi = 191) ∨
      (c = 240 ∧ len8 c = 4 ∧ lo = 144 ∧ hi = 191) ∨ (c = 244 ∧ len8 c = 4 ∧ lo = 128 ∧ hi = 143) ∨ (241 ≤ c ∧ c ≤ 243 ∧ len8 c = 4 ∧ lo = 128 ∧ hi = 191)) := by
  have hlen : (194 ≤ c ∧ c ≤ 223 ∧ len8 c = 2) ∨ (224 ≤ c ∧ c ≤ 239 ∧ len8 c = 3) ∨ (240 ≤ c ∧ c ≤ 244 ∧ len8 c = 4) := by
    unfold len8 at h ⊢
    by_cases g1 : 194 ≤ c ∧ c ≤ 223
    · rw [if_pos g1]; omega
    · rw [if_neg g1] at h ⊢
      by_cases g2 : 224 ≤ c ∧ c ≤ 239
      · rw [if_pos g2]; omega
      · rw [if_neg g2] at h ⊢
        by_cases g3 : 240 ≤ c ∧ c ≤ 244
        · rw [if_pos g3]; omega
        · rw [if_neg g3] at h; exact absurd rfl h
  rcases hlen with ⟨h1, h2, h3⟩ | ⟨h1, h2, h3⟩ | ⟨h1, h2, h3⟩
  · exact ⟨_, _, _, by rw [h3, lead8, if_neg (by omega), if_neg (by omega), if_pos (by omega)]; rfl, .inl ⟨h1, h2, h3, rfl, rfl⟩⟩
  · by_cases e1 : c = 224
    · exact ⟨_, _, _, by rw [h3, lead8, if_neg (by omega), if_neg (by omega), if_neg (by omega), if_pos e1]; rfl, .inr (.inl ⟨e1, h3, rfl, rfl⟩)⟩
    · by_cases e2 : c = 237
      · exact ⟨_, _, _, by rw [h3, lead8, if_neg (by omega), if_neg (by omega), if_neg (by omega), if_neg e1, if_pos e2]; rfl, .inr (.inr (.inl ⟨e2, h3, rfl, rfl⟩))⟩
      · exact ⟨_, _, _, by rw [h3, lead8, if_neg (by omega), if_neg (by omega), if_neg (by omega), if_neg e1, if_neg e2, if_pos (by omega)]; rfl, .inr (.inr (.inr (.inl ⟨by omega, h2, e2, h3, rfl, rfl⟩)))⟩
  · by_cases e1 : c = 240
    · exact ⟨_, _, _, by rw [h3, lead8, if_neg (by omega), if_neg (by omega), if_neg (by omega), if_neg (by omega), if_neg (by omega), if_neg (by omega), if_pos e1]; rfl, .inr (.inr (.inr (.inr (.inl ⟨e1, h3, rfl, rfl⟩))))⟩
    · by_cases e2 : c = 244
      · exact ⟨_, _, _, by rw [h3, lead8, if_neg (by omega), if_neg (by omega), if_neg (by omega), if_neg (by omega), if_neg (by omega), if_neg (by omega), if_neg e1, if_pos e2]; rfl, .inr (.inr (.inr (.inr (.inr (.inl ⟨e2, h3, rfl, rfl⟩)))))⟩
      · exact ⟨_, _, _, by rw [h3, lead8, if_neg (by omega), if_neg (by omega), if_neg (by omega), if_neg (by omega), if_neg (by omega), if_neg (by omega), if_neg e1, if_neg e2]; rfl, .inr (.inr (.inr (.inr (.inr (.inr ⟨by omega, by omega, h3, rfl, rfl⟩)))))⟩
set_option maxHeartbeats 4000000 in
theorem fits8_ok (c : UInt8) (p : Bs) (h1 : p ≠ []) (h2 : p.length + 1 ≤ len8 c.toNat) (h3 : p.all cont8 = true) : fits8 c p = ok8 c p := by
  obtain ⟨v, lo, hi, hl, hcl⟩ := lead8_class c.toNat (by omega)
  have hsum : ok8 c p = true ↔ ∀ b t, p = b :: t → lo ≤ (b.toNat : Int) ∧ (b.toNat : Int) ≤ hi := by
    cases p with
    | nil => exact absurd rfl h1
    | cons b t =>
      have q1 : decide (0 ≤ (lead8 c.toNat).1) = true := by rw [hl, decide_eq_true_eq]; show (0 : Int) ≤ (len8 c.toNat : Int) - 1; omega
      have q2 : decide (((b :: t).length : Int) ≤ (lead8 c.toNat).1) = true := by rw [hl, decide_eq_true_eq]; show ((b :: t).length : Int) ≤ (len8 c.toNat : Int) - 1; omega
      rw [ok8, q1, q2, h3, hl]
      simp only [Bool.true_and]
      rw [decide_eq_true_eq]
      constructor
      · rintro h b' t' hh
        injection hh with hb ht
        subst hb
        exact h
      · intro h
        exact h b t rfl
  rw [Bool.eq_iff_iff, hsum]
  have hall : ∀ b ∈ p, 128 ≤ b.toNat ∧ b.toNat ≤ 191 := fun b hb => by
    have := List.all_eq_true.1 h3 b hb
    simpa [cont8] using this
  simp only [fits8, Bool.and_eq_true, decide_eq_true_eq, Bool.not_eq_true', Bool.and_eq_false_iff, decide_eq_false_iff_not]
  rcases hcl with ⟨g1, g2, g3, rfl, rfl⟩ | ⟨g1, g3, rfl, rfl⟩ | ⟨g1, g3, rfl, rfl⟩ | ⟨g1, g2, g4, g3, rfl, rfl⟩ | ⟨g1, g3, rfl, rfl⟩ | ⟨g1, g3, rfl, rfl⟩ | ⟨g1, g2, g3, rfl, rfl⟩
  all_goals
    rw [g3] at h2
    match p, h1, h2, hall with
    | [], h1, _, _ => exact absurd rfl h1
    | b :: d :: e :: f :: t, _, h2, _ => simp only [List.length_cons] at h2; omega
    | [b], _, h2, hall =>
      have hb := hall b (by simp)
      simp only [List.length_cons, List.length_nil] at h2
      simp [g3, acc8, lowest8, most8, least8] at h2 ⊢
      omega
    | [b, d], _, h2, hall =>
      have hb := hall b (by simp)
      have hd := hall d (by simp)
      simp only [List.length_cons, List.length_nil] at h2
      simp [g3, acc8, lowest8, most8, least8] at h2 ⊢
      try omega
    | [b, d, e], _, h2, hall =>
      have hb := hall b (by simp)
      have hd := hall d (by simp)
      have he := hall e (by simp)
      simp only [List.length_cons, List.length_nil] at h2
      simp [g3, acc8, lowest8, most8, least8] at h2 ⊢
      try omega
theorem len8_le (c : Nat) : len8 c ≤ 4 := by unfold len8; (repeat' split) <;> omega
theorem ok8_low (c : UInt8) (p : Bs) (h : c.toNat < 128) : ok8 c p = decide (p.length = 0) := by
  have hl : lead8 c.toNat = (0, (c.toNat : Int), 0, 0) := by rw [lead8, if_pos h]
  cases p with
  | nil => simp [ok8, hl]
  | cons b t => simp [ok8, hl]; omega
theorem ok8_none (c : UInt8) (p : Bs) (h : 128 ≤ c.toNat) (h2 : len8 c.toNat = 0) : ok8 c p = false := by
  have hl : (lead8 c.toNat).1 = -1 := by
    unfold len8 at h2
    rw [lead8, if_neg (by omega), if_pos]
    have := c.toNat_lt
    (repeat' split at h2) <;> omega
  simp [ok8, hl]
theorem ok8_long (c : UInt8) (p : Bs) (h : len8 c.toNat ≠ 0) (h2 : len8 c.toNat < p.length + 1) : ok8 c p = false := by
  obtain ⟨v, lo, hi, hl, _⟩ := lead8_class c.toNat h
  have : decide ((p.length : Int) ≤ (lead8 c.toNat).1) = false := by rw [hl, decide_eq_false_iff_not]; show ¬ ((p.length : Int) ≤ (len8 c.toNat : Int) - 1); omega
  unfold ok8
  rw [this]
  simp
theorem ok8_cont (c : UInt8) (p : Bs) (h : p.all cont8 = false) : ok8 c p = false := by
  unfold ok8
  rw [h]
  simp
theorem ok8_one (c : UInt8) (h : len8 c.toNat ≠ 0) : ok8 c [] = true := by
  obtain ⟨v, lo, hi, hl, _⟩ := lead8_class c.toNat h
  simp [ok8, hl]
  omega
theorem lead8_len (c : Nat) (h : len8 c ≠ 0) : (lead8 c).1 = (len8 c : Int) - 1 := by
  obtain ⟨v, lo, hi, hl, _⟩ := lead8_class c h
  rw [hl]
theorem fold8_lt : ∀ (p : Bs) (n B : Nat), n < B → p.foldl (fun n b => 64 * n + b.toNat % 64) n < B * 64 ^ p.length
  | [], n, B, h => by simpa using h
  | b :: t, n, B, h => by
    have := fold8_lt t (64 * n + b.toNat % 64) (64 * B) (by omega)
    rw [List.foldl_cons, List.length_cons, Nat.pow_succ]
    have e : B * (64 ^ t.length * 64) = 64 * B * 64 ^ t.length := by rw [Nat.mul_comm (64 ^ t.length) 64, ← Nat.mul_assoc, Nat.mul_comm B 64]
    omega
theorem acc8_lt (c : UInt8) (p : Bs) (h : p.length ≤ 3) : acc8 c p < 67108864 := by
  have h1 := fold8_lt p (c.toNat % (256 / 2 ^ (len8 c.toNat + 1))) 256 (by
    have := c.toNat_lt
    exact Nat.lt_of_le_of_lt (Nat.mod_le _ _) this)
  have h2 : 64 ^ p.length ≤ 64 ^ 3 := Nat.pow_le_pow_right (by decide) h
  unfold acc8
  omega
theorem acc8_snoc (c : UInt8) (p : Bs) (k : Nat) (b : UInt8) (h : p[k]? = some b) : acc8 c (p.take (k + 1)) = 64 * acc8 c (p.take k) + b.toNat % 64 := by
  rw [List.take_add_one, h]
  simp [acc8, List.foldl_append]
theorem most8_lt (n : Nat) : ∀ k, least8 n k ≤ most8 n k ∧ most8 n k + 1 = (n + 1) * 64 ^ k
  | 0 => by simp [most8, least8]
  | k + 1 => by
    obtain ⟨h1, h2⟩ := most8_lt n k
    have e : (n + 1) * 64 ^ (k + 1) = 64 * ((n + 1) * 64 ^ k) := by rw [Nat.pow_succ, Nat.mul_comm (64 ^ k) 64, ← Nat.mul_assoc, ← Nat.mul_assoc, Nat.mul_comm (n + 1) 64]
    simp only [most8, least8]
    omega
theorem most8_le (n k : Nat) (h : n < 67108864) (hk : k ≤ 3) : least8 n k ≤ most8 n k ∧ most8 n k < 17592186044416 := by
  obtain ⟨h1, h2⟩ := most8_lt n k
  have h3 : (n + 1) * 64 ^ k ≤ 67108864 * 64 ^ 3 := Nat.mul_le_mul h (Nat.pow_le_pow_right (by decide) hk)
  omega
end Go.Proofs.YteingkjdemlhgaaGreatDoor.M

/-
  UTF-8: the document's inner loop tells the same as the program's first.
-/
namespace Go.Proofs.YteingkjdemlhgaaGreatDoor.M
open Go
theorem go8_at : ∀ (m : Nat) (p : Bs) (i n lo hi : Int), p.length ≤ m → ((go8 m p i n lo hi).2.1 = i + p.length ↔ (∀ b t, p = b :: t → lo ≤ (b.toNat : Int) ∧ (b.toNat : Int) ≤ hi) ∧ ∀ b ∈ p.tail, 128 ≤ b.toNat ∧ b.toNat ≤ 191)
  | 0, p, i, n, lo, hi, h => by
    have : p = [] := List.eq_nil_of_length_eq_zero (by omega)
    subst this
    simp [go8]
  | m + 1, [], i, n, lo, hi, _ => by simp [go8]
  | m + 1, b :: t, i, n, lo, hi, h => by
    have hlen : t.length ≤ m := by simpa using h
    by_cases hb : (b.toNat : Int) < lo ∨ hi < (b.toNat : Int)
    · rw [go8, if_pos hb]
      constructor
      · intro hh
        simp only [List.length_cons] at hh
        omega
      · rintro ⟨hh, _⟩
        have := hh b t rfl
        omega
    · have ih := go8_at m t (i + 1) (n * 64 + (b.toNat : Int) % 64) 128 191 hlen
      rw [go8, if_neg hb]
      have e : i + ((b :: t).length : Int) = i + 1 + (t.length : Int) := by simp only [List.length_cons]; omega
      rw [e, ih]
      constructor
      · rintro ⟨h1, h2⟩
        refine ⟨fun b' t' hh => ?_, fun b' hb' => ?_⟩
        · injection hh with h3 h4
          subst h3
          omega
        · rw [List.tail_cons] at hb'
          cases t with
          | nil => cases hb'
          | cons x y =>
            rcases List.mem_cons.1 hb' with rfl | hb'
            · have := h1 b' y rfl; omega
            · exact h2 b' hb'
      · rintro ⟨h1, h2⟩
        rw [List.tail_cons] at h2
        exact ⟨fun b' t' hh => by have := h2 b' (by rw [hh]; simp); omega, fun b' hb' => h2 b' (List.mem_of_mem_tail hb')⟩
theorem go8_prefix : ∀ (m : Nat) (l : Bs) (i n lo hi : Int) (K : Nat), (go8 m l i n lo hi).2.1 = i + K → ∀ j, j ≤ K → (go8 m (l.take j) i n lo hi).2.1 = i + j
  | 0, l, i, n, lo, hi, K, h, j, hj => by
    simp only [go8] at h ⊢
    have : j = 0 := by omega
    subst this
    simp
  | m + 1, [], i, n, lo, hi, K, h, j, hj => by
    simp only [go8] at h
    have : j = 0 := by omega
    subst this
    simp [go8]
  | m + 1, b :: t, i, n, lo, hi, K, h, j, hj => by
    cases j with
    | zero => simp [go8]
    | succ j =>
      rw [List.take_succ_cons, go8]
      rw [go8] at h
      split at h
      · simp only at h; omega
      · rename_i hb
        rw [if_neg hb]
        have := go8_prefix m t (i + 1) _ 128 191 (K - 1) (by rw [h]; omega) j (by omega)
        rw [this]
        omega
theorem lead8_lohi (c : Nat) (h : 1 ≤ (lead8 c).1) : 128 ≤ (lead8 c).2.2.1 ∧ (lead8 c).2.2.2 ≤ 191 := by
  revert h
  unfold lead8
  (repeat' split) <;> intro h <;> simp at h ⊢
theorem ok8_first8 (c : UInt8) (p : Bs) (h0 : 0 ≤ (lead8 c.toNat).1) (h : (p.length : Int) ≤ (lead8 c.toNat).1) : ok8 c p = true ↔ (first8 (c :: p)).2.1 = p.length + 1 := by
  rw [first8, if_neg (by omega)]
  have hg := go8_at (lead8 c.toNat).1.toNat p 1 (lead8 c.toNat).2.1 (lead8 c.toNat).2.2.1 (lead8 c.toNat).2.2.2 (by omega)
  rw [Int.add_comm, hg]
  cases p with
  | nil => simp [ok8, h0]
  | cons b t =>
    have hl := lead8_lohi c.toNat (by simp only [List.length_cons] at h; omega)
    simp only [ok8, Bool.and_eq_true, decide_eq_true_eq, List.all_eq_true, List.tail_cons, List.mem_cons, forall_eq_or_imp, cont8]
    constructor
    · rintro ⟨⟨⟨_, _⟩, _, h2⟩, h3⟩
      refine ⟨fun b' t' hh => ?_, h2⟩
      injection hh with h4 h5
      subst h4
      exact h3
    · rintro ⟨h1, h2⟩
      have := h1 b t rfl
      exact ⟨⟨⟨h0, h⟩, by omega, h2⟩, this⟩
theorem go8_mono : ∀ (m : Nat) (l : Bs) (i n lo hi : Int) (j : Nat), j ≤ l.length → (go8 m (l.take j) i n lo hi).2.1 = i + j → i + j ≤ (go8 m l i n lo hi).2.1
  | 0, l, i, n, lo, hi, j, _, h => by simp only [go8] at h ⊢; omega
  | m + 1, [], i, n, lo, hi, j, hj, h => by
    simp at hj
    subst hj
    simp [go8]
  | m + 1, b :: t, i, n, lo, hi, j, hj, h => by
    cases j with
    | zero =>
      have := (go8_bounds (m + 1) (b :: t) i n lo hi).1
      simpa using this
    | succ j =>
      rw [List.take_succ_cons, go8] at h
      rw [go8]
      split at h
      · simp only at h; omega
      · rename_i hb
        rw [if_neg hb]
        have := go8_mono m t (i + 1) (n * 64 + (b.toNat : Int) % 64) 128 191 j (by simpa using hj) (by rw [h]; omega)
        omega
theorem first8_go (c : UInt8) (t : Bs) (h0 : 0 ≤ (lead8 c.toNat).1) : first8 (c :: t) = go8 (lead8 c.toNat).1.toNat t 1 (lead8 c.toNat).2.1 (lead8 c.toNat).2.2.1 (lead8 c.toNat).2.2.2 := by
  rw [first8, if_neg (by omega)]
/-- What stands ahead of the end is a beginning; what goes one further is none. -/
theorem inner_ok (c : UInt8) (t : Bs) (K j : Nat) (h0 : 0 ≤ (lead8 c.toNat).1) (hK : (first8 (c :: t)).2.1 = K) (hj : j + 1 ≤ K) (hl : (j : Int) ≤ (lead8 c.toNat).1) : ok8 c (t.take j) = true := by
  have hb := (first8_bounds c t).2
  rw [hK] at hb
  have hlen : (t.take j).length = j := by rw [List.length_take]; simp only [List.length_cons] at hb; omega
  rw [ok8_first8 c _ h0 (by rw [hlen]; exact hl), hlen, first8_go c _ h0]
  rw [first8_go c t h0] at hK
  rw [go8_prefix _ t 1 _ _ _ (K - 1) (by rw [hK]; omega) j (by omega)]
  omega
theorem inner_no (c : UInt8) (t : Bs) (K : Nat) (h0 : 0 ≤ (lead8 c.toNat).1) (hK : (first8 (c :: t)).2.1 = K) (hl : (K : Int) ≤ (lead8 c.toNat).1) (ht : K ≤ t.length) : ok8 c (t.take K) = false := by
  have hlen : (t.take K).length = K := by rw [List.length_take]; omega
  rw [← Bool.not_eq_true, ok8_first8 c _ h0 (by rw [hlen]; exact hl), hlen, first8_go c _ h0]
  rw [first8_go c t h0] at hK
  intro hh
  have := go8_mono _ t 1 (lead8 c.toNat).2.1 (lead8 c.toNat).2.2.1 (lead8 c.toNat).2.2.2 K ht (by rw [hh]; omega)
  omega
end Go.Proofs.YteingkjdemlhgaaGreatDoor.M

/-
  UTF-8: one round of the document's decoder, in all its ways.
-/
namespace Go.Proofs.YteingkjdemlhgaaGreatDoor.M
open Go
def val8 (c : UInt8) (p : Bs) : Int := if c.toNat < 128 then (c.toNat : Int) else (acc8 c p : Nat)
theorem lead8_val (c : Nat) (hc : c < 256) (h : 0 ≤ (lead8 c).1) : (c < 128 ∧ lead8 c = (0, (c : Int), 0, 0)) ∨ (128 ≤ c ∧ len8 c ≠ 0 ∧ (lead8 c).2.1 = ((c % (256 / 2 ^ (len8 c + 1)) : Nat) : Int)) := by
  by_cases h0 : c < 128
  · exact .inl ⟨h0, by rw [lead8, if_pos h0]⟩
  · refine .inr ⟨by omega, ?_⟩
    have hn : ¬ (c < 194 ∨ 244 < c) := by
      intro hh
      rw [lead8, if_neg h0, if_pos hh] at h
      exact absurd h (by decide)
    have h3 : len8 c ≠ 0 := by
      unfold len8
      (repeat' split) <;> omega
    refine ⟨h3, ?_⟩
    obtain ⟨v, lo, hi, hl, hcl⟩ := lead8_class c h3
    unfold lead8
    rcases hcl with ⟨g1, g2, g3, _⟩ | ⟨g1, g3, _⟩ | ⟨g1, g3, _⟩ | ⟨g1, g2, g4, g3, _⟩ | ⟨g1, g3, _⟩ | ⟨g1, g3, _⟩ | ⟨g1, g2, g3, _⟩
    all_goals
      rw [g3]
      (repeat' split) <;> first | (exfalso; omega) | (simp; done) | (simp; omega)
theorem fold8_int : ∀ (p : Bs) (n : Nat), p.foldl (fun n b => n * 64 + (b.toNat : Int) % 64) (n : Int) = ((p.foldl (fun n b => 64 * n + b.toNat % 64) n : Nat) : Int)
  | [], n => rfl
  | b :: t, n => by
    rw [List.foldl_cons, List.foldl_cons, ← fold8_int t]
    congr 1
    omega
theorem go8_whole : ∀ (m : Nat) (l : Bs) (i n lo hi : Int), (go8 m l i n lo hi).2.2 = true → (go8 m l i n lo hi).2.1 = i + m → m ≤ l.length ∧ (go8 m l i n lo hi).1 = (l.take m).foldl (fun n b => n * 64 + (b.toNat : Int) % 64) n
  | 0, l, i, n, lo, hi, _, _ => by simp [go8]
  | m + 1, [], i, n, lo, hi, h, _ => by simp [go8] at h
  | m + 1, b :: t, i, n, lo, hi, h, h2 => by
    rw [go8] at h h2 ⊢
    split at h
    · rename_i hb
      rw [if_pos hb] at h2
      simp only at h2
      omega
    · rename_i hb
      rw [if_neg hb] at h2 ⊢
      obtain ⟨h3, h4⟩ := go8_whole m t (i + 1) _ 128 191 h (by rw [h2]; omega)
      exact ⟨by simp only [List.length_cons]; omega, by rw [h4, List.take_succ_cons, List.foldl_cons]⟩
/-- What a sequence that ends early tells. -/
theorem go8_early : ∀ (m : Nat) (l : Bs) (i n lo hi : Int), (∃ r, go8 m l i n lo hi = (r, i + m, true)) ∨ (∃ K : Nat, K < m ∧ K < l.length ∧ go8 m l i n lo hi = (65533, i + K, true)) ∨ (l.length < m ∧ go8 m l i n lo hi = (65533, i + l.length, false))
  | 0, l, i, n, lo, hi => .inl ⟨n, by simp [go8]⟩
  | m + 1, [], i, n, lo, hi => .inr (.inr ⟨by simp, by simp [go8]⟩)
  | m + 1, b :: t, i, n, lo, hi => by
    by_cases hb : (b.toNat : Int) < lo ∨ hi < (b.toNat : Int)
    · exact .inr (.inl ⟨0, by omega, by simp, by rw [go8, if_pos hb]; simp⟩)
    · rw [go8, if_neg hb]
      rcases go8_early m t (i + 1) (n * 64 + (b.toNat : Int) % 64) 128 191 with ⟨r, h⟩ | ⟨K, h1, h2, h⟩ | ⟨h1, h⟩
      · exact .inl ⟨r, by rw [h]; simp only [Prod.mk.injEq, and_true, true_and]; omega⟩
      · exact .inr (.inl ⟨K + 1, by omega, by simpa using h2, by rw [h]; simp only [Prod.mk.injEq, and_true, true_and]; omega⟩)
      · exact .inr (.inr ⟨by simpa using h1, by rw [h]; simp only [Prod.mk.injEq, and_true, true_and, List.length_cons]; omega⟩)
theorem round8 (c : UInt8) (t : Bs) :
    ((lead8 c.toNat).1 = -1 ∧ ok8 c [] = false ∧ first8 (c :: t) = (65533, 1, true)) ∨
    (∃ m K : Nat, (lead8 c.toNat).1 = m ∧ 1 ≤ K ∧ K ≤ m + 1 ∧ K ≤ t.length + 1 ∧ m ≤ 3 ∧ (∀ j, j < K → ok8 c (t.take j) = true) ∧
      ((K = m + 1 ∧ first8 (c :: t) = (val8 c (t.take m), ((m + 1 : Nat) : Int), true)) ∨
       (K ≤ m ∧ K < t.length + 1 ∧ ok8 c (t.take K) = false ∧ first8 (c :: t) = (65533, (K : Int), true)) ∨
       (K ≤ m ∧ K = t.length + 1 ∧ first8 (c :: t) = (65533, (K : Int), false)))) := by
  rcases lead8_bounds c.toNat with h | ⟨h0, h3, _⟩
  · exact .inl ⟨h, by simp [ok8, h], by rw [first8, if_pos (by rw [h]; decide)]⟩
  · obtain ⟨m, hm⟩ := Int.eq_ofNat_of_zero_le h0
    have hgo := first8_go c t h0
    have hlen := (first8_bounds c t).2
    have key : ∀ K : Nat, (first8 (c :: t)).2.1 = K → K ≤ m + 1 → ∀ j, j < K → ok8 c (t.take j) = true := fun K hK hle j hj =>
      inner_ok c t K j h0 hK (by omega) (by rw [hm]; omega)
    have hmt : (lead8 c.toNat).1.toNat = m := by rw [hm]; simp
    rw [hmt] at hgo
    rcases go8_early m t 1 (lead8 c.toNat).2.1 (lead8 c.toNat).2.2.1 (lead8 c.toNat).2.2.2 with ⟨r, hr⟩ | ⟨K, h1, h2, hr⟩ | ⟨h1, hr⟩
    · have hf : first8 (c :: t) = (r, ((m + 1 : Nat) : Int), true) := by rw [hgo, hr]; simp only [Prod.mk.injEq, and_true, true_and]; omega
      obtain ⟨hw1, hw2⟩ := go8_whole m t 1 _ _ _ (by rw [hr]) (by rw [hr])
      rw [hr] at hw2
      simp only at hw2
      refine .inr ⟨m, m + 1, hm, by omega, by omega, by omega, by omega, key _ (by rw [hf]) (by omega), .inl ⟨rfl, ?_⟩⟩
      rw [hf, hw2]
      congr 1
      rcases lead8_val c.toNat c.toNat_lt h0 with ⟨g1, g2⟩ | ⟨g1, g2, g3⟩
      · have hm0 : m = 0 := by rw [g2] at hm; simp only at hm; omega
        subst hm0
        rw [val8, if_pos g1, g2]
        rfl
      · rw [val8, if_neg (by omega), g3, fold8_int]
        rfl
    · have hf : first8 (c :: t) = (65533, ((K + 1 : Nat) : Int), true) := by rw [hgo, hr]; simp only [Prod.mk.injEq, and_true, true_and]; omega
      exact .inr ⟨m, K + 1, hm, by omega, by omega, by omega, by omega, key _ (by rw [hf]) (by omega), .inr (.inl ⟨by omega, by omega, inner_no c t (K + 1) h0 (by rw [hf]) (by rw [hm]; omega) (by omega), hf⟩)⟩
    · have hf : first8 (c :: t) = (65533, ((t.length + 1 : Nat) : Int), false) := by rw [hgo, hr]; simp only [Prod.mk.injEq, and_true, true_and]; omega
      exact .inr ⟨m, t.length + 1, hm, by omega, by omega, by omega, by omega, key _ (by rw [hf]) (by omega), .inr (.inr ⟨by omega, rfl, hf⟩)⟩
end Go.Proofs.YteingkjdemlhgaaGreatDoor.M

/-
  UTF-16, in plain functions and laws.
-/
namespace Go.Proofs.YteingkjdemlhgaaGreatDoor.M
open Go
def unit16 (big : Bool) (a b : UInt8) : Int := if big then 256 * (a.toNat : Int) + (b.toNat : Int) else (a.toNat : Int) + 256 * (b.toNat : Int)
def isHi (n : Int) : Bool := decide (55296 ≤ n ∧ n ≤ 56319)
def isLo (n : Int) : Bool := decide (56320 ≤ n ∧ n ≤ 57343)
def pair16 (n m : Int) : Int := 65536 + 1024 * (n - 55296) + (m - 56320)
def told16 (big : Bool) : Bs → List Int × Bs
  | [] => ([], [])
  | [a] => ([], [a])
  | [a, b] => if isHi (unit16 big a b) = true then ([], [a, b]) else ([if isLo (unit16 big a b) = true then 65533 else unit16 big a b], [])
  | [a, b, c] => if isHi (unit16 big a b) = true then ([], [a, b, c]) else ([if isLo (unit16 big a b) = true then 65533 else unit16 big a b], [c])
  | a :: b :: c :: d :: u =>
    if isHi (unit16 big a b) = true then
      (if isLo (unit16 big c d) = true then (pair16 (unit16 big a b) (unit16 big c d) :: (told16 big u).1, (told16 big u).2) else (65533 :: (told16 big (c :: d :: u)).1, (told16 big (c :: d :: u)).2))
    else ((if isLo (unit16 big a b) = true then 65533 else unit16 big a b) :: (told16 big (c :: d :: u)).1, (told16 big (c :: d :: u)).2)
def all16 (big : Bool) (s : Bs) : List Int := if (told16 big s).2 = [] then (told16 big s).1 else (told16 big s).1 ++ [65533]
theorem unit16_le (big : Bool) (a b : UInt8) : 0 ≤ unit16 big a b ∧ unit16 big a b ≤ 65535 := by
  have := a.toNat_lt; have := b.toNat_lt
  unfold unit16; split <;> omega
/-- What one unit that begins none of two tells. -/
def one16 (n : Int) : Int := if isLo n = true then 65533 else n
theorem told16_nil (big : Bool) : told16 big [] = ([], []) := by rw [told16]
theorem told16_one (big : Bool) (a : UInt8) : told16 big [a] = ([], [a]) := by rw [told16]
theorem told16_plain (big : Bool) (a b : UInt8) (t : Bs) (h : isHi (unit16 big a b) = false) : told16 big (a :: b :: t) = (one16 (unit16 big a b) :: (told16 big t).1, (told16 big t).2) := by
  match t with
  | [] => rw [told16_nil, told16, if_neg (by rw [h]; decide)]; rfl
  | [c] => rw [told16_one, told16, if_neg (by rw [h]; decide)]; rfl
  | c :: d :: u => rw [told16, if_neg (by rw [h]; decide)]; rfl
theorem told16_wait (big : Bool) (a b : UInt8) (t : Bs) (h : isHi (unit16 big a b) = true) (ht : t.length < 2) : told16 big (a :: b :: t) = ([], a :: b :: t) := by
  match t, ht with
  | [], _ => rw [told16, if_pos h]
  | [c], _ => rw [told16, if_pos h]
  | c :: d :: u, ht => simp only [List.length_cons] at ht; omega
theorem told16_two (big : Bool) (a b c d : UInt8) (u : Bs) (h : isHi (unit16 big a b) = true) (h2 : isLo (unit16 big c d) = true) : told16 big (a :: b :: c :: d :: u) = (pair16 (unit16 big a b) (unit16 big c d) :: (told16 big u).1, (told16 big u).2) := by
  rw [told16, if_pos h, if_pos h2]
theorem told16_lone (big : Bool) (a b c d : UInt8) (u : Bs) (h : isHi (unit16 big a b) = true) (h2 : isLo (unit16 big c d) = false) : told16 big (a :: b :: c :: d :: u) = (65533 :: (told16 big (c :: d :: u)).1, (told16 big (c :: d :: u)).2) := by
  rw [told16, if_pos h, if_neg (by rw [h2]; decide)]
theorem all16_cons (big : Bool) (s : Bs) (n : Int) (u : Bs) (h : told16 big s = (n :: (told16 big u).1, (told16 big u).2)) : all16 big s = n :: all16 big u := by
  rw [all16, h, all16]; split <;> rfl
theorem all16_nil (big : Bool) : all16 big [] = [] := by rw [all16, told16_nil]; rfl
theorem all16_wait (big : Bool) (s : Bs) (hs : s ≠ []) (h : told16 big s = ([], s)) : all16 big s = [65533] := by
  rw [all16, h, if_neg hs]; rfl
/-- The ways of a text of two bytes or more. -/
theorem say16 (big : Bool) (a b : UInt8) (t : Bs) :
    (isHi (unit16 big a b) = false ∧ told16 big (a :: b :: t) = (one16 (unit16 big a b) :: (told16 big t).1, (told16 big t).2)) ∨
    (isHi (unit16 big a b) = true ∧ t.length < 2 ∧ told16 big (a :: b :: t) = ([], a :: b :: t)) ∨
    (∃ c d u, t = c :: d :: u ∧ isHi (unit16 big a b) = true ∧ isLo (unit16 big c d) = true ∧ told16 big (a :: b :: t) = (pair16 (unit16 big a b) (unit16 big c d) :: (told16 big u).1, (told16 big u).2)) ∨
    (∃ c d u, t = c :: d :: u ∧ isHi (unit16 big a b) = true ∧ isLo (unit16 big c d) = false ∧ told16 big (a :: b :: t) = (65533 :: (told16 big t).1, (told16 big t).2)) := by
  cases h : isHi (unit16 big a b) with
  | false => exact .inl ⟨rfl, told16_plain big a b t h⟩
  | true =>
    match t with
    | [] => exact .inr (.inl ⟨rfl, by simp, told16_wait big a b [] h (by simp)⟩)
    | [c] => exact .inr (.inl ⟨rfl, by simp, told16_wait big a b [c] h (by simp)⟩)
    | c :: d :: u =>
      cases h2 : isLo (unit16 big c d) with
      | false => exact .inr (.inr (.inr ⟨c, d, u, rfl, rfl, h2, told16_lone big a b c d u h h2⟩))
      | true => exact .inr (.inr (.inl ⟨c, d, u, rfl, rfl, h2, told16_two big a b c d u h h2⟩))
theorem told16_len (big : Bool) : ∀ (k : Nat) (s : Bs), s.length ≤ k → 2 * (told16 big s).1.length + (told16 big s).2.length ≤ s.length ∧ (told16 big s).2.length ≤ 3
  | _, [], _ => by simp [told16_nil]
  | _, [a], _ => by simp [told16_one]
  | 0, _ :: _ :: _, h => by simp at h
  | k + 1, a :: b :: t, h => by
    simp only [List.length_cons] at h
    rcases say16 big a b t with ⟨_, e⟩ | ⟨_, h2, e⟩ | ⟨c, d, u, rfl, _, _, e⟩ | ⟨c, d, u, rfl, _, _, e⟩
    · obtain ⟨h1, h2⟩ := told16_len big k t (by omega)
      rw [e]; simp only [List.length_cons]; omega
    · rw [e]; simp only [List.length_cons, List.length_nil]; omega
    · simp only [List.length_cons] at h
      obtain ⟨h1, h2⟩ := told16_len big k u (by omega)
      rw [e]; simp only [List.length_cons]; omega
    · obtain ⟨h1, h2⟩ := told16_len big k (c :: d :: u) (by omega)
      rw [e]; simp only [List.length_cons] at h1 ⊢; omega
theorem all16_len (big : Bool) (s : Bs) : (all16 big s).length ≤ s.length := by
  obtain ⟨h1, _⟩ := told16_len big _ s (Nat.le_refl _)
  unfold all16
  split
  · omega
  · rename_i hr
    have : (told16 big s).2.length ≠ 0 := fun h => hr (List.eq_nil_of_length_eq_zero h)
    rw [List.length_append, List.length_singleton]; omega
theorem one16_scalar (n : Int) (h0 : 0 ≤ n) (h1 : n ≤ 65535) (h : isHi n = false) : scalar (one16 n) = true := by
  unfold one16
  split
  · decide
  · rename_i h2
    simp only [isHi, isLo, decide_eq_true_eq, decide_eq_false_iff_not] at h h2
    simp only [scalar, decide_eq_true_eq]; omega
theorem all16_scalar (big : Bool) : ∀ (k : Nat) (s : Bs), s.length ≤ k → ∀ n ∈ all16 big s, scalar n = true
  | _, [], _ => by simp [all16_nil]
  | _, [a], _ => by rw [all16_wait big [a] (by simp) (told16_one big a)]; simp [scalar]
  | 0, _ :: _ :: _, h => by simp at h
  | k + 1, a :: b :: t, h => by
    simp only [List.length_cons] at h
    obtain ⟨u0, u1⟩ := unit16_le big a b
    rcases say16 big a b t with ⟨h0, e⟩ | ⟨_, h2, e⟩ | ⟨c, d, u, rfl, h1, h2, e⟩ | ⟨c, d, u, rfl, _, _, e⟩
    · rw [all16_cons big _ _ _ e]
      simp only [List.mem_cons, forall_eq_or_imp]
      exact ⟨one16_scalar _ u0 u1 h0, all16_scalar big k t (by omega)⟩
    · rw [all16_wait big _ (by simp) e]; simp [scalar]
    · simp only [List.length_cons] at h
      rw [all16_cons big _ _ _ e]
      simp only [List.mem_cons, forall_eq_or_imp]
      refine ⟨?_, all16_scalar big k u (by omega)⟩
      simp only [isHi, isLo, decide_eq_true_eq] at h1 h2
      rw [scalar, decide_eq_true_eq, pair16]; omega
    · rw [all16_cons big _ _ _ e]
      simp only [List.mem_cons, forall_eq_or_imp]
      exact ⟨by decide, all16_scalar big k (c :: d :: u) (by omega)⟩
/-! ## What is encoded is decoded as it was -/
/-! ## Turned two by two -/
/-! ## Where a text may be cut -/
end Go.Proofs.YteingkjdemlhgaaGreatDoor.M

/-
  Signs that are shifted, in plain functions and laws.
-/
namespace Go.Proofs.YteingkjdemlhgaaGreatDoor.M
open Go
def signK (g : Int) (c : Nat) : Int :=
  if g = 2 ∧ 33 ≤ c ∧ c ≤ 95 then 65344 + (c : Int) else if g = 2 ∨ 128 ≤ c ∨ c = 14 ∨ c = 15 ∨ c = 27 then 65533 else if g = 1 ∧ c = 92 then 165 else if g = 1 ∧ c = 126 then 8254 else (c : Int)
def escK (x : UInt8) : Option Int := if x = 66 then some 0 else if x = 74 then some 1 else if x = 73 then some 2 else none
def headK : Bs → Option Int
  | d :: x :: _ => if d = 40 then escK x else none
  | _ => none
def waitK (t : Bs) : Bool := decide (t = [] ∨ t = [40])
def toldK (last : Bool) (g : Int) (f : Bool) : Bs → List Int × Int × Bool × Bs
  | [] => ([], g, f, [])
  | [c] => if c = 27 then (if last = true then ([65533], g, false, []) else ([], g, f, [c])) else ([signK g c.toNat], g, false, [])
  | [c, d] => if c = 27 then (if d = 40 ∧ last = false then ([], g, f, [c, d]) else (65533 :: (toldK last g false [d]).1, (toldK last g false [d]).2)) else (signK g c.toNat :: (toldK last g false [d]).1, (toldK last g false [d]).2)
  | c :: d :: x :: u => if c = 27 then
      (match (if d = 40 then escK x else none) with
        | some k => ((if f = true then [65533] else []) ++ (toldK last k true u).1, (toldK last k true u).2)
        | none => (65533 :: (toldK last g false (d :: x :: u)).1, (toldK last g false (d :: x :: u)).2))
      else (signK g c.toNat :: (toldK last g false (d :: x :: u)).1, (toldK last g false (d :: x :: u)).2)
def allK (s : Bs) : List Int := (toldK true 0 false s).1
theorem toldK_nil (last : Bool) (g : Int) (f : Bool) : toldK last g f [] = ([], g, f, []) := by rw [toldK]
theorem toldK_sign (last : Bool) (g : Int) (f : Bool) (c : UInt8) (t : Bs) (h : c ≠ 27) : toldK last g f (c :: t) = (signK g c.toNat :: (toldK last g false t).1, (toldK last g false t).2) := by
  match t with
  | [] => rw [toldK_nil, toldK, if_neg h]
  | [d] => conv => lhs; rw [toldK, if_neg h]
  | d :: x :: u => conv => lhs; rw [toldK, if_neg h]
theorem toldK_esc (last : Bool) (g k : Int) (f : Bool) (t : Bs) (h : headK t = some k) : toldK last g f (27 :: t) = ((if f = true then [65533] else []) ++ (toldK last k true (t.drop 2)).1, (toldK last k true (t.drop 2)).2) := by
  match t, h with
  | [], h => cases h
  | [d], h => cases h
  | d :: x :: u, h =>
    rw [headK] at h
    rw [toldK, if_pos rfl, h]
    rfl
theorem toldK_wait (g : Int) (f : Bool) (t : Bs) (h : waitK t = true) : toldK false g f (27 :: t) = ([], g, f, 27 :: t) := by
  simp only [waitK, decide_eq_true_eq] at h
  rcases h with rfl | rfl
  · rw [toldK, if_pos rfl]; simp
  · rw [toldK, if_pos rfl]; simp
theorem toldK_bad (last : Bool) (g : Int) (f : Bool) (t : Bs) (h : headK t = none) (h2 : waitK t = false ∨ last = true) : toldK last g f (27 :: t) = (65533 :: (toldK last g false t).1, (toldK last g false t).2) := by
  simp only [waitK, decide_eq_false_iff_not] at h2
  match t, h, h2 with
  | [], h, h2 =>
    have : last = true := by simpa using h2
    subst this
    rw [toldK_nil, toldK, if_pos rfl]; simp
  | [d], h, h2 =>
    conv => lhs; rw [toldK, if_pos rfl]
    rw [if_neg]
    rintro ⟨rfl, rfl⟩
    simp at h2
  | d :: x :: u, h, _ =>
    rw [headK] at h
    conv => lhs; rw [toldK, if_pos rfl, h]
/-- The four ways. -/
theorem sayK (last : Bool) (g : Int) (f : Bool) (c : UInt8) (t : Bs) :
    (c ≠ 27 ∧ toldK last g f (c :: t) = (signK g c.toNat :: (toldK last g false t).1, (toldK last g false t).2)) ∨
    (c = 27 ∧ ∃ k x u, t = 40 :: x :: u ∧ escK x = some k ∧ headK t = some k ∧ toldK last g f (c :: t) = ((if f = true then [65533] else []) ++ (toldK last k true u).1, (toldK last k true u).2)) ∨
    (c = 27 ∧ waitK t = true ∧ headK t = none ∧ last = false ∧ toldK last g f (c :: t) = ([], g, f, c :: t)) ∨
    (c = 27 ∧ headK t = none ∧ (waitK t = false ∨ last = true) ∧ toldK last g f (c :: t) = (65533 :: (toldK last g false t).1, (toldK last g false t).2)) := by
  by_cases hc : c = 27
  · subst hc
    cases h : headK t with
    | some k =>
      have he := toldK_esc last g k f t h
      match t, h with
      | [], h => cases h
      | [d], h => cases h
      | d :: x :: u, h =>
        have h0 := h
        rw [headK] at h
        split at h
        · rename_i hd
          subst hd
          exact .inr (.inl ⟨rfl, k, x, u, rfl, h, rfl, he⟩)
        · cases h
    | none =>
      by_cases hw : waitK t = true ∧ last = false
      · obtain ⟨hw, rfl⟩ := hw
        exact .inr (.inr (.inl ⟨rfl, hw, rfl, rfl, toldK_wait g f t hw⟩))
      · have h2 : waitK t = false ∨ last = true := by
          cases hq : waitK t <;> cases last <;> simp_all
        exact .inr (.inr (.inr ⟨rfl, rfl, h2, toldK_bad last g f t h h2⟩))
  · exact .inl ⟨hc, toldK_sign last g f c t hc⟩
/-- What is left. -/
theorem toldK_rest (last : Bool) : ∀ (k : Nat) (s : Bs) (g : Int) (f : Bool), s.length ≤ k → (toldK last g f s).1.length + (toldK last g f s).2.2.2.length ≤ s.length ∧ ((toldK last g f s).2.2.2 = [] ∨ last = false ∧ ∃ t, waitK t = true ∧ (toldK last g f s).2.2.2 = 27 :: t)
  | _, [], g, f, _ => by simp [toldK_nil]
  | 0, _ :: _, _, _, h => by simp at h
  | k + 1, c :: t, g, f, h => by
    simp only [List.length_cons] at h
    rcases sayK last g f c t with ⟨_, e⟩ | ⟨rfl, q, x, u, rfl, _, _, e⟩ | ⟨rfl, h1, _, h2, e⟩ | ⟨rfl, _, _, e⟩
    · obtain ⟨i1, i2⟩ := toldK_rest last k t g false (by omega)
      rw [e]; exact ⟨by simp only [List.length_cons]; omega, i2⟩
    · simp only [List.length_cons] at h
      obtain ⟨i1, i2⟩ := toldK_rest last k u q true (by omega)
      rw [e]
      refine ⟨?_, i2⟩
      rw [List.length_append]
      have : (if f = true then [(65533 : Int)] else []).length ≤ 1 := by split <;> simp
      simp only [List.length_cons]; omega
    · rw [e]; exact ⟨by simp, .inr ⟨h2, t, h1, rfl⟩⟩
    · obtain ⟨i1, i2⟩ := toldK_rest last k t g false (by omega)
      rw [e]; exact ⟨by simp only [List.length_cons]; omega, i2⟩
theorem headK_app (t b : Bs) (h : waitK t = false) : headK (t ++ b) = headK t ∧ waitK (t ++ b) = false := by
  simp only [waitK, decide_eq_false_iff_not] at h ⊢
  match t, h with
  | [], h => simp at h
  | [d], h =>
    have hd : d ≠ 40 := by simpa using h
    constructor
    · cases b with
      | nil => rfl
      | cons x y => show (if d = 40 then escK x else none) = none; rw [if_neg hd]
    · simp [hd]
  | d :: x :: u, h => exact ⟨rfl, by simp⟩
/-- Two parts: the second one goes on where the first one stopped. -/
theorem toldK_app (last : Bool) : ∀ (k : Nat) (a b : Bs) (g : Int) (f : Bool), a.length ≤ k → toldK last g f (a ++ b) = ((toldK false g f a).1 ++ (toldK last (toldK false g f a).2.1 (toldK false g f a).2.2.1 ((toldK false g f a).2.2.2 ++ b)).1, (toldK last (toldK false g f a).2.1 (toldK false g f a).2.2.1 ((toldK false g f a).2.2.2 ++ b)).2)
  | _, [], b, g, f, _ => by simp [toldK_nil]
  | 0, _ :: _, _, _, _, h => by simp at h
  | k + 1, c :: t, b, g, f, h => by
    simp only [List.length_cons] at h
    rw [List.cons_append]
    rcases sayK false g f c t with ⟨h0, e⟩ | ⟨rfl, q, x, u, rfl, h1, _, e⟩ | ⟨rfl, h1, _, h2, e⟩ | ⟨rfl, h1, h2, e⟩
    · rw [toldK_sign last g f c _ h0, toldK_app last k t b g false (by omega), e]
      rfl
    · simp only [List.length_cons] at h
      rw [e, List.cons_append, List.cons_append, toldK_esc last g q f (40 :: x :: (u ++ b)) (by rw [headK, if_pos rfl, h1])]
      rw [show (40 :: x :: (u ++ b)).drop 2 = u ++ b from rfl, toldK_app last k u b q true (by omega)]
      simp
    · rw [e]; simp
    · have hw : waitK t = false := by simpa using h2
      obtain ⟨e1, e2⟩ := headK_app t b hw
      rw [toldK_bad last g f _ (by rw [e1]; exact h1) (.inl e2), toldK_app last k t b g false (by omega), e]
      rfl
/-- Which texts wait. -/
theorem waits_iff (s : Bs) (g : Int) (f : Bool) : toldK false g f s = ([], g, f, s) ↔ s = [] ∨ s = [27] ∨ s = [27, 40] := by
  constructor
  · intro h
    cases s with
    | nil => exact .inl rfl
    | cons c t =>
      rcases sayK false g f c t with ⟨_, e⟩ | ⟨rfl, q, x, u, rfl, _, _, e⟩ | ⟨rfl, h1, _, h2, e⟩ | ⟨rfl, _, _, e⟩
      · rw [h] at e; cases e
      · have := (toldK_rest false _ u q true (Nat.le_refl _)).1
        rw [h] at e
        have e4 := congrArg (fun r => r.2.2.2.length) e
        simp only [List.length_cons] at e4
        omega
      · simp only [waitK, decide_eq_true_eq] at h1
        rcases h1 with rfl | rfl <;> simp
      · rw [h] at e; cases e
  · rintro (rfl | rfl | rfl)
    · rw [toldK_nil]
    · exact toldK_wait g f [] rfl
    · exact toldK_wait g f [40] rfl
theorem signK_scalar (g : Int) (c : Nat) : scalar (signK g c) = true := by
  unfold signK
  (repeat' split) <;> simp only [scalar, decide_eq_true_eq] <;> omega
theorem toldK_scalar (last : Bool) : ∀ (k : Nat) (s : Bs) (g : Int) (f : Bool), s.length ≤ k → ∀ n ∈ (toldK last g f s).1, scalar n = true
  | _, [], g, f, _ => by simp [toldK_nil]
  | 0, _ :: _, _, _, h => by simp at h
  | k + 1, c :: t, g, f, h => by
    simp only [List.length_cons] at h
    rcases sayK last g f c t with ⟨_, e⟩ | ⟨rfl, q, x, u, rfl, _, _, e⟩ | ⟨rfl, h1, _, h2, e⟩ | ⟨rfl, _, _, e⟩
    · rw [e]; simp only [List.mem_cons, forall_eq_or_imp]; exact ⟨signK_scalar _ _, toldK_scalar last k t g false (by omega)⟩
    · simp only [List.length_cons] at h
      rw [e]
      intro n hn
      rw [List.mem_append] at hn
      rcases hn with hn | hn
      · split at hn
        · simp at hn; subst hn; decide
        · cases hn
      · exact toldK_scalar last k u q true (by omega) n hn
    · rw [e]; simp
    · rw [e]; simp only [List.mem_cons, forall_eq_or_imp]; exact ⟨by decide, toldK_scalar last k t g false (by omega)⟩
/-! ## The other way -/
def byteK (g n : Int) : Int := if n = 65533 then -1 else match (List.range 128).find? (fun c => signK g c == n) with | some c => (c : Int) | none => -1
def findK (now n : Int) : Int := if 0 ≤ byteK now n then now else if 0 ≤ byteK 0 n then 0 else if 0 ≤ byteK 1 n then 1 else if 0 ≤ byteK 2 n then 2 else -1
def escB (g : Int) : UInt8 := if g = 0 then 66 else if g = 1 then 74 else 73
def shiftB (now g : Int) : Bs := if g = now then [] else [27, 40, escB g]
def encK (now : Int) : List Int → Option Bs
  | [] => some (shiftB now 0)
  | n :: l => if findK now n < 0 then none else (encK (findK now n) l).map (shiftB now (findK now n) ++ UInt8.ofNat (byteK (findK now n) n).toNat :: ·)
def rawK (l : List Int) : Bs × Int := match encK 0 l with | some b => (b, 0) | none => ([], 5)
def hasK (n : Int) : Bool := decide (0 ≤ findK 0 n)
theorem byteK_cases (g n : Int) : (byteK g n = -1 ∧ ∀ c, c < 128 → n = 65533 ∨ signK g c ≠ n) ∨ ∃ c : Nat, c < 128 ∧ byteK g n = (c : Int) ∧ signK g c = n ∧ n ≠ 65533 ∧ c ≠ 27 ∧ ∀ j, j < c → signK g j ≠ n := by
  unfold byteK
  split
  · exact .inl ⟨rfl, fun c _ => .inl (by assumption)⟩
  · rename_i hn
    split
    · rename_i c hc
      obtain ⟨h1, as1, bs, h2, h3⟩ := List.find?_eq_some_iff_append.1 hc
      have hlt : c < 128 := by
        have := List.mem_of_find?_eq_some hc
        simpa using this
      have hs : signK g c = n := by simpa using h1
      refine .inr ⟨c, hlt, rfl, hs, hn, ?_, fun j hj => ?_⟩
      · rintro rfl
        apply hn
        rw [← hs]
        unfold signK
        rw [if_neg (by omega), if_pos (by simp)]
      · have hlen : as1.length = c := by
          have h4 : (List.range 128)[as1.length]? = some c := by rw [h2]; simp
          rw [List.getElem?_range (by
            have := congrArg List.length h2
            simp at this; omega)] at h4
          injection h4
        have h5 : (List.range 128)[j]? = some j := List.getElem?_range (by omega)
        rw [h2, List.getElem?_append_left (by omega)] at h5
        have := h3 j (List.mem_of_getElem? h5)
        simpa using this
    · rename_i hc
      refine .inl ⟨rfl, fun c hlt => .inr ?_⟩
      rw [List.find?_eq_none] at hc
      simpa using hc c (by simpa using hlt)
theorem findK_cases (now n : Int) : findK now n = -1 ∨ ((findK now n = now ∨ findK now n = 0 ∨ findK now n = 1 ∨ findK now n = 2) ∧ 0 ≤ byteK (findK now n) n) := by
  unfold findK
  (repeat' split) <;> simp [*]
theorem escB_esc (g : Int) (h : g = 0 ∨ g = 1 ∨ g = 2) : escK (escB g) = some g := by
  rcases h with rfl | rfl | rfl <;> rfl
theorem toldK_shift (last : Bool) (now g : Int) (u : Bs) (hg : g = 0 ∨ g = 1 ∨ g = 2) : ∃ f, toldK last now false (shiftB now g ++ u) = toldK last g f u := by
  unfold shiftB
  split
  · rename_i h
    subst h
    exact ⟨false, rfl⟩
  · refine ⟨true, ?_⟩
    rw [show ([27, 40, escB g] ++ u : Bs) = 27 :: (40 :: escB g :: u) from rfl, toldK_esc last now g false _ (by rw [headK, if_pos rfl, escB_esc g hg])]
    simp
theorem toldK_enc (last : Bool) : ∀ (l : List Int) (now : Int) (b : Bs), (now = 0 ∨ now = 1 ∨ now = 2) → encK now l = some b → ∃ f, ∀ u, toldK last now false (b ++ u) = (l ++ (toldK last 0 f u).1, (toldK last 0 f u).2)
  | [], now, b, h, hb => by
    rw [encK] at hb
    injection hb with hb
    subst hb
    unfold shiftB
    split
    · rename_i h0
      subst h0
      exact ⟨false, fun u => by simp⟩
    · refine ⟨true, fun u => ?_⟩
      rw [show ([27, 40, escB 0] ++ u : Bs) = 27 :: (40 :: escB 0 :: u) from rfl, toldK_esc last now 0 false _ (by rw [headK, if_pos rfl, escB_esc 0 (.inl rfl)])]
      simp
  | n :: l, now, b, h, hb => by
    rw [encK] at hb
    split at hb
    · cases hb
    · rename_i hf
      rcases findK_cases now n with h1 | ⟨h1, h2⟩
      · omega
      · have hg : findK now n = 0 ∨ findK now n = 1 ∨ findK now n = 2 := by omega
        generalize findK now n = g at hb hf h1 h2 hg
        cases hr : encK g l with
        | none => rw [hr] at hb; cases hb
        | some r =>
          rw [hr] at hb
          injection hb with hb
          subst hb
          rcases byteK_cases g n with ⟨h3, _⟩ | ⟨c, hc, h3, h4, h5, h6, _⟩
          · omega
          · rw [h3, Int.toNat_natCast]
            have hcn : (UInt8.ofNat c).toNat = c := UInt8.toNat_ofNat_of_lt' (show c < 256 by omega)
            obtain ⟨f, hf2⟩ := toldK_enc last l g r hg hr
            refine ⟨f, fun u => ?_⟩
            obtain ⟨f1, e⟩ := toldK_shift last now g (UInt8.ofNat c :: (r ++ u)) hg
            rw [List.append_assoc, List.cons_append, e, toldK_sign last g f1 _ _ (by intro hh; apply h6; rw [← hcn, hh]; rfl), hf2 u, hcn, h4]
            rfl
theorem allK_enc (l : List Int) (b : Bs) (h : encK 0 l = some b) : allK b = l ∧ allK (b ++ [92]) = l ++ [92] := by
  obtain ⟨f, hf⟩ := toldK_enc true l 0 b (.inl rfl) h
  constructor
  · have := hf []
    rw [List.append_nil] at this
    rw [allK, this, toldK_nil]
    simp
  · rw [allK, hf [92], toldK_sign true 0 f 92 [] (by decide), toldK_nil]
    rfl
theorem signK_plain (c : Nat) (h : c < 128 ∧ c ≠ 14 ∧ c ≠ 15 ∧ c ≠ 27) : signK 0 c = (c : Int) := by
  unfold signK
  rw [if_neg (by omega), if_neg (by omega), if_neg (by omega), if_neg (by omega)]
theorem byteK_plain (c : Nat) (h : c < 128 ∧ c ≠ 14 ∧ c ≠ 15 ∧ c ≠ 27) : byteK 0 (c : Int) = (c : Int) := by
  rcases byteK_cases 0 (c : Int) with ⟨_, h2⟩ | ⟨d, hd, h1, h2, h3, h4, h5⟩
  · rcases h2 c h.1 with h3 | h3
    · omega
    · exact absurd (signK_plain c h) h3
  · rw [h1]
    have : signK 0 d = (d : Int) ∨ signK 0 d = 65533 := by
      unfold signK
      rw [if_neg (by omega)]
      split
      · exact .inr rfl
      · rw [if_neg (by omega), if_neg (by omega)]; exact .inl rfl
    omega
/-! ## Escapes -/
/-! ## Steps of the walks -/
theorem byteK_hit (g n : Int) (k : Nat) (h : ∀ j, j < k → n = 65533 ∨ signK g j ≠ n) (hk : k < 128) (hs : signK g k = n) (hn : n ≠ 65533) : byteK g n = (k : Int) := by
  rcases byteK_cases g n with ⟨_, h2⟩ | ⟨c, hc, h1, h2, _, _, h5⟩
  · rcases h2 k hk with h3 | h3
    · exact absurd h3 hn
    · exact absurd hs h3
  · rw [h1]
    have h6 : ¬ c < k := fun hck => by
      rcases h c hck with h7 | h7
      · exact hn h7
      · exact h7 h2
    have h7 : ¬ k < c := fun hkc => h5 k hkc hs
    omega
theorem byteK_miss (g n : Int) (h : ∀ j, j < 128 → n = 65533 ∨ signK g j ≠ n) : byteK g n = -1 := by
  rcases byteK_cases g n with ⟨h1, _⟩ | ⟨c, hc, h1, h2, h3, _, h5⟩
  · exact h1
  · rcases h c hc with h4 | h4
    · exact absurd h4 h3
    · exact absurd h2 h4
theorem byteK_or (g n : Int) : byteK g n = -1 ∨ ∃ c : Nat, c < 128 ∧ byteK g n = (c : Int) ∧ c ≠ 27 := by
  rcases byteK_cases g n with ⟨h1, _⟩ | ⟨c, hc, h1, _, _, h4, _⟩
  · exact .inl h1
  · exact .inr ⟨c, hc, h1, h4⟩
theorem findK_or (now n : Int) : (findK now n = -1 ∧ byteK now n = -1 ∧ byteK 0 n = -1 ∧ byteK 1 n = -1 ∧ byteK 2 n = -1) ∨
    (∃ g c, findK now n = g ∧ (g = now ∨ g = 0 ∨ g = 1 ∨ g = 2) ∧ byteK g n = ((c : Nat) : Int) ∧ c < 128 ∧ c ≠ 27) := by
  have key : ∀ g, 0 ≤ byteK g n → ∃ c : Nat, byteK g n = (c : Int) ∧ c < 128 ∧ c ≠ 27 := fun g h => by
    rcases byteK_or g n with h1 | ⟨c, h1, h2, h3⟩
    · omega
    · exact ⟨c, h2, h1, h3⟩
  have neg : ∀ g, ¬ 0 ≤ byteK g n → byteK g n = -1 := fun g h => by
    rcases byteK_or g n with h1 | ⟨c, _, h2, _⟩
    · exact h1
    · omega
  unfold findK
  split
  · rename_i h
    obtain ⟨c, h1, h2, h3⟩ := key _ h
    exact .inr ⟨now, c, rfl, .inl rfl, h1, h2, h3⟩
  · rename_i h0
    split
    · rename_i h
      obtain ⟨c, h1, h2, h3⟩ := key _ h
      exact .inr ⟨0, c, rfl, .inr (.inl rfl), h1, h2, h3⟩
    · rename_i h1
      split
      · rename_i h
        obtain ⟨c, h1, h2, h3⟩ := key _ h
        exact .inr ⟨1, c, rfl, .inr (.inr (.inl rfl)), h1, h2, h3⟩
      · rename_i h2
        split
        · rename_i h
          obtain ⟨c, h1, h2, h3⟩ := key _ h
          exact .inr ⟨2, c, rfl, .inr (.inr (.inr rfl)), h1, h2, h3⟩
        · rename_i h3
          exact .inl ⟨rfl, neg _ h0, neg _ h1, neg _ h2, neg _ h3⟩
theorem encK_step (now g n : Int) (c : Nat) (l : List Int) (acc : Bs) (hf : findK now n = g) (hg : 0 ≤ g) (hb : byteK g n = (c : Int)) : (encK now (n :: l)).map (acc ++ ·) = (encK g l).map ((acc ++ shiftB now g ++ [UInt8.ofNat c]) ++ ·) := by
  rw [encK, hf, if_neg (by omega), hb, Int.toNat_natCast]
  cases encK g l <;> simp
theorem shiftB_len (now g : Int) : (shiftB now g).length ≤ 3 := by unfold shiftB; split <;> simp
end Go.Proofs.YteingkjdemlhgaaGreatDoor.M

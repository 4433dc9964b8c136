/-
  UTF-8, in plain functions: what is encoded is decoded as it was; where a text may be cut.
-/
import Derived.Test.YthaoohckgilahaaDoorPlainUtf8
namespace Go.Proofs.YthaoohckgilahaaDoor.M
open Go

theorem u8ofNat (a : UInt8) (n : Nat) (h : a.toNat = n) : UInt8.ofNat n = a := by subst h; exact UInt8.ofNat_toNat
/-- The three ways of a sequence that is begun. -/
theorem go8_say : ∀ (m : Nat) (l : Bs) (i n lo hi : Int),
    (∃ p u, l = p ++ u ∧ p.length = m ∧ (∀ b t, p = b :: t → lo ≤ (b.toNat : Int) ∧ (b.toNat : Int) ≤ hi) ∧ (∀ b ∈ p.tail, 128 ≤ b.toNat ∧ b.toNat ≤ 191) ∧
      ∀ u', go8 m (p ++ u') i n lo hi = (p.foldl (fun n b => n * 64 + (b.toNat : Int) % 64) n, i + m, true)) ∨
    (∃ p b u, l = p ++ b :: u ∧ p.length < m ∧ (∀ u', go8 m (p ++ b :: u') i n lo hi = (65533, i + p.length, true)) ∧ go8 m p i n lo hi = (65533, i + p.length, false)) ∨
    (l.length < m ∧ go8 m l i n lo hi = (65533, i + l.length, false))
  | 0, l, i, n, lo, hi => .inl ⟨[], l, rfl, rfl, (fun _ _ h => by cases h), (fun _ h => by cases h), fun u' => by simp [go8]⟩
  | m + 1, [], i, n, lo, hi => .inr (.inr ⟨by simp, by simp [go8]⟩)
  | m + 1, b :: t, i, n, lo, hi => by
    by_cases h : (b.toNat : Int) < lo ∨ hi < (b.toNat : Int)
    · refine .inr (.inl ⟨[], b, t, rfl, by simp, fun u' => ?_, ?_⟩)
      · rw [List.nil_append, go8, if_pos h]; simp
      · simp [go8]
    · rcases go8_say m t (i + 1) (n * 64 + (b.toNat : Int) % 64) 128 191 with ⟨p, u, rfl, hp, h1, h2, h3⟩ | ⟨p, c, u, rfl, hp, h1, h2⟩ | ⟨hl, h1⟩
      · refine .inl ⟨b :: p, u, rfl, by simp [hp], fun b' t' hh => ?_, fun b' hb' => ?_, fun u' => ?_⟩
        · injection hh with h4 h5
          subst h4
          omega
        · rw [List.tail_cons] at hb'
          cases p with
          | nil => cases hb'
          | cons x y =>
            rcases List.mem_cons.1 hb' with rfl | hb'
            · have := h1 b' y rfl; omega
            · exact h2 b' hb'
        · rw [List.cons_append, go8, if_neg h, h3]
          simp only [List.foldl_cons, Prod.mk.injEq, and_true, true_and]
          omega
      · refine .inr (.inl ⟨b :: p, c, u, rfl, by simp; omega, fun u' => ?_, ?_⟩)
        · rw [List.cons_append, go8, if_neg h, h1]
          simp only [List.length_cons, Prod.mk.injEq, and_true, true_and]
          omega
        · rw [go8, if_neg h, h2]
          simp only [List.length_cons, Prod.mk.injEq, and_true, true_and]
          omega
      · refine .inr (.inr ⟨by simp; omega, ?_⟩)
        rw [go8, if_neg h, h1]
        simp only [List.length_cons, Prod.mk.injEq, and_true, true_and]
        omega
set_option maxHeartbeats 4000000 in
/-- A sequence that is whole: what it tells is told by itself. -/
theorem whole8 (c : UInt8) (p : Bs) (h0 : ¬ (lead8 c.toNat).1 < 0) (hp : p.length = (lead8 c.toNat).1.toNat)
    (h1 : ∀ b t, p = b :: t → (lead8 c.toNat).2.2.1 ≤ (b.toNat : Int) ∧ (b.toNat : Int) ≤ (lead8 c.toNat).2.2.2) (h2 : ∀ b ∈ p.tail, 128 ≤ b.toNat ∧ b.toNat ≤ 191) :
    scalar (p.foldl (fun n b => n * 64 + (b.toNat : Int) % 64) (lead8 c.toNat).2.1) = true ∧ row8 (p.foldl (fun n b => n * 64 + (b.toNat : Int) % 64) (lead8 c.toNat).2.1) = c :: p := by
  have hc := c.toNat_lt
  have key : ∀ (m : Nat) (n lo hi : Int), lead8 c.toNat = ((m : Int), n, lo, hi) → p.length = m → (∀ b t, p = b :: t → lo ≤ (b.toNat : Int) ∧ (b.toNat : Int) ≤ hi) →
      scalar (p.foldl (fun n b => n * 64 + (b.toNat : Int) % 64) n) = true ∧ row8 (p.foldl (fun n b => n * 64 + (b.toNat : Int) % 64) n) = c :: p := by
    intro m n lo hi hl hp h1
    unfold lead8 at hl
    have fin1 : ∀ a : Nat, 128 ≤ a → a ≤ 191 → 0 ≤ ((a : Int) % 64) ∧ (a : Int) % 64 = (a : Int) - 128 := by omega
    match p, hp, h1, h2 with
    | [], hp, _, _ =>
      have hm : m = 0 := by simpa using hp.symm
      subst hm
      (repeat' split at hl) <;> simp only [Prod.mk.injEq] at hl <;> try omega
      obtain ⟨_, rfl, _⟩ := hl
      refine ⟨by simp [scalar]; omega, ?_⟩
      rw [List.foldl_nil, row8, if_pos (by omega), Int.toNat_natCast, UInt8.ofNat_toNat]
    | [b], hp, h1, _ =>
      have hm : m = 1 := by simpa using hp.symm
      subst hm
      have hb := h1 b [] rfl
      have hb2 := b.toNat_lt
      simp only [List.foldl_cons, List.foldl_nil]
      (repeat' split at hl) <;> simp only [Prod.mk.injEq] at hl <;> try omega
      obtain ⟨_, rfl, rfl, rfl⟩ := hl
      refine ⟨by unfold scalar; rw [decide_eq_true_eq]; omega, ?_⟩
      rw [row8, if_neg (by omega), if_pos (by omega), u8ofNat c _ (by omega), u8ofNat b _ (by omega)]
    | [b, d], hp, h1, h2 =>
      have hm : m = 2 := by simpa using hp.symm
      subst hm
      have hb := h1 b [d] rfl
      have hb2 := b.toNat_lt
      have hd := h2 d (by simp)
      simp only [List.foldl_cons, List.foldl_nil]
      (repeat' split at hl) <;> simp only [Prod.mk.injEq] at hl <;> try omega
      all_goals
        obtain ⟨_, rfl, rfl, rfl⟩ := hl
        refine ⟨by unfold scalar; rw [decide_eq_true_eq]; omega, ?_⟩
        rw [row8, if_neg (by omega), if_neg (by omega), if_pos (by omega), u8ofNat c _ (by omega), u8ofNat b _ (by omega), u8ofNat d _ (by omega)]
    | [b, d, e], hp, h1, h2 =>
      have hm : m = 3 := by simpa using hp.symm
      subst hm
      have hb := h1 b [d, e] rfl
      have hb2 := b.toNat_lt
      have hd := h2 d (by simp)
      have he := h2 e (by simp)
      simp only [List.foldl_cons, List.foldl_nil]
      (repeat' split at hl) <;> simp only [Prod.mk.injEq] at hl <;> try omega
      all_goals
        obtain ⟨_, rfl, rfl, rfl⟩ := hl
        refine ⟨by unfold scalar; rw [decide_eq_true_eq]; omega, ?_⟩
        rw [row8, if_neg (by omega), if_neg (by omega), if_neg (by omega), u8ofNat c _ (by omega), u8ofNat b _ (by omega), u8ofNat d _ (by omega), u8ofNat e _ (by omega)]
    | b :: d :: e :: f :: t, hp, _, _ =>
      exfalso
      simp only [List.length_cons] at hp
      (repeat' split at hl) <;> simp only [Prod.mk.injEq] at hl <;> omega
  rcases lead8_bounds c.toNat with h | ⟨h3, _⟩
  · omega
  · refine key (lead8 c.toNat).1.toNat _ _ _ ?_ hp h1
    rw [Int.toNat_of_nonneg h3]
theorem u8to (k : Nat) (h : k < 256) : (UInt8.ofNat k).toNat = k := UInt8.toNat_ofNat_of_lt' h
theorem row8_cons (n : Int) : ∃ c t, row8 n = c :: t := by unfold row8; (repeat' split) <;> exact ⟨_, _, rfl⟩
theorem first8_lead (c : UInt8) (t : Bs) (m : Nat) (v lo hi : Int) (h : lead8 c.toNat = ((m : Int), v, lo, hi)) : first8 (c :: t) = go8 m t 1 v lo hi := by
  rw [first8, h, if_neg (show ¬ ((m : Int) < 0) by omega)]
  rfl
theorem first8_row (n : Int) (h : scalar n = true) (u : Bs) : first8 (row8 n ++ u) = (n, ((row8 n).length : Int), true) := by
  have h' : 0 ≤ n ∧ n ≤ 1114111 ∧ (n < 55296 ∨ 57343 < n) := by simpa [scalar] using h
  obtain ⟨m, rfl⟩ := Int.eq_ofNat_of_zero_le h'.1
  clear h
  by_cases g1 : m < 128
  · have hr : row8 (m : Int) = [UInt8.ofNat m] := by rw [row8, if_pos (by omega), Int.toNat_natCast]
    have hx := u8to m (by omega)
    have hl : lead8 (UInt8.ofNat m).toNat = (0, (m : Int), 0, 0) := by rw [hx, lead8, if_pos g1]
    rw [hr, List.singleton_append, first8_lead _ _ 0 _ _ _ hl]
    rfl
  · by_cases g2 : m < 2048
    · have hr : row8 (m : Int) = [UInt8.ofNat (192 + m / 64), UInt8.ofNat (128 + m % 64)] := by rw [row8, if_neg (by omega), if_pos (by omega), Int.toNat_natCast]
      have hx := u8to (192 + m / 64) (by omega)
      have hy := u8to (128 + m % 64) (by omega)
      have hl : lead8 (UInt8.ofNat (192 + m / 64)).toNat = (1, ((m / 64 : Nat) : Int), 128, 191) := by
        rw [hx, lead8, if_neg (by omega), if_neg (by omega), if_pos (by omega)]; simp only [Prod.mk.injEq, and_true, true_and]; omega
      rw [hr, List.cons_append, List.singleton_append, first8_lead _ _ 1 _ _ _ hl]
      rw [go8, if_neg (by rw [hy]; omega), go8, hy]
      simp only [List.length_cons, List.length_nil, Prod.mk.injEq, and_true]
      omega
    · by_cases g3 : m < 65536
      · have hr : row8 (m : Int) = [UInt8.ofNat (224 + m / 4096), UInt8.ofNat (128 + m / 64 % 64), UInt8.ofNat (128 + m % 64)] := by rw [row8, if_neg (by omega), if_neg (by omega), if_pos (by omega), Int.toNat_natCast]
        have hx := u8to (224 + m / 4096) (by omega)
        have hy := u8to (128 + m / 64 % 64) (by omega)
        have hz := u8to (128 + m % 64) (by omega)
        obtain ⟨lo, hi, hl, hlo, hhi⟩ : ∃ lo hi : Int, lead8 (224 + m / 4096) = (2, ((m / 4096 : Nat) : Int), lo, hi) ∧ lo ≤ ((128 + m / 64 % 64 : Nat) : Int) ∧ ((128 + m / 64 % 64 : Nat) : Int) ≤ hi := by
          unfold lead8
          rw [if_neg (by omega), if_neg (by omega), if_neg (by omega)]
          split
          · exact ⟨160, 191, by simp only [Prod.mk.injEq, and_true, true_and]; omega, by omega, by omega⟩
          · split
            · exact ⟨128, 159, by simp only [Prod.mk.injEq, and_true, true_and]; omega, by omega, by omega⟩
            · rw [if_pos (by omega)]
              exact ⟨128, 191, by simp only [Prod.mk.injEq, and_true, true_and]; omega, by omega, by omega⟩
        rw [hr, List.cons_append, List.cons_append, List.singleton_append, first8_lead _ _ 2 _ _ _ (by rw [hx]; exact hl)]
        rw [go8, if_neg (by rw [hy]; omega), go8, if_neg (by rw [hz]; omega), go8, hy, hz]
        simp only [List.length_cons, List.length_nil, Prod.mk.injEq, and_true]
        omega
      · have hr : row8 (m : Int) = [UInt8.ofNat (240 + m / 262144), UInt8.ofNat (128 + m / 4096 % 64), UInt8.ofNat (128 + m / 64 % 64), UInt8.ofNat (128 + m % 64)] := by rw [row8, if_neg (by omega), if_neg (by omega), if_neg (by omega), Int.toNat_natCast]
        have hx := u8to (240 + m / 262144) (by omega)
        have hw := u8to (128 + m / 4096 % 64) (by omega)
        have hy := u8to (128 + m / 64 % 64) (by omega)
        have hz := u8to (128 + m % 64) (by omega)
        obtain ⟨lo, hi, hl, hlo, hhi⟩ : ∃ lo hi : Int, lead8 (240 + m / 262144) = (3, ((m / 262144 : Nat) : Int), lo, hi) ∧ lo ≤ ((128 + m / 4096 % 64 : Nat) : Int) ∧ ((128 + m / 4096 % 64 : Nat) : Int) ≤ hi := by
          unfold lead8
          rw [if_neg (by omega), if_neg (by omega), if_neg (by omega), if_neg (by omega), if_neg (by omega), if_neg (by omega)]
          split
          · exact ⟨144, 191, by simp only [Prod.mk.injEq, and_true, true_and]; omega, by omega, by omega⟩
          · split
            · exact ⟨128, 143, by simp only [Prod.mk.injEq, and_true, true_and]; omega, by omega, by omega⟩
            · exact ⟨128, 191, by simp only [Prod.mk.injEq, and_true, true_and]; omega, by omega, by omega⟩
        rw [hr, List.cons_append, List.cons_append, List.cons_append, List.singleton_append, first8_lead _ _ 3 _ _ _ (by rw [hx]; exact hl)]
        rw [go8, if_neg (by rw [hw]; omega), go8, if_neg (by rw [hy]; omega), go8, if_neg (by rw [hz]; omega), go8, hw, hy, hz]
        simp only [List.length_cons, List.length_nil, Prod.mk.injEq, and_true]
        omega
theorem first8_say (c : UInt8) (t : Bs) :
    (∃ n u, scalar n = true ∧ c :: t = row8 n ++ u) ∨
    (∃ p u, c :: t = p ++ u ∧ 1 ≤ p.length ∧ p.length ≤ 3 ∧ first8 (p ++ u) = (65533, (p.length : Int), true) ∧ ∀ u', u = [] ∨ u' = [] ∨ u'.head? = u.head? → ∃ b, first8 (p ++ u') = (65533, (p.length : Int), b) ∧ (b = false → u' = [])) ∨
    ((c :: t).length ≤ 3 ∧ first8 (c :: t) = (65533, ((c :: t).length : Int), false)) := by
  by_cases h0 : (lead8 c.toNat).1 < 0
  · refine .inr (.inl ⟨[c], t, rfl, by simp, by simp, ?_, fun u' _ => ⟨true, ?_, fun h => by cases h⟩⟩)
    · rw [List.singleton_append, first8, if_pos h0]; rfl
    · rw [List.singleton_append, first8, if_pos h0]; rfl
  · have hm : (lead8 c.toNat).1.toNat ≤ 3 := by
      rcases lead8_bounds c.toNat with h | h
      · omega
      · omega
    rcases go8_say (lead8 c.toNat).1.toNat t 1 (lead8 c.toNat).2.1 (lead8 c.toNat).2.2.1 (lead8 c.toNat).2.2.2 with ⟨p, u, rfl, hp, h1, h2, _⟩ | ⟨p, b, u, rfl, hp, h1, h2⟩ | ⟨hl, h1⟩
    · obtain ⟨hs, hr⟩ := whole8 c p h0 hp h1 h2
      exact .inl ⟨_, u, hs, by rw [hr]; rfl⟩
    · refine .inr (.inl ⟨c :: p, b :: u, rfl, by simp, by simp; omega, ?_, fun u' hu' => ?_⟩)
      · rw [List.cons_append, first8, if_neg h0, h1]
        simp only [List.length_cons, Prod.mk.injEq, and_true, true_and]
        omega
      · rcases hu' with hu' | rfl | hu'
        · cases hu'
        · refine ⟨false, ?_, fun _ => rfl⟩
          rw [List.append_nil, first8, if_neg h0, h2]
          simp only [List.length_cons, Prod.mk.injEq, and_true, true_and]
          omega
        · cases u' with
          | nil => cases hu'
          | cons b' u' =>
            simp only [List.head?_cons, Option.some.injEq] at hu'
            subst hu'
            refine ⟨true, ?_, fun h => by cases h⟩
            rw [List.cons_append, first8, if_neg h0, h1]
            simp only [List.length_cons, Prod.mk.injEq, and_true, true_and]
            omega
    · refine .inr (.inr ⟨by simp only [List.length_cons]; omega, ?_⟩)
      rw [first8, if_neg h0, h1]
      simp only [List.length_cons, Prod.mk.injEq, and_true, true_and]
      omega
theorem told8_row (n : Int) (h : scalar n = true) (u : Bs) : told8 (row8 n ++ u) = (n :: (told8 u).1, (told8 u).2) := by
  have hf := first8_row n h u
  obtain ⟨c, t, hc⟩ := row8_cons n
  rw [hc, List.cons_append] at hf ⊢
  rw [told8_ok c (t ++ u) (by rw [hf]), hf]
  rw [Int.toNat_natCast, ← List.cons_append, List.drop_left]
theorem all8_row (n : Int) (h : scalar n = true) (u : Bs) : all8 (row8 n ++ u) = n :: all8 u := by
  rw [all8, told8_row n h, all8]
  split <;> rfl
theorem all8_nil : all8 [] = [] := rfl
theorem all8_wait (s : Bs) (k : Int) (hs : s ≠ []) (h : first8 s = (65533, k, false)) : told8 s = ([], s) ∧ all8 s = [65533] := by
  cases s with
  | nil => exact absurd rfl hs
  | cons c t =>
    have h1 := told8_no c t (by rw [h])
    exact ⟨h1, by rw [all8, h1, if_neg (by simp)]; rfl⟩
theorem all8_bad (p u : Bs) (hp : 1 ≤ p.length) (h : first8 (p ++ u) = (65533, (p.length : Int), true)) : told8 (p ++ u) = (65533 :: (told8 u).1, (told8 u).2) ∧ all8 (p ++ u) = 65533 :: all8 u := by
  cases p with
  | nil => simp at hp
  | cons c t =>
    have h1 : told8 (c :: t ++ u) = (65533 :: (told8 u).1, (told8 u).2) := by
      rw [List.cons_append] at h ⊢
      rw [told8_ok c (t ++ u) (by rw [h]), h]
      rw [Int.toNat_natCast, ← List.cons_append, List.drop_left]
    refine ⟨h1, ?_⟩
    rw [all8, h1, all8]
    split <;> rfl
theorem all8_say (c : UInt8) (t : Bs) :
    (∃ n u, scalar n = true ∧ c :: t = row8 n ++ u ∧ all8 (c :: t) = n :: all8 u) ∨
    (∃ p u, c :: t = p ++ u ∧ 1 ≤ p.length ∧ p.length ≤ 3 ∧ told8 (c :: t) = (65533 :: (told8 u).1, (told8 u).2) ∧ all8 (c :: t) = 65533 :: all8 u ∧ ∀ u', u = [] ∨ u' = [] ∨ u'.head? = u.head? → all8 (p ++ u') = 65533 :: all8 u') ∨
    ((c :: t).length ≤ 3 ∧ told8 (c :: t) = ([], c :: t) ∧ all8 (c :: t) = [65533]) := by
  rcases first8_say c t with ⟨n, u, hn, hu⟩ | ⟨p, u, hu, hp, hp3, hf, hall⟩ | ⟨hl, hf⟩
  · exact .inl ⟨n, u, hn, hu, by rw [hu, all8_row n hn]⟩
  · refine .inr (.inl ⟨p, u, hu, hp, hp3, by rw [hu]; exact (all8_bad p u hp hf).1, by rw [hu]; exact (all8_bad p u hp hf).2, fun u' hu' => ?_⟩)
    obtain ⟨b, h1, h2⟩ := hall u' hu'
    cases b with
    | true => exact (all8_bad p u' hp h1).2
    | false =>
      obtain rfl := h2 rfl
      rw [List.append_nil] at h1 ⊢
      rw [(all8_wait p _ (by intro h; rw [h] at hp; simp at hp) h1).2, all8_nil]
  · exact .inr (.inr ⟨hl, (all8_wait _ _ (by simp) hf).1, (all8_wait _ _ (by simp) hf).2⟩)
theorem row8_len (n : Int) : 1 ≤ (row8 n).length ∧ (row8 n).length ≤ 4 := by unfold row8; (repeat' split) <;> simp
/-- What is encoded is decoded as it was. -/
theorem all8_bytes : ∀ l : List Int, (∀ n ∈ l, scalar n = true) → all8 (bytes8 l) = l
  | [], _ => rfl
  | n :: l, h => by
    have : bytes8 (n :: l) = row8 n ++ bytes8 l := rfl
    rw [this, all8_row n (h n (by simp)), all8_bytes l (fun x hx => h x (by simp [hx]))]
/-- What is decoded without a Bad is encoded as it was. -/
theorem bytes8_all : ∀ (k : Nat) (s : Bs), s.length ≤ k → 65533 ∉ all8 s → bytes8 (all8 s) = s
  | _, [], _, _ => rfl
  | 0, _ :: _, h, _ => by simp at h
  | k + 1, c :: t, h, hb => by
    rcases all8_say c t with ⟨n, u, hn, hu, ha⟩ | ⟨p, u, _, _, _, _, ha, _⟩ | ⟨_, _, ha⟩
    · rw [ha] at hb ⊢
      have hl := row8_len n
      have hul : u.length ≤ k := by
        have := congrArg List.length hu
        rw [List.length_append] at this
        omega
      have : bytes8 (n :: all8 u) = row8 n ++ bytes8 (all8 u) := rfl
      rw [this, bytes8_all k u hul (fun h => hb (by simp [h])), hu]
    · rw [ha] at hb; simp at hb
    · rw [ha] at hb; simp at hb
theorem all8_many : ∀ (k : Nat) (s : Bs), s.length ≤ k → (all8 s).length ≤ s.length ∧ s.length ≤ 4 * (all8 s).length ∧ ∀ n ∈ all8 s, scalar n = true
  | _, [], _ => by simp [all8_nil]
  | 0, _ :: _, h => by simp at h
  | k + 1, c :: t, h => by
    rcases all8_say c t with ⟨n, u, hn, hu, ha⟩ | ⟨p, u, hu, hp, hp3, _, ha, _⟩ | ⟨hl, _, ha⟩
    · have hl := row8_len n
      have hul := congrArg List.length hu
      rw [List.length_append] at hul
      obtain ⟨h1, h2, h3⟩ := all8_many k u (by omega)
      rw [ha]
      refine ⟨by rw [List.length_cons (a := n)]; omega, by rw [List.length_cons (a := n)]; omega, fun x hx => ?_⟩
      rcases List.mem_cons.1 hx with rfl | hx
      · exact hn
      · exact h3 x hx
    · have hul := congrArg List.length hu
      rw [List.length_append] at hul
      obtain ⟨h1, h2, h3⟩ := all8_many k u (by omega)
      rw [ha]
      refine ⟨by rw [List.length_cons (a := 65533)]; omega, by rw [List.length_cons (a := 65533)]; omega, fun x hx => ?_⟩
      rcases List.mem_cons.1 hx with rfl | hx
      · rfl
      · exact h3 x hx
    · rw [ha]
      refine ⟨by simp, by simp only [List.length_cons, List.length_nil] at hl ⊢; omega, fun x hx => ?_⟩
      rw [List.mem_singleton] at hx
      subst hx
      rfl
/-- Where nothing is left a text may be cut. -/
theorem told8_cut : ∀ (k : Nat) (s : Bs), s.length ≤ k → ∃ a, s = a ++ (told8 s).2 ∧ (told8 s).2.length ≤ 3 ∧ all8 a = (told8 s).1 ∧ (∀ t, all8 (s ++ t) = (told8 s).1 ++ all8 ((told8 s).2 ++ t)) ∧ ((told8 s).2 ≠ [] → all8 (told8 s).2 = [65533])
  | _, [], _ => ⟨[], by simp [told8_nil], by simp [told8_nil], rfl, fun t => by simp [told8_nil], fun h => absurd rfl h⟩
  | 0, _ :: _, h => by simp at h
  | k + 1, c :: t, h => by
    rcases all8_say c t with ⟨n, u, hn, hu, ha⟩ | ⟨p, u, hu, hp, hp3, ht, ha, hall⟩ | ⟨hl, ht, ha⟩
    · have hl := row8_len n
      have hul := congrArg List.length hu
      rw [List.length_append] at hul
      obtain ⟨a, h1, h2, h3, h4, h5⟩ := told8_cut k u (by omega)
      have ht : told8 (c :: t) = (n :: (told8 u).1, (told8 u).2) := by rw [hu, told8_row n hn]
      rw [ht]
      refine ⟨row8 n ++ a, ?_, h2, ?_, fun t' => ?_, h5⟩
      · rw [List.append_assoc, ← h1]; exact hu
      · rw [all8_row n hn, h3]
      · rw [hu, List.append_assoc, all8_row n hn, h4]; rfl
    · have hul := congrArg List.length hu
      rw [List.length_append] at hul
      obtain ⟨a, h1, h2, h3, h4, h5⟩ := told8_cut k u (by omega)
      rw [ht]
      refine ⟨p ++ a, ?_, h2, ?_, fun t' => ?_, h5⟩
      · rw [List.append_assoc, ← h1]; exact hu
      · rw [hall a, h3]
        cases a with
        | nil => exact .inr (.inl rfl)
        | cons x y => rw [h1]; exact .inr (.inr rfl)
      · rw [hu, List.append_assoc, hall (u ++ t'), h4]
        · rfl
        · cases u with
          | nil => exact .inl rfl
          | cons x y => exact .inr (.inr rfl)
    · rw [ht]
      exact ⟨[], rfl, hl, rfl, fun t' => rfl, fun _ => ha⟩
end Go.Proofs.YthaoohckgilahaaDoor.M

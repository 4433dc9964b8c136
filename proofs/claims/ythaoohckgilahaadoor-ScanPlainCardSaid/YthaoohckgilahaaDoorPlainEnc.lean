/-
  Code points as bytes, in plain functions and laws.
-/
import Derived.Test.YthaoohckgilahaaDoorPlainStream
import Derived.Test.YthaoohckgilahaaDoorPlainMap
import Derived.Lib.ItoaNum
namespace Go.Proofs.YthaoohckgilahaaDoor.M
open Go

def outE (n : Int) : Int := if n = 2 ∨ n = 3 ∨ n = 7 then 1 else n
def hasE (e n : Int) : Bool := if e = 4 ∨ e = 5 then decide (0 ≤ byteOf (e == 5) n) else if e = 6 then hasK n else true
def numE (n : Int) : Bs := [38, 35] ++ Lib.itoa n ++ [59]
def toldE (e : Int) (l : List Int) : List Int := l.flatMap (fun n => if hasE e n = true then [n] else (numE n).map (fun c => (c.toNat : Int)))
def writeE (e : Int) (l : List Int) : Bs × Int := if e = 4 ∨ e = 5 then rawS (e == 5) l else if e = 6 then rawK l else (bytes8 l, 0)
def outputE (n : Int) : Int × Int := if isEnc n = true then (outE n, 0) else (0, 6)
def hasEE (e n : Int) : Bool × Int := if isEnc e = false then (false, 6) else if scalar n = false then (false, 3) else (hasE (outE e) n, 0)
def encE (e mode : Int) (l : List Int) : Bs × Int :=
  if isEnc e = false then ([], 6) else if mode ≠ 0 ∧ mode ≠ 1 then ([], 4) else if points l ≠ 0 then ([], points l)
  else writeE (outE e) (if mode = 1 then toldE (outE e) l else l)
def toldR (e mode : Int) (l : List Int) : List Int := l.flatMap (fun n => if mode = 0 ∨ hasE e n = true then [n] else (numE n).map (fun c => (c.toNat : Int)))
theorem hasE_out (e n : Int) (h : isEnc e = true) : hasE (outE e) n = hasE e n := by
  rcases enc_cases e h with h1 | h1 | h1 | h1 | h1
  · subst h1; rfl
  · rw [outE, if_pos (by omega), hasE, if_neg (by omega), if_neg (by omega), hasE, if_neg (by omega), if_neg (by omega)]
  · rw [outE, if_neg (by omega)]
  · rw [outE, if_neg (by omega)]
  · rw [outE, if_pos (by omega), hasE, if_neg (by omega), if_neg (by omega), hasE, if_neg (by omega), if_neg (by omega)]
theorem toldR_eq (e mode : Int) (l : List Int) (h : isEnc e = true) (hm : mode = 0 ∨ mode = 1) : toldR e mode l = if mode = 1 then toldE (outE e) l else l := by
  rcases hm with rfl | rfl
  · rw [if_neg (by decide)]
    unfold toldR
    simp
  · rw [if_pos rfl]
    unfold toldR toldE
    congr 1
    funext n
    rw [hasE_out e n h]
    simp
/-! ## What is told can be written -/
theorem dec_digits (u : Nat) : ∀ c ∈ Lib.decDigits u, 48 ≤ c.toNat ∧ c.toNat ≤ 57 := by
  induction u using Nat.strongRecOn with
  | _ u ih =>
    rw [Lib.decDigits]
    split
    · intro c hc
      simp only [List.mem_singleton] at hc
      subst hc
      rw [UInt8.toNat_ofNat_of_lt' (show 48 + u < 256 by omega)]; omega
    · intro c hc
      rw [List.mem_append] at hc
      rcases hc with hc | hc
      · exact ih (u / 10) (by omega) c hc
      · simp only [List.mem_singleton] at hc
        subst hc
        rw [UInt8.toNat_ofNat_of_lt' (show 48 + u % 10 < 256 by omega)]; omega
theorem numE_plain (n : Int) (h : 0 ≤ n) : ∀ c ∈ numE n, 35 ≤ c.toNat ∧ c.toNat ≤ 59 := by
  intro c hc
  unfold numE at hc
  simp only [List.mem_append, List.mem_cons, List.not_mem_nil, or_false] at hc
  rcases hc with ((rfl | rfl) | hc) | rfl
  · decide
  · decide
  · rw [Lib.itoa, if_neg (by omega)] at hc
    have := dec_digits _ c hc; omega
  · decide
theorem byteOf_plain (user : Bool) (c : Nat) (h : c < 128) : byteOf user (c : Int) = (c : Int) := by
  have hp : pointOf user c = (c : Int) := by rw [pointOf, if_pos h]
  rcases byteOf_cases user (c : Int) with ⟨_, h2⟩ | ⟨j, hj, h1, h2⟩
  · exact absurd hp (h2 c (by omega))
  · rw [h1, pointOf_inj user j c hj (by omega) (h2.trans hp.symm)]
theorem hasE_plain (e : Int) (c : Nat) (h : 35 ≤ c ∧ c ≤ 122 ∧ c ≠ 92) : hasE e (c : Int) = true := by
  unfold hasE
  split
  · rw [byteOf_plain _ c (by omega), decide_eq_true_eq]; omega
  · split
    · rw [hasK, decide_eq_true_eq, findK, if_pos (by rw [byteK_plain c (by omega)]; omega)]; exact Int.le_refl _
    · rfl
theorem toldE_has (e : Int) (l : List Int) (h : ∀ n ∈ l, 0 ≤ n) : ∀ n ∈ toldE e l, hasE e n = true := by
  intro n hn
  unfold toldE at hn
  rw [List.mem_flatMap] at hn
  obtain ⟨m, hm, hn⟩ := hn
  split at hn
  · simp only [List.mem_singleton] at hn; subst hn; assumption
  · rw [List.mem_map] at hn
    obtain ⟨c, hc, rfl⟩ := hn
    have := numE_plain m (h m hm) c hc
    exact hasE_plain e c.toNat (by omega)
theorem encodeS_some (user : Bool) : ∀ l : List Int, (∀ n ∈ l, 0 ≤ byteOf user n) → ∃ b, encodeS user l = some b ∧ b.length = l.length
  | [], _ => ⟨[], rfl, rfl⟩
  | n :: l, h => by
    obtain ⟨b, hb, hl⟩ := encodeS_some user l (fun m hm => h m (by simp [hm]))
    have hn := h n (by simp)
    exact ⟨_, by rw [encodeS, if_neg (by omega), hb]; rfl, by simp [hl]⟩
theorem hasK_find (now n : Int) (h : hasK n = true) (hn : now = 0 ∨ now = 1 ∨ now = 2) : 0 ≤ findK now n := by
  rw [hasK, decide_eq_true_eq] at h
  unfold findK at h ⊢
  (repeat' split at h) <;> (repeat' split) <;> omega
theorem encK_some : ∀ (l : List Int) (now : Int), (now = 0 ∨ now = 1 ∨ now = 2) → (∀ n ∈ l, hasK n = true) → ∃ b, encK now l = some b
  | [], now, _, _ => ⟨_, rfl⟩
  | n :: l, now, hn, h => by
    have h1 := hasK_find now n (h n (by simp)) hn
    rcases findK_cases now n with h2 | ⟨h2, _⟩
    · omega
    · obtain ⟨b, hb⟩ := encK_some l (findK now n) (by omega) (fun m hm => h m (by simp [hm]))
      exact ⟨_, by rw [encK, if_neg (by omega), hb]; rfl⟩
theorem writeE_ok (e : Int) (l : List Int) (h : ∀ n ∈ l, hasE e n = true) : (writeE e l).2 = 0 := by
  unfold writeE
  split
  · rename_i he
    obtain ⟨b, hb, _⟩ := encodeS_some (e == 5) l (fun n hn => by have := h n hn; rw [hasE, if_pos he, decide_eq_true_eq] at this; exact this)
    rw [rawS, hb]
  · split
    · rename_i he2 he
      obtain ⟨b, hb⟩ := encK_some l 0 (.inl rfl) (fun n hn => by have := h n hn; rw [hasE, if_neg he2, if_pos he] at this; exact this)
      rw [rawK, hb]
    · rfl
theorem encodeS_none (user : Bool) : ∀ l : List Int, (∃ n ∈ l, byteOf user n < 0) → encodeS user l = none
  | [], h => by obtain ⟨n, hn, _⟩ := h; cases hn
  | m :: l, h => by
    rw [encodeS]
    split
    · rfl
    · obtain ⟨n, hn, h2⟩ := h
      rcases List.mem_cons.1 hn with rfl | hn
      · omega
      · rw [encodeS_none user l ⟨n, hn, h2⟩]; rfl
theorem hasK_none (now n : Int) (h : hasK n = false) (hn : now = 0 ∨ now = 1 ∨ now = 2) : findK now n < 0 := by
  rw [hasK, decide_eq_false_iff_not] at h
  have hb := fun g => byteK_cases g n
  unfold findK at h ⊢
  (repeat' split at h) <;> (repeat' split) <;> first | omega | (rcases hn with rfl | rfl | rfl <;> omega)
theorem encK_none : ∀ (l : List Int) (now : Int), (now = 0 ∨ now = 1 ∨ now = 2) → (∃ n ∈ l, hasK n = false) → encK now l = none
  | [], _, _, h => by obtain ⟨n, hn, _⟩ := h; cases hn
  | m :: l, now, hnow, h => by
    rw [encK]
    split
    · rfl
    · rename_i hf
      obtain ⟨n, hn, h2⟩ := h
      rcases List.mem_cons.1 hn with rfl | hn
      · exact absurd (hasK_none now n h2 hnow) hf
      · rcases findK_cases now m with h3 | ⟨h3, _⟩
        · omega
        · rw [encK_none l (findK now m) (by omega) ⟨n, hn, h2⟩]; rfl
/-- It is written just if each code point can be. -/
theorem writeE_cases (e : Int) (l : List Int) : (l.all (hasE e) = true ∧ ∃ b, writeE e l = (b, 0)) ∨ (l.all (hasE e) = false ∧ writeE e l = ([], 5)) := by
  cases hq : l.all (hasE e) with
  | true =>
    refine .inl ⟨rfl, (writeE e l).1, ?_⟩
    rw [← writeE_ok e l (List.all_eq_true.1 hq)]
  | false =>
    refine .inr ⟨rfl, ?_⟩
    rw [List.all_eq_false] at hq
    obtain ⟨n, hn, h⟩ := hq
    rw [Bool.not_eq_true] at h
    unfold hasE at h
    unfold writeE
    split at h
    · rename_i he
      rw [if_pos he, rawS, encodeS_none _ l ⟨n, hn, by simpa using h⟩]
    · rename_i he
      split at h
      · rename_i he2
        rw [if_neg he, if_pos he2, rawK, encK_none l 0 (.inl rfl) ⟨n, hn, h⟩]
      · cases h
theorem toldE_all (e : Int) (l : List Int) (h : l.all (hasE e) = true) : toldE e l = l := by
  induction l with
  | nil => rfl
  | cons n l ih =>
    rw [List.all_cons, Bool.and_eq_true] at h
    show (if hasE e n = true then [n] else _) ++ toldE e l = _
    rw [if_pos h.1, ih h.2]; rfl
theorem toldE_app (e : Int) (l m : List Int) : toldE e (l ++ m) = toldE e l ++ toldE e m := by unfold toldE; rw [List.flatMap_append]
theorem writeE_app (e : Int) (l m : List Int) (a b : Bs) (he : e ≠ 6) (h1 : writeE e l = (a, 0)) (h2 : writeE e m = (b, 0)) : writeE e (l ++ m) = (a ++ b, 0) := by
  unfold writeE at h1 h2 ⊢
  split at h1
  · rename_i h
    rw [if_pos h] at h2 ⊢
    unfold rawS at h1 h2 ⊢
    rw [encodeS_append]
    cases h3 : encodeS (e == 5) l with
    | none => rw [h3] at h1; cases h1
    | some x =>
      cases h4 : encodeS (e == 5) m with
      | none => rw [h4] at h2; cases h2
      | some y =>
        rw [h3] at h1; rw [h4] at h2
        simp only [Prod.mk.injEq, and_true] at h1 h2
        subst h1; subst h2; rfl
  · rename_i h
    rw [if_neg h, if_neg he] at h2
    rw [if_neg h, if_neg he]
    simp only [Prod.mk.injEq, and_true] at h1 h2 ⊢
    rw [← h1, ← h2, bytes8, List.flatMap_append]; rfl
/-- What is written is read as it was. -/
theorem decodeS_encode (user : Bool) : ∀ (l : List Int) (b : Bs), encodeS user l = some b → decodeS user b = l
  | [], b, h => by injection h with h; subst h; rfl
  | n :: l, b, h => by
    rw [encodeS] at h
    split at h
    · cases h
    · rename_i hn
      cases hr : encodeS user l with
      | none => rw [hr] at h; cases h
      | some r =>
        rw [hr] at h
        injection h with h
        subst h
        rcases byteOf_cases user n with ⟨h1, _⟩ | ⟨j, hj, h1, h2⟩
        · omega
        · have := decodeS_encode user l r hr
          unfold decodeS at this ⊢
          rw [List.map_cons, this, h1, Int.toNat_natCast, UInt8.toNat_ofNat_of_lt' (show j < 256 by omega), h2]
theorem allE_write (e : Int) (l : List Int) (b : Bs) (he : e = 1 ∨ e = 4 ∨ e = 5 ∨ e = 6) (hl : ∀ n ∈ l, scalar n = true) (h : writeE e l = (b, 0)) : allE e b = l := by
  unfold writeE at h
  rcases he with rfl | he
  · rw [if_neg (by decide), if_neg (by decide)] at h
    simp only [Prod.mk.injEq, and_true] at h
    subst h
    rw [allE, if_pos rfl, all8_bytes l hl]
  · by_cases h1 : e = 4 ∨ e = 5
    · rw [if_pos h1, rawS] at h
      rw [allE, if_neg (by omega), if_neg (by omega), if_pos h1]
      cases hr : encodeS (e == 5) l with
      | none => rw [hr] at h; cases h
      | some r =>
        rw [hr] at h
        simp only [Prod.mk.injEq, and_true] at h
        subst h
        exact decodeS_encode _ l r hr
    · rw [if_neg h1, if_pos (by omega), rawK] at h
      rw [allE, if_neg (by omega), if_neg (by omega), if_neg (by omega), if_pos (by omega)]
      cases hr : encK 0 l with
      | none => rw [hr] at h; cases h
      | some r =>
        rw [hr] at h
        simp only [Prod.mk.injEq, and_true] at h
        subst h
        exact (allK_enc l r hr).1
theorem outE_cases (n : Int) (h : isEnc n = true) : outE n = 1 ∨ outE n = 4 ∨ outE n = 5 ∨ outE n = 6 := by
  unfold outE
  simp only [isEnc, decide_eq_true_eq] at h
  split <;> omega
theorem outE_out (n : Int) : outE (outE n) = outE n := by
  unfold outE
  (repeat' split) <;> omega
theorem outE_enc (n : Int) (h : isEnc n = true) : isEnc (outE n) = true := by
  have := outE_cases n h
  simp only [isEnc, decide_eq_true_eq]; omega
end Go.Proofs.YthaoohckgilahaaDoor.M

/-
  What waits, in the document's words.
-/
import Derived.Test.YtbddfefcgfenfaaDoorPlainStream
namespace Go.Proofs.YtbddfefcgfenfaaDoor.M
open Go

theorem wait8 (c : UInt8) (t : Bs) : told8 (c :: t) = ([], c :: t) ↔ ok8 c t = true ∧ (t.length : Int) < (lead8 c.toNat).1 := by
  have no : (first8 (c :: t)).2.2 = true → ¬ told8 (c :: t) = ([], c :: t) := fun h1 h2 => by
    rw [told8_ok c t h1] at h2; cases h2
  rcases round8 c t with ⟨h1, h2, h3⟩ | ⟨m, K, h1, h2, h3, h4, _, h6, h7⟩
  · refine ⟨fun h => absurd h (no (by rw [h3])), fun h => by omega⟩
  · rcases h7 with ⟨h8, h9⟩ | ⟨h8, h9, h10, h11⟩ | ⟨h8, h9, h10⟩
    · refine ⟨fun h => absurd h (no (by rw [h9])), fun h => by omega⟩
    · refine ⟨fun h => absurd h (no (by rw [h11])), fun h => ?_⟩
      have := (ok8_first8 c t (by omega) (by omega)).1 h.1
      rw [h11] at this
      simp only at this
      omega
    · refine ⟨fun _ => ⟨?_, by omega⟩, fun _ => told8_no c t (by rw [h10])⟩
      have := h6 t.length (by omega)
      rwa [List.take_length] at this
theorem wait16 (big : Bool) (a b : UInt8) (t : Bs) (ht : t.length < 2) : told16 big (a :: b :: t) = ([], a :: b :: t) ↔ isHi (unit16 big a b) = true := by
  rcases say16 big a b t with ⟨h1, e⟩ | ⟨h1, _, e⟩ | ⟨c, d, u, rfl, _, _, e⟩ | ⟨c, d, u, rfl, _, _, e⟩
  · rw [e, h1]; simp
  · rw [e]; simp [h1]
  · simp only [List.length_cons] at ht; omega
  · simp only [List.length_cons] at ht; omega
def okC (n : Int) (c : UInt8) (t : Bs) : Bool :=
  if n = 1 then decide (t.length ≤ 2) && (ok8 c t && decide ((t.length : Int) + 1 < (lead8 c.toNat).1 + 1))
  else if n = 2 ∨ n = 3 then (match t with | [] => true | b :: u => decide (u.length ≤ 1) && isHi (unit16 (n == 3) c b))
  else if n = 6 then decide (c :: t = [27] ∨ c :: t = [27, 40]) else false
/-- May it wait? In the document's words. -/
def okR (n : Int) : Bs → Bool
  | [] => true
  | c :: t => okC n c t
theorem okR_iff (n : Int) (h : isEnc n = true) (s : Bs) : okR n s = true ↔ s.length ≤ 3 ∧ restOk n s = true := by
  rw [restOk_iff n h]
  match s with
  | [] =>
    refine ⟨fun _ => ⟨by simp, fun _ => rfl, fun _ => told16_nil _, fun _ => .inl rfl, fun _ => rfl⟩, fun _ => rfl⟩
  | c :: t =>
    show okC n c t = true ↔ _
    unfold okC
    rcases enc_cases n h with h1 | h1 | h1 | h1 | h1
    · rw [if_pos h1]
      simp only [Bool.and_eq_true, decide_eq_true_eq, wait8, List.length_cons]
      constructor
      · rintro ⟨h2, h3, h4⟩
        exact ⟨by omega, fun _ => ⟨h3, by omega⟩, fun h => by omega, fun h => by omega, fun h => by omega⟩
      · rintro ⟨h2, h3, _⟩
        exact ⟨by omega, (h3 h1).1, by have := (h3 h1).2; omega⟩
    · rw [if_neg (by omega), if_pos h1]
      match t with
      | [] =>
        refine ⟨fun _ => ⟨by simp, fun h => by omega, fun _ => told16_one _ _, fun h => by omega, fun h => by omega⟩, fun _ => rfl⟩
      | b :: u =>
        simp only [Bool.and_eq_true, decide_eq_true_eq, List.length_cons]
        constructor
        · rintro ⟨h2, h3⟩
          exact ⟨by omega, fun h => by omega, fun _ => (wait16 _ c b u (by omega)).2 h3, fun h => by omega, fun h => by omega⟩
        · rintro ⟨h2, _, h3, _⟩
          exact ⟨by omega, (wait16 _ c b u (by omega)).1 (h3 h1)⟩
    · rw [if_neg (by omega), if_neg (by omega), if_neg (by omega)]
      refine ⟨fun h => (by cases h), ?_⟩
      rintro ⟨_, _, _, _, h5⟩
      exact absurd (h5 (by omega)) (by simp)
    · rw [if_neg (by omega), if_neg (by omega), if_pos h1, decide_eq_true_eq]
      constructor
      · intro h2
        refine ⟨by rcases h2 with h2 | h2 <;> simp [h2], fun h => by omega, fun h => by omega, fun _ => .inr h2, fun h => by omega⟩
      · rintro ⟨_, _, _, h4, _⟩
        rcases h4 h1 with h5 | h5
        · cases h5
        · exact h5
    · rw [if_neg (by omega), if_neg (by omega), if_neg (by omega)]
      refine ⟨fun h => (by cases h), ?_⟩
      rintro ⟨_, _, _, _, h5⟩
      exact absurd (h5 (by omega)) (by simp)
theorem check_ref (d : St) (h : isEnc d.enc = true) : checkM d = if okR d.enc d.rest = false then 1 else if stateOk d = false then 4 else 0 := by
  rw [checkM, if_neg (by rw [h]; decide)]
  have := okR_iff d.enc h d.rest
  cases ho : okR d.enc d.rest with
  | false =>
    rw [if_pos, if_pos rfl]
    rw [ho] at this
    simp only [Bool.false_eq_true, false_iff, not_and, Bool.not_eq_true] at this
    by_cases hl : 3 < d.rest.length
    · exact .inl hl
    · exact .inr (this (by omega))
  | true =>
    obtain ⟨h1, h2⟩ := this.1 ho
    rw [if_neg (by rw [h2]; simp; omega), if_neg (show ¬ (true = false) by decide)]
theorem told8_le (s : Bs) : (told8 s).1.length ≤ s.length := by
  have h := (all8_many _ s (Nat.le_refl _)).1
  rw [all8] at h
  split at h
  · exact h
  · rw [List.length_append] at h; omega
theorem tell_len (d : St) (h : isEnc d.enc = true) (b : Bs) : (tellM d b).1.length ≤ d.rest.length + b.length := by
  have hl : (d.rest ++ b).length = d.rest.length + b.length := List.length_append
  rcases enc_cases d.enc h with h1 | h1 | h1 | h1 | h1
  · rw [tellM, if_pos h1, ← hl]; exact told8_le _
  · rw [tellM, if_neg (by omega), if_pos h1, ← hl]
    have := (told16_len (d.enc == 3) _ (d.rest ++ b) (Nat.le_refl _)).1
    simp only
    omega
  · rw [tellM, if_neg (by omega), if_neg (by omega), if_neg (by omega), if_neg (by omega)]
    have e2 : allE d.enc (d.rest ++ b) = decodeS (d.enc == 5) (d.rest ++ b) := by rw [allE, if_neg (by omega), if_neg (by omega), if_pos h1]
    simp only [e2, decodeS, List.length_map]
    omega
  · rw [tellM, if_neg (by omega), if_neg (by omega), if_pos h1, ← hl]
    have := (toldK_rest false _ (d.rest ++ b) d.signs d.fresh (Nat.le_refl _)).1
    simp only
    omega
  · rw [tellM, if_neg (by omega), if_neg (by omega), if_neg (by omega), if_pos h1]
    split
    · simp
    · rename_i h2
      simp only [List.length_singleton]
      have : d.rest ++ b ≠ [] := fun h3 => h2 (.inr h3)
      have := List.length_pos_iff.2 this
      omega
theorem end_len (d : St) : (endM d).length ≤ d.rest.length + 1 := by
  unfold endM
  split
  · simp
  · split
    · have := (toldK_rest true _ d.rest d.signs d.fresh (Nat.le_refl _)).1
      omega
    · simp
end Go.Proofs.YtbddfefcgfenfaaDoor.M

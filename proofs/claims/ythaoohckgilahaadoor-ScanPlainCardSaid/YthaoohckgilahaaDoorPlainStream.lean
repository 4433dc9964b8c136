/-
  Bytes that come in pieces, in plain functions and laws.
-/
import Derived.Test.YthaoohckgilahaaDoorPlainUtf8e
import Derived.Test.YthaoohckgilahaaDoorPlainUtf16
import Derived.Test.YthaoohckgilahaaDoorPlainKana
namespace Go.Proofs.YthaoohckgilahaaDoor.M
open Go

structure St where
  enc : Int
  rest : Bs
  signs : Int
  fresh : Bool
  stopped : Bool
  deriving DecidableEq
def opn (n : Int) : St := ⟨n, [], 0, false, false⟩
def allE (n : Int) (s : Bs) : List Int :=
  if n = 1 then all8 s else if n = 2 ∨ n = 3 then all16 (n == 3) s else if n = 4 ∨ n = 5 then decodeS (n == 5) s else if n = 6 then allK s else if s = [] then [] else [65533]
def tellM (d : St) (b : Bs) : List Int × St :=
  if d.enc = 1 then ((told8 (d.rest ++ b)).1, { d with rest := (told8 (d.rest ++ b)).2 })
  else if d.enc = 2 ∨ d.enc = 3 then ((told16 (d.enc == 3) (d.rest ++ b)).1, { d with rest := (told16 (d.enc == 3) (d.rest ++ b)).2 })
  else if d.enc = 6 then ((toldK false d.signs d.fresh (d.rest ++ b)).1, { d with signs := (toldK false d.signs d.fresh (d.rest ++ b)).2.1, fresh := (toldK false d.signs d.fresh (d.rest ++ b)).2.2.1, rest := (toldK false d.signs d.fresh (d.rest ++ b)).2.2.2 })
  else if d.enc = 7 then (if d.stopped = true ∨ d.rest ++ b = [] then ([], d) else ([65533], { d with stopped := true }))
  else (allE d.enc (d.rest ++ b), d)
def endM (d : St) : List Int := if d.rest = [] then [] else if d.enc = 6 then (toldK true d.signs d.fresh d.rest).1 else [65533]
def rawM (d : St) (b : Bs) (last : Bool) : List Int × St := if last = true then ((tellM d b).1 ++ endM (tellM d b).2, opn d.enc) else tellM d b
def restOk (n : Int) (s : Bs) : Bool := decide (s = [] ∨ ((tellM (opn n) s).1 = [] ∧ (tellM (opn n) s).2.rest = s))
def stateOk (d : St) : Bool := !(decide (d.signs < 0 ∨ 2 < d.signs) || (decide (d.enc ≠ 6) && (decide (d.signs ≠ 0) || d.fresh)) || (decide (d.enc ≠ 7) && d.stopped))
def checkM (d : St) : Int := if isEnc d.enc = false then 6 else if 3 < d.rest.length ∨ restOk d.enc d.rest = false then 1 else if stateOk d = false then 4 else 0
def readyE (n : Int) (s : Bs) : Int := if isEnc n = false then 6 else if 3000 < s.length then 2 else 0
def decE (n : Int) (s : Bs) : List Int × Int := if readyE n s = 0 then (allE n s, 0) else ([], readyE n s)
def openE (n : Int) : St × Int := if isEnc n = true then (opn n, 0) else (⟨0, [], 0, false, false⟩, 6)
def feedE (d : St) (b : Bs) (last : Bool) : List Int × St × Int :=
  if checkM d = 0 then (if 3000 < b.length then ([], ⟨0, [], 0, false, false⟩, 2) else ((rawM d b last).1, (rawM d b last).2, 0)) else ([], ⟨0, [], 0, false, false⟩, checkM d)

/-! ## UTF-8 and UTF-16 in pieces -/
theorem go8_app : ∀ (m : Nat) (l b : Bs) (i n lo hi : Int), (go8 m l i n lo hi).2.2 = true → go8 m (l ++ b) i n lo hi = go8 m l i n lo hi
  | 0, l, b, i, n, lo, hi, _ => by rw [go8, go8]
  | m + 1, [], b, i, n, lo, hi, h => by simp [go8] at h
  | m + 1, c :: t, b, i, n, lo, hi, h => by
    rw [List.cons_append, go8]
    rw [go8] at h ⊢
    split
    · rfl
    · rename_i hc
      rw [if_neg hc] at h
      exact go8_app m t b _ _ _ _ h
theorem first8_app (c : UInt8) (t b : Bs) (h : (first8 (c :: t)).2.2 = true) : first8 (c :: t ++ b) = first8 (c :: t) := by
  rw [List.cons_append, first8]
  rw [first8] at h ⊢
  split
  · rfl
  · rename_i hc
    rw [if_neg hc] at h
    exact go8_app _ _ _ _ _ _ _ h
theorem told8_app : ∀ (k : Nat) (s b : Bs), s.length ≤ k → told8 (s ++ b) = ((told8 s).1 ++ (told8 ((told8 s).2 ++ b)).1, (told8 ((told8 s).2 ++ b)).2)
  | _, [], b, _ => by simp [told8_nil]
  | 0, _ :: _, _, h => by simp at h
  | k + 1, c :: t, b, h => by
    simp only [List.length_cons] at h
    cases hb : (first8 (c :: t)).2.2 with
    | false => rw [told8_no c t hb]; simp
    | true =>
      obtain ⟨h1, h2⟩ := first8_bounds c t
      have hf := first8_app c t b hb
      have hd : (c :: t ++ b).drop (first8 (c :: t)).2.1.toNat = (c :: t).drop (first8 (c :: t)).2.1.toNat ++ b := List.drop_append_of_le_length (by omega)
      rw [told8_ok c t hb]
      have e := told8_ok c (t ++ b) (by rw [← List.cons_append, hf]; exact hb)
      rw [← List.cons_append, hf, hd] at e
      rw [e, told8_app k _ b (by rw [List.length_drop]; simp only [List.length_cons] at h2 ⊢; omega)]
      rfl
theorem told8_again : ∀ (k : Nat) (s : Bs), s.length ≤ k → told8 (told8 s).2 = ([], (told8 s).2)
  | _, [], _ => rfl
  | 0, _ :: _, h => by simp at h
  | k + 1, c :: t, h => by
    simp only [List.length_cons] at h
    cases hb : (first8 (c :: t)).2.2 with
    | false => rw [told8_no c t hb]; exact told8_no c t hb
    | true =>
      obtain ⟨h1, h2⟩ := first8_bounds c t
      rw [told8_ok c t hb]
      exact told8_again k _ (by rw [List.length_drop]; simp only [List.length_cons] at h2 ⊢; omega)
theorem told8_rest (s : Bs) : (told8 s).2.length ≤ 3 := by
  obtain ⟨_, _, h, _⟩ := told8_cut _ s (Nat.le_refl _)
  exact h
theorem told16_app (big : Bool) : ∀ (k : Nat) (s b : Bs), s.length ≤ k → told16 big (s ++ b) = ((told16 big s).1 ++ (told16 big ((told16 big s).2 ++ b)).1, (told16 big ((told16 big s).2 ++ b)).2)
  | _, [], b, _ => by simp [told16_nil]
  | _, [a], b, _ => by simp [told16_one]
  | 0, _ :: _ :: _, _, h => by simp at h
  | k + 1, a :: c :: t, b, h => by
    simp only [List.length_cons] at h
    rcases say16 big a c t with ⟨h0, e⟩ | ⟨_, h2, e⟩ | ⟨x, y, u, rfl, h1, h2, e⟩ | ⟨x, y, u, rfl, h1, h2, e⟩
    · rw [e, List.cons_append, List.cons_append, told16_plain big a c (t ++ b) h0, told16_app big k t b (by omega)]; rfl
    · rw [e]; simp
    · simp only [List.length_cons] at h
      rw [e, List.cons_append, List.cons_append, List.cons_append, List.cons_append, told16_two big a c x y (u ++ b) h1 h2, told16_app big k u b (by omega)]; rfl
    · have ih := told16_app big k (x :: y :: u) b (by omega)
      rw [List.cons_append, List.cons_append] at ih
      rw [e, List.cons_append, List.cons_append, List.cons_append, List.cons_append, told16_lone big a c x y (u ++ b) h1 h2, ih]; rfl
theorem told16_again (big : Bool) : ∀ (k : Nat) (s : Bs), s.length ≤ k → told16 big (told16 big s).2 = ([], (told16 big s).2)
  | _, [], _ => by rw [told16_nil]; exact told16_nil big
  | _, [a], _ => by rw [told16_one]; exact told16_one big a
  | 0, _ :: _ :: _, h => by simp at h
  | k + 1, a :: c :: t, h => by
    simp only [List.length_cons] at h
    rcases say16 big a c t with ⟨h0, e⟩ | ⟨_, h2, e⟩ | ⟨x, y, u, rfl, h1, h2, e⟩ | ⟨x, y, u, rfl, h1, h2, e⟩
    · rw [e]; exact told16_again big k t (by omega)
    · rw [e]; exact e
    · simp only [List.length_cons] at h
      rw [e]; exact told16_again big k u (by omega)
    · rw [e]; exact told16_again big k _ (by omega)
/-! ## States that are right -/
theorem enc_cases (n : Int) (h : isEnc n = true) : n = 1 ∨ (n = 2 ∨ n = 3) ∨ (n = 4 ∨ n = 5) ∨ n = 6 ∨ n = 7 := by
  simp only [isEnc, decide_eq_true_eq] at h; omega
theorem toldK_signs (last : Bool) : ∀ (k : Nat) (s : Bs) (g : Int) (f : Bool), s.length ≤ k → 0 ≤ g ∧ g ≤ 2 → 0 ≤ (toldK last g f s).2.1 ∧ (toldK last g f s).2.1 ≤ 2
  | _, [], g, f, _, hg => by rw [toldK_nil]; exact hg
  | 0, _ :: _, _, _, h, _ => by simp at h
  | k + 1, c :: t, g, f, h, hg => by
    simp only [List.length_cons] at h
    rcases sayK last g f c t with ⟨_, e⟩ | ⟨rfl, q, x, u, rfl, hq, _, e⟩ | ⟨rfl, h1, _, h2, e⟩ | ⟨rfl, _, _, e⟩
    · rw [e]; exact toldK_signs last k t g false (by omega) hg
    · simp only [List.length_cons] at h
      rw [e]
      refine toldK_signs last k u q true (by omega) ?_
      unfold escK at hq
      (repeat' split at hq) <;> first | (injection hq with hq; omega) | cases hq
    · rw [e]; exact hg
    · rw [e]; exact toldK_signs last k t g false (by omega) hg
/-- What a right state is. -/
structure Right (d : St) : Prop where
  enc : isEnc d.enc = true
  r8 : d.enc = 1 → told8 d.rest = ([], d.rest)
  r16 : d.enc = 2 ∨ d.enc = 3 → told16 (d.enc == 3) d.rest = ([], d.rest)
  rk : d.enc = 6 → d.rest = [] ∨ d.rest = [27] ∨ d.rest = [27, 40]
  rn : d.enc = 4 ∨ d.enc = 5 ∨ d.enc = 7 → d.rest = []
  len : d.rest.length ≤ 3
  sg : 0 ≤ d.signs ∧ d.signs ≤ 2
  nk : d.enc ≠ 6 → d.signs = 0 ∧ d.fresh = false
  ns : d.enc ≠ 7 → d.stopped = false
theorem decodeS_nil (user : Bool) (s : Bs) : decodeS user s = [] ↔ s = [] := by
  unfold decodeS; simp
theorem tell_opn (n : Int) (s : Bs) :
    (n = 1 → tellM (opn n) s = ((told8 s).1, { opn n with rest := (told8 s).2 })) ∧
    (n = 2 ∨ n = 3 → tellM (opn n) s = ((told16 (n == 3) s).1, { opn n with rest := (told16 (n == 3) s).2 })) ∧
    (n = 4 ∨ n = 5 → tellM (opn n) s = (decodeS (n == 5) s, opn n)) ∧
    (n = 6 → tellM (opn n) s = ((toldK false 0 false s).1, { opn n with signs := (toldK false 0 false s).2.1, fresh := (toldK false 0 false s).2.2.1, rest := (toldK false 0 false s).2.2.2 })) ∧
    (n = 7 → tellM (opn n) s = (if s = [] then ([], opn n) else ([65533], { opn n with stopped := true }))) := by
  refine ⟨fun h => ?_, fun h => ?_, fun h => ?_, fun h => ?_, fun h => ?_⟩
  · rw [tellM, if_pos (by exact h)]; rfl
  · rw [tellM, if_neg (by simp only [opn]; omega), if_pos (by exact h)]; rfl
  · rw [tellM, if_neg (by simp only [opn]; omega), if_neg (by simp only [opn]; omega), if_neg (by simp only [opn]; omega), if_neg (by simp only [opn]; omega)]
    show (allE n s, opn n) = _
    rw [allE, if_neg (by omega), if_neg (by omega), if_pos h]
  · rw [tellM, if_neg (by simp only [opn]; omega), if_neg (by simp only [opn]; omega), if_pos (by exact h)]; rfl
  · rw [tellM, if_neg (by simp only [opn]; omega), if_neg (by simp only [opn]; omega), if_neg (by simp only [opn]; omega), if_pos (by exact h)]; simp [opn]
theorem restOk_iff (n : Int) (h : isEnc n = true) (s : Bs) : restOk n s = true ↔ (n = 1 → told8 s = ([], s)) ∧ (n = 2 ∨ n = 3 → told16 (n == 3) s = ([], s)) ∧ (n = 6 → s = [] ∨ s = [27] ∨ s = [27, 40]) ∧ (n = 4 ∨ n = 5 ∨ n = 7 → s = []) := by
  unfold restOk
  rw [decide_eq_true_eq]
  obtain ⟨t1, t2, t3, t4, t5⟩ := tell_opn n s
  rcases enc_cases n h with h2 | h2 | h2 | h2 | h2
  · rw [t1 h2]
    constructor
    · rintro (rfl | ⟨h3, h4⟩)
      · exact ⟨fun _ => rfl, fun h => by omega, fun h => by omega, fun _ => rfl⟩
      · exact ⟨fun _ => Prod.ext h3 h4, fun h => by omega, fun h => by omega, fun h => by omega⟩
    · rintro ⟨h1, _⟩
      rw [h1 h2]
      exact .inr ⟨rfl, rfl⟩
  · rw [t2 h2]
    constructor
    · rintro (rfl | ⟨h3, h4⟩)
      · exact ⟨fun _ => rfl, fun _ => told16_nil _, fun h => by omega, fun _ => rfl⟩
      · exact ⟨fun h => by omega, fun _ => Prod.ext h3 h4, fun h => by omega, fun h => by omega⟩
    · rintro ⟨_, h1, _⟩
      rw [h1 h2]
      exact .inr ⟨rfl, rfl⟩
  · rw [t3 h2]
    constructor
    · rintro (rfl | ⟨h3, h4⟩)
      · exact ⟨fun h => by omega, fun h => by omega, fun h => by omega, fun _ => rfl⟩
      · exact ⟨fun h => by omega, fun h => by omega, fun h => by omega, fun _ => (decodeS_nil _ _).1 h3⟩
    · rintro ⟨_, _, _, h1⟩
      exact .inl (h1 (by omega))
  · rw [t4 h2]
    constructor
    · rintro (rfl | ⟨h3, h4⟩)
      · exact ⟨fun h => by omega, fun h => by omega, fun h => .inl rfl, fun _ => rfl⟩
      · refine ⟨fun h => by omega, fun h => by omega, fun _ => ?_, fun h => by omega⟩
        simp only at h3 h4
        cases s with
        | nil => exact .inl rfl
        | cons c t =>
          rcases sayK false 0 false c t with ⟨_, e⟩ | ⟨rfl, q, x, u, rfl, _, _, e⟩ | ⟨rfl, h1, _, h2, e⟩ | ⟨rfl, _, _, e⟩
          · rw [e] at h3; cases h3
          · have := (toldK_rest false _ u q true (Nat.le_refl _)).1
            rw [e] at h4
            have h4 := congrArg List.length h4
            simp only [List.length_cons] at h4
            omega
          · simp only [waitK, decide_eq_true_eq] at h1
            rcases h1 with rfl | rfl <;> simp
          · rw [e] at h3; cases h3
    · rintro ⟨_, _, h1, _⟩
      have := (waits_iff s 0 false).2 (h1 h2)
      rw [this]
      exact .inr ⟨rfl, rfl⟩
  · rw [t5 h2]
    constructor
    · rintro (rfl | ⟨h3, h4⟩)
      · exact ⟨fun h => by omega, fun h => by omega, fun h => .inl rfl, fun _ => rfl⟩
      · by_cases hs : s = []
        · subst hs; exact ⟨fun h => by omega, fun h => by omega, fun h => .inl rfl, fun _ => rfl⟩
        · rw [if_neg hs] at h3; cases h3
    · rintro ⟨_, _, _, h1⟩
      exact .inl (h1 (by omega))
theorem check_right (d : St) : checkM d = 0 ↔ Right d := by
  unfold checkM
  constructor
  · intro h
    split at h
    · cases h
    · rename_i h1
      rw [Bool.not_eq_false] at h1
      split at h
      · cases h
      · rename_i h2
        split at h
        · cases h
        · rename_i h3
          have h4 : restOk d.enc d.rest = true := by rw [← Bool.not_eq_false]; exact fun hh => h2 (.inr hh)
          obtain ⟨a1, a2, a3, a4⟩ := (restOk_iff d.enc h1 d.rest).1 h4
          simp only [stateOk, Bool.not_eq_false', Bool.or_eq_true, Bool.and_eq_true, decide_eq_true_eq, not_or, not_and] at h3
          obtain ⟨⟨b1, b2⟩, b3⟩ := h3
          refine ⟨h1, a1, a2, a3, a4, by omega, by omega, fun h6 => ?_, fun h7 => ?_⟩
          · have := b2 h6
            exact ⟨by omega, by simpa using this.2⟩
          · simpa using b3 h7
  · intro h
    rw [if_neg (by rw [h.enc]; decide), if_neg, if_neg]
    · have hk := h.nk
      have hs := h.ns
      have hg := h.sg
      simp only [stateOk, Bool.not_eq_false', Bool.or_eq_true, Bool.and_eq_true, decide_eq_true_eq, not_or, not_and]
      refine ⟨⟨by omega, fun h6 => ?_⟩, fun h7 => by simp [hs h7]⟩
      obtain ⟨h8, h9⟩ := hk h6
      exact ⟨by omega, by simp [h9]⟩
    · rintro (hh | hh)
      · have := h.len; omega
      · rw [(restOk_iff d.enc h.enc d.rest).2 ⟨h.r8, h.r16, h.rk, h.rn⟩] at hh; cases hh
theorem right_opn (n : Int) (h : isEnc n = true) : Right (opn n) :=
  ⟨h, fun _ => rfl, fun _ => told16_nil _, fun _ => .inl rfl, fun _ => rfl, by simp [opn], by simp [opn], fun _ => ⟨rfl, rfl⟩, fun _ => rfl⟩
theorem tell_enc (d : St) (b : Bs) : (tellM d b).2.enc = d.enc := by
  unfold tellM; (repeat' split) <;> rfl
theorem right_tell (d : St) (b : Bs) (h : Right d) : Right (tellM d b).2 := by
  rcases enc_cases d.enc h.enc with h1 | h1 | h1 | h1 | h1
  · have e : tellM d b = ((told8 (d.rest ++ b)).1, { d with rest := (told8 (d.rest ++ b)).2 }) := by rw [tellM, if_pos h1]
    rw [e]
    exact ⟨h.enc, fun _ => told8_again _ _ (Nat.le_refl _), fun h2 => by simp only at h2; omega, fun h2 => by simp only at h2; omega, fun h2 => by simp only at h2; omega, told8_rest _, h.sg, h.nk, h.ns⟩
  · have e : tellM d b = ((told16 (d.enc == 3) (d.rest ++ b)).1, { d with rest := (told16 (d.enc == 3) (d.rest ++ b)).2 }) := by rw [tellM, if_neg (by omega), if_pos h1]
    rw [e]
    exact ⟨h.enc, fun h2 => by simp only at h2; omega, fun _ => told16_again _ _ _ (Nat.le_refl _), fun h2 => by simp only at h2; omega, fun h2 => by simp only at h2; omega, (told16_len _ _ _ (Nat.le_refl _)).2, h.sg, h.nk, h.ns⟩
  · have e : tellM d b = (allE d.enc (d.rest ++ b), d) := by rw [tellM, if_neg (by omega), if_neg (by omega), if_neg (by omega), if_neg (by omega)]
    rw [e]; exact h
  · have e : tellM d b = ((toldK false d.signs d.fresh (d.rest ++ b)).1, { d with signs := (toldK false d.signs d.fresh (d.rest ++ b)).2.1, fresh := (toldK false d.signs d.fresh (d.rest ++ b)).2.2.1, rest := (toldK false d.signs d.fresh (d.rest ++ b)).2.2.2 }) := by rw [tellM, if_neg (by omega), if_neg (by omega), if_pos h1]
    rw [e]
    have hr := (toldK_rest false _ (d.rest ++ b) d.signs d.fresh (Nat.le_refl _)).2
    have hr2 : (toldK false d.signs d.fresh (d.rest ++ b)).2.2.2 = [] ∨ (toldK false d.signs d.fresh (d.rest ++ b)).2.2.2 = [27] ∨ (toldK false d.signs d.fresh (d.rest ++ b)).2.2.2 = [27, 40] := by
      rcases hr with hr | ⟨_, t, ht, hr⟩
      · exact .inl hr
      · simp only [waitK, decide_eq_true_eq] at ht
        rcases ht with rfl | rfl
        · exact .inr (.inl hr)
        · exact .inr (.inr hr)
    refine ⟨h.enc, fun h2 => by simp only at h2; omega, fun h2 => by simp only at h2; omega, fun _ => hr2, fun h2 => by simp only at h2; omega, ?_, toldK_signs false _ _ _ _ (Nat.le_refl _) h.sg, fun h2 => absurd h1 h2, h.ns⟩
    rcases hr2 with hr2 | hr2 | hr2 <;> simp [hr2]
  · have e : tellM d b = (if d.stopped = true ∨ d.rest ++ b = [] then ([], d) else ([65533], { d with stopped := true })) := by rw [tellM, if_neg (by omega), if_neg (by omega), if_neg (by omega), if_pos h1]
    rw [e]
    split
    · exact h
    · exact ⟨h.enc, h.r8, h.r16, h.rk, h.rn, h.len, h.sg, h.nk, fun h2 => absurd h1 h2⟩
/-- Two parts: the second one goes on where the first one stopped. -/
theorem tell_app (d : St) (h : Right d) (a b : Bs) : tellM d (a ++ b) = ((tellM d a).1 ++ (tellM (tellM d a).2 b).1, (tellM (tellM d a).2 b).2) := by
  rcases enc_cases d.enc h.enc with h1 | h1 | h1 | h1 | h1
  · have e : ∀ b, tellM d b = ((told8 (d.rest ++ b)).1, { d with rest := (told8 (d.rest ++ b)).2 }) := fun b => by rw [tellM, if_pos h1]
    rw [e a, e (a ++ b), tellM, if_pos (by exact h1), ← List.append_assoc, told8_app _ (d.rest ++ a) b (Nat.le_refl _)]
  · have e : ∀ b, tellM d b = ((told16 (d.enc == 3) (d.rest ++ b)).1, { d with rest := (told16 (d.enc == 3) (d.rest ++ b)).2 }) := fun b => by rw [tellM, if_neg (by omega), if_pos h1]
    rw [e a, e (a ++ b), tellM, if_neg (by simp only; omega), if_pos (by exact h1), ← List.append_assoc, told16_app _ _ (d.rest ++ a) b (Nat.le_refl _)]
  · have e : ∀ b, tellM d b = (allE d.enc (d.rest ++ b), d) := fun b => by rw [tellM, if_neg (by omega), if_neg (by omega), if_neg (by omega), if_neg (by omega)]
    rw [e a, e (a ++ b)]
    simp only
    rw [e b, h.rn (by omega), List.nil_append, List.nil_append, List.nil_append]
    have e2 : ∀ s, allE d.enc s = decodeS (d.enc == 5) s := fun s => by rw [allE, if_neg (by omega), if_neg (by omega), if_pos h1]
    rw [e2, e2, e2, decodeS, List.map_append]
    rfl
  · have e : ∀ b, tellM d b = ((toldK false d.signs d.fresh (d.rest ++ b)).1, { d with signs := (toldK false d.signs d.fresh (d.rest ++ b)).2.1, fresh := (toldK false d.signs d.fresh (d.rest ++ b)).2.2.1, rest := (toldK false d.signs d.fresh (d.rest ++ b)).2.2.2 }) := fun b => by rw [tellM, if_neg (by omega), if_neg (by omega), if_pos h1]
    rw [e a, e (a ++ b), tellM, if_neg (by simp only; omega), if_neg (by simp only; omega), if_pos (by exact h1), ← List.append_assoc, toldK_app false _ (d.rest ++ a) b _ _ (Nat.le_refl _)]
  · have e : ∀ d : St, d.enc = 7 → ∀ b, tellM d b = (if d.stopped = true ∨ d.rest ++ b = [] then ([], d) else ([65533], { d with stopped := true })) := fun d h1 b => by rw [tellM, if_neg (by omega), if_neg (by omega), if_neg (by omega), if_pos h1]
    have hr := h.rn (by omega)
    by_cases ha : a = []
    · subst ha
      rw [List.nil_append, e d h1 [], if_pos (.inr (by rw [hr]; rfl))]
      rfl
    · by_cases hs : d.stopped = true
      · rw [e d h1 (a ++ b), e d h1 a, if_pos (.inl hs), if_pos (.inl hs), e d h1 b, if_pos (.inl hs)]
        rfl
      · rw [e d h1 (a ++ b), e d h1 a, if_neg (by simp [hs, ha]), if_neg (by simp [hs, ha])]
        simp only
        rw [e { d with stopped := true } h1 b, if_pos (.inl rfl)]
        rfl
theorem endM_nil (d : St) (h : d.rest = []) : endM d = [] := by rw [endM, if_pos h]
theorem endM_one (d : St) (h : d.rest ≠ []) (h2 : d.enc ≠ 6) : endM d = [65533] := by rw [endM, if_neg h, if_neg h2]
theorem endM_k (d : St) (h2 : d.enc = 6) : endM d = (toldK true d.signs d.fresh d.rest).1 := by
  by_cases h : d.rest = []
  · rw [endM_nil d h, h, toldK_nil]
  · rw [endM, if_neg h, if_pos h2]
/-- What is told of all bytes at once. -/
theorem raw_all (n : Int) (h : isEnc n = true) (s : Bs) : (rawM (opn n) s true).1 = allE n s := by
  rw [rawM, if_pos rfl]
  obtain ⟨t1, t2, t3, t4, t5⟩ := tell_opn n s
  rcases enc_cases n h with h1 | h1 | h1 | h1 | h1
  · rw [t1 h1, allE, if_pos h1, all8]
    by_cases hr : (told8 s).2 = []
    · rw [endM_nil _ hr, if_pos hr]; simp
    · rw [endM_one _ hr (by simp only [opn]; omega), if_neg hr]
  · rw [t2 h1, allE, if_neg (by omega), if_pos h1, all16]
    by_cases hr : (told16 (n == 3) s).2 = []
    · rw [endM_nil _ hr, if_pos hr]; simp
    · rw [endM_one _ hr (by simp only [opn]; omega), if_neg hr]
  · rw [t3 h1, allE, if_neg (by omega), if_neg (by omega), if_pos h1, endM_nil _ rfl]
    simp
  · rw [t4 h1, allE, if_neg (by omega), if_neg (by omega), if_neg (by omega), if_pos h1, allK, endM_k _ h1]
    have := toldK_app true _ s [] 0 false (Nat.le_refl _)
    rw [List.append_nil, List.append_nil] at this
    rw [this]
  · have ea : allE n s = if s = [] then [] else [65533] := by rw [allE, if_neg (by omega), if_neg (by omega), if_neg (by omega), if_neg (by omega)]
    rw [t5 h1, ea]
    by_cases hs : s = []
    · rw [if_pos hs, if_pos hs, endM_nil _ rfl]; rfl
    · rw [if_neg hs, if_neg hs, endM_nil _ rfl]; rfl
/-- Pieces. -/
theorem raw_app (d : St) (h : Right d) (a b : Bs) (last : Bool) : rawM d (a ++ b) last = ((rawM d a false).1 ++ (rawM (rawM d a false).2 b last).1, (rawM (rawM d a false).2 b last).2) := by
  have e := tell_app d h a b
  simp only [rawM, if_neg (show ¬ (false = true) by decide)]
  cases last
  · simp only [if_neg (show ¬ (false = true) by decide)]; exact e
  · simp only [if_true, e, tell_enc, List.append_assoc]
theorem right_raw (d : St) (b : Bs) (last : Bool) (h : Right d) : Right (rawM d b last).2 := by
  unfold rawM
  split
  · exact right_opn _ h.enc
  · exact right_tell d b h
theorem raw_enc (d : St) (b : Bs) (last : Bool) : (rawM d b last).2.enc = d.enc := by
  unfold rawM
  split
  · rfl
  · exact tell_enc d b
theorem raw_last (d : St) (b : Bs) : (rawM d b true).2 = opn d.enc := by rw [rawM, if_pos rfl]
/-- The document's way to feed: what is left is told as one Bad. -/
def refM (d : St) (b : Bs) (last : Bool) : List Int × St :=
  let s := d.rest ++ b
  let r : List Int × Int × Bool × Bool × Bs :=
    if d.enc = 1 then ((told8 s).1, d.signs, d.fresh, d.stopped, (told8 s).2)
    else if d.enc = 2 ∨ d.enc = 3 then ((told16 (d.enc == 3) s).1, d.signs, d.fresh, d.stopped, (told16 (d.enc == 3) s).2)
    else if d.enc = 4 ∨ d.enc = 5 then (decodeS (d.enc == 5) s, d.signs, d.fresh, d.stopped, [])
    else if d.enc = 6 then ((toldK last d.signs d.fresh s).1, (toldK last d.signs d.fresh s).2.1, (toldK last d.signs d.fresh s).2.2.1, d.stopped, (toldK last d.signs d.fresh s).2.2.2)
    else if d.enc = 7 ∧ s ≠ [] ∧ d.stopped = false then ([65533], d.signs, d.fresh, true, [])
    else ([], d.signs, d.fresh, d.stopped, [])
  if last = true then (if r.2.2.2.2 = [] then r.1 else r.1 ++ [65533], opn d.enc) else (r.1, ⟨d.enc, r.2.2.2.2, r.2.1, r.2.2.1, r.2.2.2.1⟩)
theorem ref_raw (d : St) (h : Right d) (b : Bs) (last : Bool) : refM d b last = rawM d b last := by
  rcases enc_cases d.enc h.enc with h1 | h1 | h1 | h1 | h1
  · have e : tellM d b = ((told8 (d.rest ++ b)).1, { d with rest := (told8 (d.rest ++ b)).2 }) := by rw [tellM, if_pos h1]
    simp only [refM, if_pos h1, rawM, e]
    cases last
    · rfl
    · simp only [if_true, Prod.mk.injEq, and_true]
      by_cases hr : (told8 (d.rest ++ b)).2 = []
      · rw [endM_nil _ hr, if_pos hr]; simp
      · rw [endM_one _ hr (by simp only; omega), if_neg hr]
  · have e : tellM d b = ((told16 (d.enc == 3) (d.rest ++ b)).1, { d with rest := (told16 (d.enc == 3) (d.rest ++ b)).2 }) := by rw [tellM, if_neg (by omega), if_pos h1]
    simp only [refM, if_neg (show ¬ d.enc = 1 by omega), if_pos h1, rawM, e]
    cases last
    · rfl
    · simp only [if_true, Prod.mk.injEq, and_true]
      by_cases hr : (told16 (d.enc == 3) (d.rest ++ b)).2 = []
      · rw [endM_nil _ hr, if_pos hr]; simp
      · rw [endM_one _ hr (by simp only; omega), if_neg hr]
  · have e : tellM d b = (allE d.enc (d.rest ++ b), d) := by rw [tellM, if_neg (by omega), if_neg (by omega), if_neg (by omega), if_neg (by omega)]
    have e2 : ∀ s, allE d.enc s = decodeS (d.enc == 5) s := fun s => by rw [allE, if_neg (by omega), if_neg (by omega), if_pos h1]
    have hr := h.rn (by omega)
    simp only [refM, if_neg (show ¬ d.enc = 1 by omega), if_neg (show ¬ (d.enc = 2 ∨ d.enc = 3) by omega), if_pos h1, rawM, e, e2]
    cases last
    · obtain ⟨n, r, g, f, s⟩ := d
      simp only at hr
      subst hr
      rfl
    · rw [endM_nil d hr]; simp
  · have e : tellM d b = ((toldK false d.signs d.fresh (d.rest ++ b)).1, { d with signs := (toldK false d.signs d.fresh (d.rest ++ b)).2.1, fresh := (toldK false d.signs d.fresh (d.rest ++ b)).2.2.1, rest := (toldK false d.signs d.fresh (d.rest ++ b)).2.2.2 }) := by rw [tellM, if_neg (by omega), if_neg (by omega), if_pos h1]
    simp only [refM, if_neg (show ¬ d.enc = 1 by omega), if_neg (show ¬ (d.enc = 2 ∨ d.enc = 3) by omega), if_neg (show ¬ (d.enc = 4 ∨ d.enc = 5) by omega), if_pos h1, rawM, e]
    cases last
    · rfl
    · have hl := toldK_app true _ (d.rest ++ b) [] d.signs d.fresh (Nat.le_refl _)
      rw [List.append_nil, List.append_nil] at hl
      have hr : (toldK true d.signs d.fresh (d.rest ++ b)).2.2.2 = [] := by
        rcases (toldK_rest true _ (d.rest ++ b) d.signs d.fresh (Nat.le_refl _)).2 with h2 | ⟨h2, _⟩
        · exact h2
        · cases h2
      simp only [if_true, hr, Prod.mk.injEq, and_true]
      rw [endM_k _ (by exact h1), hl]
  · have e : tellM d b = (if d.stopped = true ∨ d.rest ++ b = [] then ([], d) else ([65533], { d with stopped := true })) := by rw [tellM, if_neg (by omega), if_neg (by omega), if_neg (by omega), if_pos h1]
    have hr := h.rn (by omega)
    simp only [refM, if_neg (show ¬ d.enc = 1 by omega), if_neg (show ¬ (d.enc = 2 ∨ d.enc = 3) by omega), if_neg (show ¬ (d.enc = 4 ∨ d.enc = 5) by omega), if_neg (show ¬ d.enc = 6 by omega), rawM, e]
    obtain ⟨n, r, g, f, s⟩ := d
    simp only at hr h1
    subst hr
    subst h1
    by_cases hb : b = [] <;> cases s <;> cases last <;> simp [hb, endM, opn]
end Go.Proofs.YthaoohckgilahaaDoor.M

/-
  Texts of the proof, laid together: PlainStream, PlainSingle, PlainMap, PlainEnc, Base8, BaseA, Attr4, PlainLabel2, Label2, Label3, Attr5. No condition of its own.
-/
import Derived.Test.YthaoohckgilahaaDoorG2
import Derived.Test.YthaoohckgilahaaDoorG1
import Derived.Maps.Views
import Derived.Lib.ItoaNum
import Derived.Test.YthaoohckgilahaaDoorShelf
import Derived.Lib.LaidTab

/-
  Bytes that come in pieces, in plain functions and laws.
-/
namespace Go.Proofs.YthaoohckgilahaaDoor.M
open Go

structure St where
  enc : Int
  rest : Bs
  signs : Int
  fresh : Bool
  stopped : Bool
  deriving DecidableEq
def opn (n : Int) : St := ⟨n, [], 0, false, false⟩
def allE (n : Int) (s : Bs) : List Int :=
  if n = 1 then all8 s else if n = 2 ∨ n = 3 then all16 (n == 3) s else if n = 4 ∨ n = 5 then decodeS (n == 5) s else if n = 6 then allK s else if s = [] then [] else [65533]
def tellM (d : St) (b : Bs) : List Int × St :=
  if d.enc = 1 then ((told8 (d.rest ++ b)).1, { d with rest := (told8 (d.rest ++ b)).2 })
  else if d.enc = 2 ∨ d.enc = 3 then ((told16 (d.enc == 3) (d.rest ++ b)).1, { d with rest := (told16 (d.enc == 3) (d.rest ++ b)).2 })
  else if d.enc = 6 then ((toldK false d.signs d.fresh (d.rest ++ b)).1, { d with signs := (toldK false d.signs d.fresh (d.rest ++ b)).2.1, fresh := (toldK false d.signs d.fresh (d.rest ++ b)).2.2.1, rest := (toldK false d.signs d.fresh (d.rest ++ b)).2.2.2 })
  else if d.enc = 7 then (if d.stopped = true ∨ d.rest ++ b = [] then ([], d) else ([65533], { d with stopped := true }))
  else (allE d.enc (d.rest ++ b), d)
def endM (d : St) : List Int := if d.rest = [] then [] else if d.enc = 6 then (toldK true d.signs d.fresh d.rest).1 else [65533]
def rawM (d : St) (b : Bs) (last : Bool) : List Int × St := if last = true then ((tellM d b).1 ++ endM (tellM d b).2, opn d.enc) else tellM d b
def restOk (n : Int) (s : Bs) : Bool := decide (s = [] ∨ ((tellM (opn n) s).1 = [] ∧ (tellM (opn n) s).2.rest = s))
def stateOk (d : St) : Bool := !(decide (d.signs < 0 ∨ 2 < d.signs) || (decide (d.enc ≠ 6) && (decide (d.signs ≠ 0) || d.fresh)) || (decide (d.enc ≠ 7) && d.stopped))
def checkM (d : St) : Int := if isEnc d.enc = false then 6 else if 3 < d.rest.length ∨ restOk d.enc d.rest = false then 1 else if stateOk d = false then 4 else 0
def readyE (n : Int) (s : Bs) : Int := if isEnc n = false then 6 else if 3000 < s.length then 2 else 0
def decE (n : Int) (s : Bs) : List Int × Int := if readyE n s = 0 then (allE n s, 0) else ([], readyE n s)
def openE (n : Int) : St × Int := if isEnc n = true then (opn n, 0) else (⟨0, [], 0, false, false⟩, 6)
def feedE (d : St) (b : Bs) (last : Bool) : List Int × St × Int :=
  if checkM d = 0 then (if 3000 < b.length then ([], ⟨0, [], 0, false, false⟩, 2) else ((rawM d b last).1, (rawM d b last).2, 0)) else ([], ⟨0, [], 0, false, false⟩, checkM d)

/-! ## UTF-8 and UTF-16 in pieces -/
theorem go8_app : ∀ (m : Nat) (l b : Bs) (i n lo hi : Int), (go8 m l i n lo hi).2.2 = true → go8 m (l ++ b) i n lo hi = go8 m l i n lo hi
  | 0, l, b, i, n, lo, hi, _ => by rw [go8, go8]
  | m + 1, [], b, i, n, lo, hi, h => by simp [go8] at h
  | m + 1, c :: t, b, i, n, lo, hi, h => by
    rw [List.cons_append, go8]
    rw [go8] at h ⊢
    split
    · rfl
    · rename_i hc
      rw [if_neg hc] at h
      exact go8_app m t b _ _ _ _ h
theorem first8_app (c : UInt8) (t b : Bs) (h : (first8 (c :: t)).2.2 = true) : first8 (c :: t ++ b) = first8 (c :: t) := by
  rw [List.cons_append, first8]
  rw [first8] at h ⊢
  split
  · rfl
  · rename_i hc
    rw [if_neg hc] at h
    exact go8_app _ _ _ _ _ _ _ h
theorem told8_app : ∀ (k : Nat) (s b : Bs), s.length ≤ k → told8 (s ++ b) = ((told8 s).1 ++ (told8 ((told8 s).2 ++ b)).1, (told8 ((told8 s).2 ++ b)).2)
  | _, [], b, _ => by simp [told8_nil]
  | 0, _ :: _, _, h => by simp at h
  | k + 1, c :: t, b, h => by
    simp only [List.length_cons] at h
    cases hb : (first8 (c :: t)).2.2 with
    | false => rw [told8_no c t hb]; simp
    | true =>
      obtain ⟨h1, h2⟩ := first8_bounds c t
      have hf := first8_app c t b hb
      have hd : (c :: t ++ b).drop (first8 (c :: t)).2.1.toNat = (c :: t).drop (first8 (c :: t)).2.1.toNat ++ b := List.drop_append_of_le_length (by omega)
      rw [told8_ok c t hb]
      have e := told8_ok c (t ++ b) (by rw [← List.cons_append, hf]; exact hb)
      rw [← List.cons_append, hf, hd] at e
      rw [e, told8_app k _ b (by rw [List.length_drop]; simp only [List.length_cons] at h2 ⊢; omega)]
      rfl
theorem told8_again : ∀ (k : Nat) (s : Bs), s.length ≤ k → told8 (told8 s).2 = ([], (told8 s).2)
  | _, [], _ => rfl
  | 0, _ :: _, h => by simp at h
  | k + 1, c :: t, h => by
    simp only [List.length_cons] at h
    cases hb : (first8 (c :: t)).2.2 with
    | false => rw [told8_no c t hb]; exact told8_no c t hb
    | true =>
      obtain ⟨h1, h2⟩ := first8_bounds c t
      rw [told8_ok c t hb]
      exact told8_again k _ (by rw [List.length_drop]; simp only [List.length_cons] at h2 ⊢; omega)
theorem told8_rest (s : Bs) : (told8 s).2.length ≤ 3 := by
  obtain ⟨_, _, h, _⟩ := told8_cut _ s (Nat.le_refl _)
  exact h
theorem told16_app (big : Bool) : ∀ (k : Nat) (s b : Bs), s.length ≤ k → told16 big (s ++ b) = ((told16 big s).1 ++ (told16 big ((told16 big s).2 ++ b)).1, (told16 big ((told16 big s).2 ++ b)).2)
  | _, [], b, _ => by simp [told16_nil]
  | _, [a], b, _ => by simp [told16_one]
  | 0, _ :: _ :: _, _, h => by simp at h
  | k + 1, a :: c :: t, b, h => by
    simp only [List.length_cons] at h
    rcases say16 big a c t with ⟨h0, e⟩ | ⟨_, h2, e⟩ | ⟨x, y, u, rfl, h1, h2, e⟩ | ⟨x, y, u, rfl, h1, h2, e⟩
    · rw [e, List.cons_append, List.cons_append, told16_plain big a c (t ++ b) h0, told16_app big k t b (by omega)]; rfl
    · rw [e]; simp
    · simp only [List.length_cons] at h
      rw [e, List.cons_append, List.cons_append, List.cons_append, List.cons_append, told16_two big a c x y (u ++ b) h1 h2, told16_app big k u b (by omega)]; rfl
    · have ih := told16_app big k (x :: y :: u) b (by omega)
      rw [List.cons_append, List.cons_append] at ih
      rw [e, List.cons_append, List.cons_append, List.cons_append, List.cons_append, told16_lone big a c x y (u ++ b) h1 h2, ih]; rfl
theorem told16_again (big : Bool) : ∀ (k : Nat) (s : Bs), s.length ≤ k → told16 big (told16 big s).2 = ([], (told16 big s).2)
  | _, [], _ => by rw [told16_nil]; exact told16_nil big
  | _, [a], _ => by rw [told16_one]; exact told16_one big a
  | 0, _ :: _ :: _, h => by simp at h
  | k + 1, a :: c :: t, h => by
    simp only [List.length_cons] at h
    rcases say16 big a c t with ⟨h0, e⟩ | ⟨_, h2, e⟩ | ⟨x, y, u, rfl, h1, h2, e⟩ | ⟨x, y, u, rfl, h1, h2, e⟩
    · rw [e]; exact told16_again big k t (by omega)
    · rw [e]; exact e
    · simp only [List.length_cons] at h
      rw [e]; exact told16_again big k u (by omega)
    · rw [e]; exact told16_again big k _ (by omega)
/-! ## States that are right -/
theorem enc_cases (n : Int) (h : isEnc n = true) : n = 1 ∨ (n = 2 ∨ n = 3) ∨ (n = 4 ∨ n = 5) ∨ n = 6 ∨ n = 7 := by
  simp only [isEnc, decide_eq_true_eq] at h; omega
theorem toldK_signs (last : Bool) : ∀ (k : Nat) (s : Bs) (g : Int) (f : Bool), s.length ≤ k → 0 ≤ g ∧ g ≤ 2 → 0 ≤ (toldK last g f s).2.1 ∧ (toldK last g f s).2.1 ≤ 2
  | _, [], g, f, _, hg => by rw [toldK_nil]; exact hg
  | 0, _ :: _, _, _, h, _ => by simp at h
  | k + 1, c :: t, g, f, h, hg => by
    simp only [List.length_cons] at h
    rcases sayK last g f c t with ⟨_, e⟩ | ⟨rfl, q, x, u, rfl, hq, _, e⟩ | ⟨rfl, h1, _, h2, e⟩ | ⟨rfl, _, _, e⟩
    · rw [e]; exact toldK_signs last k t g false (by omega) hg
    · simp only [List.length_cons] at h
      rw [e]
      refine toldK_signs last k u q true (by omega) ?_
      unfold escK at hq
      (repeat' split at hq) <;> first | (injection hq with hq; omega) | cases hq
    · rw [e]; exact hg
    · rw [e]; exact toldK_signs last k t g false (by omega) hg
/-- What a right state is. -/
structure Right (d : St) : Prop where
  enc : isEnc d.enc = true
  r8 : d.enc = 1 → told8 d.rest = ([], d.rest)
  r16 : d.enc = 2 ∨ d.enc = 3 → told16 (d.enc == 3) d.rest = ([], d.rest)
  rk : d.enc = 6 → d.rest = [] ∨ d.rest = [27] ∨ d.rest = [27, 40]
  rn : d.enc = 4 ∨ d.enc = 5 ∨ d.enc = 7 → d.rest = []
  len : d.rest.length ≤ 3
  sg : 0 ≤ d.signs ∧ d.signs ≤ 2
  nk : d.enc ≠ 6 → d.signs = 0 ∧ d.fresh = false
  ns : d.enc ≠ 7 → d.stopped = false
theorem decodeS_nil (user : Bool) (s : Bs) : decodeS user s = [] ↔ s = [] := by
  unfold decodeS; simp
theorem tell_opn (n : Int) (s : Bs) :
    (n = 1 → tellM (opn n) s = ((told8 s).1, { opn n with rest := (told8 s).2 })) ∧
    (n = 2 ∨ n = 3 → tellM (opn n) s = ((told16 (n == 3) s).1, { opn n with rest := (told16 (n == 3) s).2 })) ∧
    (n = 4 ∨ n = 5 → tellM (opn n) s = (decodeS (n == 5) s, opn n)) ∧
    (n = 6 → tellM (opn n) s = ((toldK false 0 false s).1, { opn n with signs := (toldK false 0 false s).2.1, fresh := (toldK false 0 false s).2.2.1, rest := (toldK false 0 false s).2.2.2 })) ∧
    (n = 7 → tellM (opn n) s = (if s = [] then ([], opn n) else ([65533], { opn n with stopped := true }))) := by
  refine ⟨fun h => ?_, fun h => ?_, fun h => ?_, fun h => ?_, fun h => ?_⟩
  · rw [tellM, if_pos (by exact h)]; rfl
  · rw [tellM, if_neg (by simp only [opn]; omega), if_pos (by exact h)]; rfl
  · rw [tellM, if_neg (by simp only [opn]; omega), if_neg (by simp only [opn]; omega), if_neg (by simp only [opn]; omega), if_neg (by simp only [opn]; omega)]
    show (allE n s, opn n) = _
    rw [allE, if_neg (by omega), if_neg (by omega), if_pos h]
  · rw [tellM, if_neg (by simp only [opn]; omega), if_neg (by simp only [opn]; omega), if_pos (by exact h)]; rfl
  · rw [tellM, if_neg (by simp only [opn]; omega), if_neg (by simp only [opn]; omega), if_neg (by simp only [opn]; omega), if_pos (by exact h)]; simp [opn]
theorem restOk_iff (n : Int) (h : isEnc n = true) (s : Bs) : restOk n s = true ↔ (n = 1 → told8 s = ([], s)) ∧ (n = 2 ∨ n = 3 → told16 (n == 3) s = ([], s)) ∧ (n = 6 → s = [] ∨ s = [27] ∨ s = [27, 40]) ∧ (n = 4 ∨ n = 5 ∨ n = 7 → s = []) := by
  unfold restOk
  rw [decide_eq_true_eq]
  obtain ⟨t1, t2, t3, t4, t5⟩ := tell_opn n s
  rcases enc_cases n h with h2 | h2 | h2 | h2 | h2
  · rw [t1 h2]
    constructor
    · rintro (rfl | ⟨h3, h4⟩)
      · exact ⟨fun _ => rfl, fun h => by omega, fun h => by omega, fun _ => rfl⟩
      · exact ⟨fun _ => Prod.ext h3 h4, fun h => by omega, fun h => by omega, fun h => by omega⟩
    · rintro ⟨h1, _⟩
      rw [h1 h2]
      exact .inr ⟨rfl, rfl⟩
  · rw [t2 h2]
    constructor
    · rintro (rfl | ⟨h3, h4⟩)
      · exact ⟨fun _ => rfl, fun _ => told16_nil _, fun h => by omega, fun _ => rfl⟩
      · exact ⟨fun h => by omega, fun _ => Prod.ext h3 h4, fun h => by omega, fun h => by omega⟩
    · rintro ⟨_, h1, _⟩
      rw [h1 h2]
      exact .inr ⟨rfl, rfl⟩
  · rw [t3 h2]
    constructor
    · rintro (rfl | ⟨h3, h4⟩)
      · exact ⟨fun h => by omega, fun h => by omega, fun h => by omega, fun _ => rfl⟩
      · exact ⟨fun h => by omega, fun h => by omega, fun h => by omega, fun _ => (decodeS_nil _ _).1 h3⟩
    · rintro ⟨_, _, _, h1⟩
      exact .inl (h1 (by omega))
  · rw [t4 h2]
    constructor
    · rintro (rfl | ⟨h3, h4⟩)
      · exact ⟨fun h => by omega, fun h => by omega, fun h => .inl rfl, fun _ => rfl⟩
      · refine ⟨fun h => by omega, fun h => by omega, fun _ => ?_, fun h => by omega⟩
        simp only at h3 h4
        cases s with
        | nil => exact .inl rfl
        | cons c t =>
          rcases sayK false 0 false c t with ⟨_, e⟩ | ⟨rfl, q, x, u, rfl, _, _, e⟩ | ⟨rfl, h1, _, h2, e⟩ | ⟨rfl, _, _, e⟩
          · rw [e] at h3; cases h3
          · have := (toldK_rest false _ u q true (Nat.le_refl _)).1
            rw [e] at h4
            have h4 := congrArg List.length h4
            simp only [List.length_cons] at h4
            omega
          · simp only [waitK, decide_eq_true_eq] at h1
            rcases h1 with rfl | rfl <;> simp
          · rw [e] at h3; cases h3
    · rintro ⟨_, _, h1, _⟩
      have := (waits_iff s 0 false).2 (h1 h2)
      rw [this]
      exact .inr ⟨rfl, rfl⟩
  · rw [t5 h2]
    constructor
    · rintro (rfl | ⟨h3, h4⟩)
      · exact ⟨fun h => by omega, fun h => by omega, fun h => .inl rfl, fun _ => rfl⟩
      · by_cases hs : s = []
        · subst hs; exact ⟨fun h => by omega, fun h => by omega, fun h => .inl rfl, fun _ => rfl⟩
        · rw [if_neg hs] at h3; cases h3
    · rintro ⟨_, _, _, h1⟩
      exact .inl (h1 (by omega))
theorem check_right (d : St) : checkM d = 0 ↔ Right d := by
  unfold checkM
  constructor
  · intro h
    split at h
    · cases h
    · rename_i h1
      rw [Bool.not_eq_false] at h1
      split at h
      · cases h
      · rename_i h2
        split at h
        · cases h
        · rename_i h3
          have h4 : restOk d.enc d.rest = true := by rw [← Bool.not_eq_false]; exact fun hh => h2 (.inr hh)
          obtain ⟨a1, a2, a3, a4⟩ := (restOk_iff d.enc h1 d.rest).1 h4
          simp only [stateOk, Bool.not_eq_false', Bool.or_eq_true, Bool.and_eq_true, decide_eq_true_eq, not_or, not_and] at h3
          obtain ⟨⟨b1, b2⟩, b3⟩ := h3
          refine ⟨h1, a1, a2, a3, a4, by omega, by omega, fun h6 => ?_, fun h7 => ?_⟩
          · have := b2 h6
            exact ⟨by omega, by simpa using this.2⟩
          · simpa using b3 h7
  · intro h
    rw [if_neg (by rw [h.enc]; decide), if_neg, if_neg]
    · have hk := h.nk
      have hs := h.ns
      have hg := h.sg
      simp only [stateOk, Bool.not_eq_false', Bool.or_eq_true, Bool.and_eq_true, decide_eq_true_eq, not_or, not_and]
      refine ⟨⟨by omega, fun h6 => ?_⟩, fun h7 => by simp [hs h7]⟩
      obtain ⟨h8, h9⟩ := hk h6
      exact ⟨by omega, by simp [h9]⟩
    · rintro (hh | hh)
      · have := h.len; omega
      · rw [(restOk_iff d.enc h.enc d.rest).2 ⟨h.r8, h.r16, h.rk, h.rn⟩] at hh; cases hh
theorem right_opn (n : Int) (h : isEnc n = true) : Right (opn n) :=
  ⟨h, fun _ => rfl, fun _ => told16_nil _, fun _ => .inl rfl, fun _ => rfl, by simp [opn], by simp [opn], fun _ => ⟨rfl, rfl⟩, fun _ => rfl⟩
theorem tell_enc (d : St) (b : Bs) : (tellM d b).2.enc = d.enc := by
  unfold tellM; (repeat' split) <;> rfl
theorem right_tell (d : St) (b : Bs) (h : Right d) : Right (tellM d b).2 := by
  rcases enc_cases d.enc h.enc with h1 | h1 | h1 | h1 | h1
  · have e : tellM d b = ((told8 (d.rest ++ b)).1, { d with rest := (told8 (d.rest ++ b)).2 }) := by rw [tellM, if_pos h1]
    rw [e]
    exact ⟨h.enc, fun _ => told8_again _ _ (Nat.le_refl _), fun h2 => by simp only at h2; omega, fun h2 => by simp only at h2; omega, fun h2 => by simp only at h2; omega, told8_rest _, h.sg, h.nk, h.ns⟩
  · have e : tellM d b = ((told16 (d.enc == 3) (d.rest ++ b)).1, { d with rest := (told16 (d.enc == 3) (d.rest ++ b)).2 }) := by rw [tellM, if_neg (by omega), if_pos h1]
    rw [e]
    exact ⟨h.enc, fun h2 => by simp only at h2; omega, fun _ => told16_again _ _ _ (Nat.le_refl _), fun h2 => by simp only at h2; omega, fun h2 => by simp only at h2; omega, (told16_len _ _ _ (Nat.le_refl _)).2, h.sg, h.nk, h.ns⟩
  · have e : tellM d b = (allE d.enc (d.rest ++ b), d) := by rw [tellM, if_neg (by omega), if_neg (by omega), if_neg (by omega), if_neg (by omega)]
    rw [e]; exact h
  · have e : tellM d b = ((toldK false d.signs d.fresh (d.rest ++ b)).1, { d with signs := (toldK false d.signs d.fresh (d.rest ++ b)).2.1, fresh := (toldK false d.signs d.fresh (d.rest ++ b)).2.2.1, rest := (toldK false d.signs d.fresh (d.rest ++ b)).2.2.2 }) := by rw [tellM, if_neg (by omega), if_neg (by omega), if_pos h1]
    rw [e]
    have hr := (toldK_rest false _ (d.rest ++ b) d.signs d.fresh (Nat.le_refl _)).2
    have hr2 : (toldK false d.signs d.fresh (d.rest ++ b)).2.2.2 = [] ∨ (toldK false d.signs d.fresh (d.rest ++ b)).2.2.2 = [27] ∨ (toldK false d.signs d.fresh (d.rest ++ b)).2.2.2 = [27, 40] := by
      rcases hr with hr | ⟨_, t, ht, hr⟩
      · exact .inl hr
      · simp only [waitK, decide_eq_true_eq] at ht
        rcases ht with rfl | rfl
        · exact .inr (.inl hr)
        · exact .inr (.inr hr)
    refine ⟨h.enc, fun h2 => by simp only at h2; omega, fun h2 => by simp only at h2; omega, fun _ => hr2, fun h2 => by simp only at h2; omega, ?_, toldK_signs false _ _ _ _ (Nat.le_refl _) h.sg, fun h2 => absurd h1 h2, h.ns⟩
    rcases hr2 with hr2 | hr2 | hr2 <;> simp [hr2]
  · have e : tellM d b = (if d.stopped = true ∨ d.rest ++ b = [] then ([], d) else ([65533], { d with stopped := true })) := by rw [tellM, if_neg (by omega), if_neg (by omega), if_neg (by omega), if_pos h1]
    rw [e]
    split
    · exact h
    · exact ⟨h.enc, h.r8, h.r16, h.rk, h.rn, h.len, h.sg, h.nk, fun h2 => absurd h1 h2⟩
/-- Two parts: the second one goes on where the first one stopped. -/
theorem tell_app (d : St) (h : Right d) (a b : Bs) : tellM d (a ++ b) = ((tellM d a).1 ++ (tellM (tellM d a).2 b).1, (tellM (tellM d a).2 b).2) := by
  rcases enc_cases d.enc h.enc with h1 | h1 | h1 | h1 | h1
  · have e : ∀ b, tellM d b = ((told8 (d.rest ++ b)).1, { d with rest := (told8 (d.rest ++ b)).2 }) := fun b => by rw [tellM, if_pos h1]
    rw [e a, e (a ++ b), tellM, if_pos (by exact h1), ← List.append_assoc, told8_app _ (d.rest ++ a) b (Nat.le_refl _)]
  · have e : ∀ b, tellM d b = ((told16 (d.enc == 3) (d.rest ++ b)).1, { d with rest := (told16 (d.enc == 3) (d.rest ++ b)).2 }) := fun b => by rw [tellM, if_neg (by omega), if_pos h1]
    rw [e a, e (a ++ b), tellM, if_neg (by simp only; omega), if_pos (by exact h1), ← List.append_assoc, told16_app _ _ (d.rest ++ a) b (Nat.le_refl _)]
  · have e : ∀ b, tellM d b = (allE d.enc (d.rest ++ b), d) := fun b => by rw [tellM, if_neg (by omega), if_neg (by omega), if_neg (by omega), if_neg (by omega)]
    rw [e a, e (a ++ b)]
    simp only
    rw [e b, h.rn (by omega), List.nil_append, List.nil_append, List.nil_append]
    have e2 : ∀ s, allE d.enc s = decodeS (d.enc == 5) s := fun s => by rw [allE, if_neg (by omega), if_neg (by omega), if_pos h1]
    rw [e2, e2, e2, decodeS, List.map_append]
    rfl
  · have e : ∀ b, tellM d b = ((toldK false d.signs d.fresh (d.rest ++ b)).1, { d with signs := (toldK false d.signs d.fresh (d.rest ++ b)).2.1, fresh := (toldK false d.signs d.fresh (d.rest ++ b)).2.2.1, rest := (toldK false d.signs d.fresh (d.rest ++ b)).2.2.2 }) := fun b => by rw [tellM, if_neg (by omega), if_neg (by omega), if_pos h1]
    rw [e a, e (a ++ b), tellM, if_neg (by simp only; omega), if_neg (by simp only; omega), if_pos (by exact h1), ← List.append_assoc, toldK_app false _ (d.rest ++ a) b _ _ (Nat.le_refl _)]
  · have e : ∀ d : St, d.enc = 7 → ∀ b, tellM d b = (if d.stopped = true ∨ d.rest ++ b = [] then ([], d) else ([65533], { d with stopped := true })) := fun d h1 b => by rw [tellM, if_neg (by omega), if_neg (by omega), if_neg (by omega), if_pos h1]
    have hr := h.rn (by omega)
    by_cases ha : a = []
    · subst ha
      rw [List.nil_append, e d h1 [], if_pos (.inr (by rw [hr]; rfl))]
      rfl
    · by_cases hs : d.stopped = true
      · rw [e d h1 (a ++ b), e d h1 a, if_pos (.inl hs), if_pos (.inl hs), e d h1 b, if_pos (.inl hs)]
        rfl
      · rw [e d h1 (a ++ b), e d h1 a, if_neg (by simp [hs, ha]), if_neg (by simp [hs, ha])]
        simp only
        rw [e { d with stopped := true } h1 b, if_pos (.inl rfl)]
        rfl
theorem endM_nil (d : St) (h : d.rest = []) : endM d = [] := by rw [endM, if_pos h]
theorem endM_one (d : St) (h : d.rest ≠ []) (h2 : d.enc ≠ 6) : endM d = [65533] := by rw [endM, if_neg h, if_neg h2]
theorem endM_k (d : St) (h2 : d.enc = 6) : endM d = (toldK true d.signs d.fresh d.rest).1 := by
  by_cases h : d.rest = []
  · rw [endM_nil d h, h, toldK_nil]
  · rw [endM, if_neg h, if_pos h2]
/-- What is told of all bytes at once. -/
theorem raw_all (n : Int) (h : isEnc n = true) (s : Bs) : (rawM (opn n) s true).1 = allE n s := by
  rw [rawM, if_pos rfl]
  obtain ⟨t1, t2, t3, t4, t5⟩ := tell_opn n s
  rcases enc_cases n h with h1 | h1 | h1 | h1 | h1
  · rw [t1 h1, allE, if_pos h1, all8]
    by_cases hr : (told8 s).2 = []
    · rw [endM_nil _ hr, if_pos hr]; simp
    · rw [endM_one _ hr (by simp only [opn]; omega), if_neg hr]
  · rw [t2 h1, allE, if_neg (by omega), if_pos h1, all16]
    by_cases hr : (told16 (n == 3) s).2 = []
    · rw [endM_nil _ hr, if_pos hr]; simp
    · rw [endM_one _ hr (by simp only [opn]; omega), if_neg hr]
  · rw [t3 h1, allE, if_neg (by omega), if_neg (by omega), if_pos h1, endM_nil _ rfl]
    simp
  · rw [t4 h1, allE, if_neg (by omega), if_neg (by omega), if_neg (by omega), if_pos h1, allK, endM_k _ h1]
    have := toldK_app true _ s [] 0 false (Nat.le_refl _)
    rw [List.append_nil, List.append_nil] at this
    rw [this]
  · have ea : allE n s = if s = [] then [] else [65533] := by rw [allE, if_neg (by omega), if_neg (by omega), if_neg (by omega), if_neg (by omega)]
    rw [t5 h1, ea]
    by_cases hs : s = []
    · rw [if_pos hs, if_pos hs, endM_nil _ rfl]; rfl
    · rw [if_neg hs, if_neg hs, endM_nil _ rfl]; rfl
/-- Pieces. -/
theorem raw_app (d : St) (h : Right d) (a b : Bs) (last : Bool) : rawM d (a ++ b) last = ((rawM d a false).1 ++ (rawM (rawM d a false).2 b last).1, (rawM (rawM d a false).2 b last).2) := by
  have e := tell_app d h a b
  simp only [rawM, if_neg (show ¬ (false = true) by decide)]
  cases last
  · simp only [if_neg (show ¬ (false = true) by decide)]; exact e
  · simp only [if_true, e, tell_enc, List.append_assoc]
theorem right_raw (d : St) (b : Bs) (last : Bool) (h : Right d) : Right (rawM d b last).2 := by
  unfold rawM
  split
  · exact right_opn _ h.enc
  · exact right_tell d b h
theorem raw_enc (d : St) (b : Bs) (last : Bool) : (rawM d b last).2.enc = d.enc := by
  unfold rawM
  split
  · rfl
  · exact tell_enc d b
theorem raw_last (d : St) (b : Bs) : (rawM d b true).2 = opn d.enc := by rw [rawM, if_pos rfl]
/-- The document's way to feed: what is left is told as one Bad. -/
def refM (d : St) (b : Bs) (last : Bool) : List Int × St :=
  let s := d.rest ++ b
  let r : List Int × Int × Bool × Bool × Bs :=
    if d.enc = 1 then ((told8 s).1, d.signs, d.fresh, d.stopped, (told8 s).2)
    else if d.enc = 2 ∨ d.enc = 3 then ((told16 (d.enc == 3) s).1, d.signs, d.fresh, d.stopped, (told16 (d.enc == 3) s).2)
    else if d.enc = 4 ∨ d.enc = 5 then (decodeS (d.enc == 5) s, d.signs, d.fresh, d.stopped, [])
    else if d.enc = 6 then ((toldK last d.signs d.fresh s).1, (toldK last d.signs d.fresh s).2.1, (toldK last d.signs d.fresh s).2.2.1, d.stopped, (toldK last d.signs d.fresh s).2.2.2)
    else if d.enc = 7 ∧ s ≠ [] ∧ d.stopped = false then ([65533], d.signs, d.fresh, true, [])
    else ([], d.signs, d.fresh, d.stopped, [])
  if last = true then (if r.2.2.2.2 = [] then r.1 else r.1 ++ [65533], opn d.enc) else (r.1, ⟨d.enc, r.2.2.2.2, r.2.1, r.2.2.1, r.2.2.2.1⟩)
theorem ref_raw (d : St) (h : Right d) (b : Bs) (last : Bool) : refM d b last = rawM d b last := by
  rcases enc_cases d.enc h.enc with h1 | h1 | h1 | h1 | h1
  · have e : tellM d b = ((told8 (d.rest ++ b)).1, { d with rest := (told8 (d.rest ++ b)).2 }) := by rw [tellM, if_pos h1]
    simp only [refM, if_pos h1, rawM, e]
    cases last
    · rfl
    · simp only [if_true, Prod.mk.injEq, and_true]
      by_cases hr : (told8 (d.rest ++ b)).2 = []
      · rw [endM_nil _ hr, if_pos hr]; simp
      · rw [endM_one _ hr (by simp only; omega), if_neg hr]
  · have e : tellM d b = ((told16 (d.enc == 3) (d.rest ++ b)).1, { d with rest := (told16 (d.enc == 3) (d.rest ++ b)).2 }) := by rw [tellM, if_neg (by omega), if_pos h1]
    simp only [refM, if_neg (show ¬ d.enc = 1 by omega), if_pos h1, rawM, e]
    cases last
    · rfl
    · simp only [if_true, Prod.mk.injEq, and_true]
      by_cases hr : (told16 (d.enc == 3) (d.rest ++ b)).2 = []
      · rw [endM_nil _ hr, if_pos hr]; simp
      · rw [endM_one _ hr (by simp only; omega), if_neg hr]
  · have e : tellM d b = (allE d.enc (d.rest ++ b), d) := by rw [tellM, if_neg (by omega), if_neg (by omega), if_neg (by omega), if_neg (by omega)]
    have e2 : ∀ s, allE d.enc s = decodeS (d.enc == 5) s := fun s => by rw [allE, if_neg (by omega), if_neg (by omega), if_pos h1]
    have hr := h.rn (by omega)
    simp only [refM, if_neg (show ¬ d.enc = 1 by omega), if_neg (show ¬ (d.enc = 2 ∨ d.enc = 3) by omega), if_pos h1, rawM, e, e2]
    cases last
    · obtain ⟨n, r, g, f, s⟩ := d
      simp only at hr
      subst hr
      rfl
    · rw [endM_nil d hr]; simp
  · have e : tellM d b = ((toldK false d.signs d.fresh (d.rest ++ b)).1, { d with signs := (toldK false d.signs d.fresh (d.rest ++ b)).2.1, fresh := (toldK false d.signs d.fresh (d.rest ++ b)).2.2.1, rest := (toldK false d.signs d.fresh (d.rest ++ b)).2.2.2 }) := by rw [tellM, if_neg (by omega), if_neg (by omega), if_pos h1]
    simp only [refM, if_neg (show ¬ d.enc = 1 by omega), if_neg (show ¬ (d.enc = 2 ∨ d.enc = 3) by omega), if_neg (show ¬ (d.enc = 4 ∨ d.enc = 5) by omega), if_pos h1, rawM, e]
    cases last
    · rfl
    · have hl := toldK_app true _ (d.rest ++ b) [] d.signs d.fresh (Nat.le_refl _)
      rw [List.append_nil, List.append_nil] at hl
      have hr : (toldK true d.signs d.fresh (d.rest ++ b)).2.2.2 = [] := by
        rcases (toldK_rest true _ (d.rest ++ b) d.signs d.fresh (Nat.le_refl _)).2 with h2 | ⟨h2, _⟩
        · exact h2
        · cases h2
      simp only [if_true, hr, Prod.mk.injEq, and_true]
      rw [endM_k _ (by exact h1), hl]
  · have e : tellM d b = (if d.stopped = true ∨ d.rest ++ b = [] then ([], d) else ([65533], { d with stopped := true })) := by rw [tellM, if_neg (by omega), if_neg (by omega), if_neg (by omega), if_pos h1]
    have hr := h.rn (by omega)
    simp only [refM, if_neg (show ¬ d.enc = 1 by omega), if_neg (show ¬ (d.enc = 2 ∨ d.enc = 3) by omega), if_neg (show ¬ (d.enc = 4 ∨ d.enc = 5) by omega), if_neg (show ¬ d.enc = 6 by omega), rawM, e]
    obtain ⟨n, r, g, f, s⟩ := d
    simp only at hr h1
    subst hr
    subst h1
    by_cases hb : b = [] <;> cases s <;> cases last <;> simp [hb, endM, opn]
end Go.Proofs.YthaoohckgilahaaDoor.M

/-
  Plain laws on encodings of a byte a sign.
-/
namespace Go.Proofs.YthaoohckgilahaaDoor.M
open Go
theorem idx_found (xs : List Int) (n : Int) (k : Nat) (h : xs[k]? = some n) (hno : ∀ j, j < k → xs[j]? ≠ some n) : idx xs n = k := by
  have : xs.findIdx? (fun x => x == n) = some k := by
    rw [List.findIdx?_eq_some_iff_getElem]
    obtain ⟨hk, he⟩ := List.getElem?_eq_some_iff.1 h
    refine ⟨hk, by simp [he], fun j hj => ?_⟩
    have hjl : j < xs.length := by omega
    have := hno j hj
    rw [List.getElem?_eq_getElem hjl] at this
    simpa using this
  rw [idx, this]
theorem idx_none (xs : List Int) (n : Int) (hno : ∀ j, j < xs.length → xs[j]? ≠ some n) : idx xs n = -1 := by
  have : xs.findIdx? (fun x => x == n) = none := by
    rw [List.findIdx?_eq_none_iff]
    intro x hx
    obtain ⟨j, hj, rfl⟩ := List.getElem_of_mem hx
    have := hno j hj
    rw [List.getElem?_eq_getElem hj] at this
    simpa using this
  rw [idx, this]
theorem idx_cases (xs : List Int) (n : Int) : (idx xs n = -1 ∧ ∀ j, j < xs.length → xs[j]? ≠ some n) ∨ ∃ k : Nat, idx xs n = k ∧ xs[k]? = some n ∧ ∀ j, j < k → xs[j]? ≠ some n := by
  by_cases h : ∃ k : Nat, xs[k]? = some n
  · have h2 : ∃ k : Nat, xs[k]? = some n ∧ ∀ j, j < k → xs[j]? ≠ some n := by
      obtain ⟨k, hk⟩ := h
      induction k using Nat.strongRecOn with
      | _ k ih =>
        by_cases h3 : ∃ j : Nat, j < k ∧ xs[j]? = some n
        · obtain ⟨j, hj, hh⟩ := h3
          exact ih j hj hh
        · exact ⟨k, hk, fun j hj hh => h3 ⟨j, hj, hh⟩⟩
    obtain ⟨k, hk, hno⟩ := h2
    exact .inr ⟨k, idx_found xs n k hk hno, hk, hno⟩
  · have hno : ∀ j, j < xs.length → xs[j]? ≠ some n := fun j _ hh => h ⟨j, hh⟩
    exact .inl ⟨idx_none xs n hno, hno⟩
end Go.Proofs.YthaoohckgilahaaDoor.M

/-
  The map from code points to bytes that an encoder fills.
-/
namespace Go.Proofs.YthaoohckgilahaaDoor.M
open Go
theorem table_nodup : ∀ user, (tableOf user).Nodup := by decide +kernel
theorem pointOf_inj (user : Bool) (i j : Nat) (hi : i < 256) (hj : j < 256) (h : pointOf user i = pointOf user j) : i = j := by
  have hl : (tableOf user).length = 256 := by simp [tableOf]
  have h1 : (tableOf user)[i]'(by omega) = (tableOf user)[j]'(by omega) := by simpa [tableOf] using h
  exact (List.getElem_inj (table_nodup user)).1 h1
def Dk (user : Bool) : Nat → DataW Unit
  | 0 => .map []
  | k + 1 => (Dk user k).put (.int .i64 (pointOf user k)) (.lit (.int .i64 (k : Int)))
theorem key (n : Int) : WideAt.IsKeyLit (.int .i64 n) := by simp [WideAt.IsKeyLit]
theorem Dk_isMap (user : Bool) (k : Nat) : Maps.IsMap (Dk user k) := by
  cases k with
  | zero => exact Maps.isMap_empty
  | succ k => 
    induction k with
    | zero => exact Maps.isMap_empty.put _ _
    | succ k ih => exact ih.put _ _
theorem Dk_miss (user : Bool) (n : Int) : ∀ k, (∀ j, j < k → pointOf user j ≠ n) → Maps.has (Dk user k) (.int .i64 n) = false
  | 0, _ => rfl
  | k + 1, h => by
    rw [Dk, Maps.has_put_other (by intro e; injection e with _ e; exact h k (by omega) e.symm)]
    exact Dk_miss user n k (fun j hj => h j (by omega))
theorem Dk_hit (user : Bool) (n : Int) (j : Nat) (hn : pointOf user j = n) : ∀ k, k ≤ 256 → j < k → Maps.has (Dk user k) (.int .i64 n) = true ∧ ∀ z, (Dk user k).atKey (.int .i64 n) z = .lit (.int .i64 (j : Int))
  | 0, _, h => by omega
  | k + 1, hk, h => by
    by_cases e : j = k
    · subst e
      subst hn
      rw [Dk]
      exact ⟨Maps.has_put_same (Dk_isMap user _) (key _) _, fun z => Maps.atKey_put_same (Dk_isMap user _) (key _) _ z⟩
    · have hne : (Lit.int .i64 n) ≠ .int .i64 (pointOf user k) := by
        intro e2; injection e2 with _ e2
        exact e (pointOf_inj user j k (by omega) (by omega) (hn.trans e2))
      obtain ⟨h1, h2⟩ := Dk_hit user n j hn k (by omega) (by omega)
      rw [Dk]
      exact ⟨by rw [Maps.has_put_other hne]; exact h1, fun z => by rw [Maps.atKey_put_other hne]; exact h2 z⟩
/-- What a code point's byte is, and that there is one. -/
theorem byteOf_cases (user : Bool) (n : Int) : (byteOf user n = -1 ∧ ∀ j, j < 256 → pointOf user j ≠ n) ∨ ∃ j : Nat, j < 256 ∧ byteOf user n = j ∧ pointOf user j = n := by
  have hl : (tableOf user).length = 256 := by simp [tableOf]
  have ht : ∀ k, k < 256 → (tableOf user)[k]? = some (pointOf user k) := fun k hk => by simp [tableOf, hk]
  rcases idx_cases (tableOf user) n with ⟨h1, h2⟩ | ⟨k, h1, h2, _⟩
  · exact .inl ⟨h1, fun j hj e => h2 j (by omega) (by rw [ht j hj, e])⟩
  · have hk : k < 256 := by
      have := (List.getElem?_eq_some_iff.1 h2).1
      omega
    rw [ht k hk] at h2
    injection h2 with h2
    exact .inr ⟨k, hk, h1, h2⟩
theorem encodeS_append (user : Bool) (l m : List Int) : encodeS user (l ++ m) = match encodeS user l, encodeS user m with | some a, some b => some (a ++ b) | _, _ => none := by
  induction l with
  | nil => simp only [List.nil_append, encodeS]; cases encodeS user m <;> simp
  | cons n l ih =>
    simp only [List.cons_append, encodeS]
    split
    · rfl
    · rw [ih]
      cases encodeS user l <;> cases encodeS user m <;> simp
theorem encodeS_hit (user : Bool) (xs : List Int) (k : Nat) (n : Int) (j : Nat) (l : Bs) (hx : xs[k]? = some n) (hb : byteOf user n = j) (h : encodeS user (xs.take k) = some l) : encodeS user (xs.take (k + 1)) = some (l ++ [UInt8.ofNat j]) := by
  rw [List.take_add_one, hx, encodeS_append, h]
  have : ¬ ((j : Int) < 0) := by omega
  simp [encodeS, hb, this]
theorem encodeS_miss (user : Bool) (xs : List Int) (k : Nat) (n : Int) (hx : xs[k]? = some n) (hb : byteOf user n = -1) : encodeS user xs = none := by
  have hk := (List.getElem?_eq_some_iff.1 hx).1
  have : xs = xs.take k ++ (n :: xs.drop (k + 1)) := by
    have h2 : xs[k] = n := (List.getElem?_eq_some_iff.1 hx).2
    rw [← h2, ← List.drop_eq_getElem_cons hk, List.take_append_drop]
  rw [this, encodeS_append]
  simp [encodeS, hb]
theorem rawS_cases (user : Bool) (xs : List Int) : rawS user xs = ([], 5) ∨ ∃ l, rawS user xs = (l, 0) := by
  unfold rawS
  cases encodeS user xs with
  | none => exact .inl rfl
  | some l => exact .inr ⟨l, rfl⟩
theorem byteOf_point (user : Bool) (k : Nat) (hk : k < 256) : byteOf user (pointOf user k) = k := by
  rcases byteOf_cases user (pointOf user k) with ⟨_, h⟩ | ⟨j, hj, h, hp⟩
  · exact absurd rfl (h k hk)
  · rw [h, pointOf_inj user j k hj hk hp]
theorem encodeS_decodeS (user : Bool) (l : Bs) : encodeS user (decodeS user l) = some l := by
  induction l with
  | nil => rfl
  | cons c t ih =>
    have hc : c.toNat < 256 := c.toNat_lt
    show encodeS user (pointOf user c.toNat :: decodeS user t) = _
    rw [encodeS, byteOf_point user c.toNat hc, if_neg (by omega), ih]
    simp
theorem encode_decode (user : Bool) (l : Bs) (h : l.length ≤ 3000) : encS user (decodeS user l) = (l, 0) := by
  rw [encS, if_neg (by rw [decodeS, List.length_map]; omega), rawS, encodeS_decodeS]
end Go.Proofs.YthaoohckgilahaaDoor.M

/-
  Code points as bytes, in plain functions and laws.
-/
namespace Go.Proofs.YthaoohckgilahaaDoor.M
open Go

def outE (n : Int) : Int := if n = 2 ∨ n = 3 ∨ n = 7 then 1 else n
def hasE (e n : Int) : Bool := if e = 4 ∨ e = 5 then decide (0 ≤ byteOf (e == 5) n) else if e = 6 then hasK n else true
def numE (n : Int) : Bs := [38, 35] ++ Lib.itoa n ++ [59]
def toldE (e : Int) (l : List Int) : List Int := l.flatMap (fun n => if hasE e n = true then [n] else (numE n).map (fun c => (c.toNat : Int)))
def writeE (e : Int) (l : List Int) : Bs × Int := if e = 4 ∨ e = 5 then rawS (e == 5) l else if e = 6 then rawK l else (bytes8 l, 0)
def outputE (n : Int) : Int × Int := if isEnc n = true then (outE n, 0) else (0, 6)
def hasEE (e n : Int) : Bool × Int := if isEnc e = false then (false, 6) else if scalar n = false then (false, 3) else (hasE (outE e) n, 0)
def encE (e mode : Int) (l : List Int) : Bs × Int :=
  if isEnc e = false then ([], 6) else if mode ≠ 0 ∧ mode ≠ 1 then ([], 4) else if points l ≠ 0 then ([], points l)
  else writeE (outE e) (if mode = 1 then toldE (outE e) l else l)
def toldR (e mode : Int) (l : List Int) : List Int := l.flatMap (fun n => if mode = 0 ∨ hasE e n = true then [n] else (numE n).map (fun c => (c.toNat : Int)))
theorem hasE_out (e n : Int) (h : isEnc e = true) : hasE (outE e) n = hasE e n := by
  rcases enc_cases e h with h1 | h1 | h1 | h1 | h1
  · subst h1; rfl
  · rw [outE, if_pos (by omega), hasE, if_neg (by omega), if_neg (by omega), hasE, if_neg (by omega), if_neg (by omega)]
  · rw [outE, if_neg (by omega)]
  · rw [outE, if_neg (by omega)]
  · rw [outE, if_pos (by omega), hasE, if_neg (by omega), if_neg (by omega), hasE, if_neg (by omega), if_neg (by omega)]
theorem toldR_eq (e mode : Int) (l : List Int) (h : isEnc e = true) (hm : mode = 0 ∨ mode = 1) : toldR e mode l = if mode = 1 then toldE (outE e) l else l := by
  rcases hm with rfl | rfl
  · rw [if_neg (by decide)]
    unfold toldR
    simp
  · rw [if_pos rfl]
    unfold toldR toldE
    congr 1
    funext n
    rw [hasE_out e n h]
    simp
/-! ## What is told can be written -/
theorem dec_digits (u : Nat) : ∀ c ∈ Lib.decDigits u, 48 ≤ c.toNat ∧ c.toNat ≤ 57 := by
  induction u using Nat.strongRecOn with
  | _ u ih =>
    rw [Lib.decDigits]
    split
    · intro c hc
      simp only [List.mem_singleton] at hc
      subst hc
      rw [UInt8.toNat_ofNat_of_lt' (show 48 + u < 256 by omega)]; omega
    · intro c hc
      rw [List.mem_append] at hc
      rcases hc with hc | hc
      · exact ih (u / 10) (by omega) c hc
      · simp only [List.mem_singleton] at hc
        subst hc
        rw [UInt8.toNat_ofNat_of_lt' (show 48 + u % 10 < 256 by omega)]; omega
theorem numE_plain (n : Int) (h : 0 ≤ n) : ∀ c ∈ numE n, 35 ≤ c.toNat ∧ c.toNat ≤ 59 := by
  intro c hc
  unfold numE at hc
  simp only [List.mem_append, List.mem_cons, List.not_mem_nil, or_false] at hc
  rcases hc with ((rfl | rfl) | hc) | rfl
  · decide
  · decide
  · rw [Lib.itoa, if_neg (by omega)] at hc
    have := dec_digits _ c hc; omega
  · decide
theorem byteOf_plain (user : Bool) (c : Nat) (h : c < 128) : byteOf user (c : Int) = (c : Int) := by
  have hp : pointOf user c = (c : Int) := by rw [pointOf, if_pos h]
  rcases byteOf_cases user (c : Int) with ⟨_, h2⟩ | ⟨j, hj, h1, h2⟩
  · exact absurd hp (h2 c (by omega))
  · rw [h1, pointOf_inj user j c hj (by omega) (h2.trans hp.symm)]
theorem hasE_plain (e : Int) (c : Nat) (h : 35 ≤ c ∧ c ≤ 122 ∧ c ≠ 92) : hasE e (c : Int) = true := by
  unfold hasE
  split
  · rw [byteOf_plain _ c (by omega), decide_eq_true_eq]; omega
  · split
    · rw [hasK, decide_eq_true_eq, findK, if_pos (by rw [byteK_plain c (by omega)]; omega)]; exact Int.le_refl _
    · rfl
theorem toldE_has (e : Int) (l : List Int) (h : ∀ n ∈ l, 0 ≤ n) : ∀ n ∈ toldE e l, hasE e n = true := by
  intro n hn
  unfold toldE at hn
  rw [List.mem_flatMap] at hn
  obtain ⟨m, hm, hn⟩ := hn
  split at hn
  · simp only [List.mem_singleton] at hn; subst hn; assumption
  · rw [List.mem_map] at hn
    obtain ⟨c, hc, rfl⟩ := hn
    have := numE_plain m (h m hm) c hc
    exact hasE_plain e c.toNat (by omega)
theorem encodeS_some (user : Bool) : ∀ l : List Int, (∀ n ∈ l, 0 ≤ byteOf user n) → ∃ b, encodeS user l = some b ∧ b.length = l.length
  | [], _ => ⟨[], rfl, rfl⟩
  | n :: l, h => by
    obtain ⟨b, hb, hl⟩ := encodeS_some user l (fun m hm => h m (by simp [hm]))
    have hn := h n (by simp)
    exact ⟨_, by rw [encodeS, if_neg (by omega), hb]; rfl, by simp [hl]⟩
theorem hasK_find (now n : Int) (h : hasK n = true) (hn : now = 0 ∨ now = 1 ∨ now = 2) : 0 ≤ findK now n := by
  rw [hasK, decide_eq_true_eq] at h
  unfold findK at h ⊢
  (repeat' split at h) <;> (repeat' split) <;> omega
theorem encK_some : ∀ (l : List Int) (now : Int), (now = 0 ∨ now = 1 ∨ now = 2) → (∀ n ∈ l, hasK n = true) → ∃ b, encK now l = some b
  | [], now, _, _ => ⟨_, rfl⟩
  | n :: l, now, hn, h => by
    have h1 := hasK_find now n (h n (by simp)) hn
    rcases findK_cases now n with h2 | ⟨h2, _⟩
    · omega
    · obtain ⟨b, hb⟩ := encK_some l (findK now n) (by omega) (fun m hm => h m (by simp [hm]))
      exact ⟨_, by rw [encK, if_neg (by omega), hb]; rfl⟩
theorem writeE_ok (e : Int) (l : List Int) (h : ∀ n ∈ l, hasE e n = true) : (writeE e l).2 = 0 := by
  unfold writeE
  split
  · rename_i he
    obtain ⟨b, hb, _⟩ := encodeS_some (e == 5) l (fun n hn => by have := h n hn; rw [hasE, if_pos he, decide_eq_true_eq] at this; exact this)
    rw [rawS, hb]
  · split
    · rename_i he2 he
      obtain ⟨b, hb⟩ := encK_some l 0 (.inl rfl) (fun n hn => by have := h n hn; rw [hasE, if_neg he2, if_pos he] at this; exact this)
      rw [rawK, hb]
    · rfl
theorem encodeS_none (user : Bool) : ∀ l : List Int, (∃ n ∈ l, byteOf user n < 0) → encodeS user l = none
  | [], h => by obtain ⟨n, hn, _⟩ := h; cases hn
  | m :: l, h => by
    rw [encodeS]
    split
    · rfl
    · obtain ⟨n, hn, h2⟩ := h
      rcases List.mem_cons.1 hn with rfl | hn
      · omega
      · rw [encodeS_none user l ⟨n, hn, h2⟩]; rfl
theorem hasK_none (now n : Int) (h : hasK n = false) (hn : now = 0 ∨ now = 1 ∨ now = 2) : findK now n < 0 := by
  rw [hasK, decide_eq_false_iff_not] at h
  have hb := fun g => byteK_cases g n
  unfold findK at h ⊢
  (repeat' split at h) <;> (repeat' split) <;> first | omega | (rcases hn with rfl | rfl | rfl <;> omega)
theorem encK_none : ∀ (l : List Int) (now : Int), (now = 0 ∨ now = 1 ∨ now = 2) → (∃ n ∈ l, hasK n = false) → encK now l = none
  | [], _, _, h => by obtain ⟨n, hn, _⟩ := h; cases hn
  | m :: l, now, hnow, h => by
    rw [encK]
    split
    · rfl
    · rename_i hf
      obtain ⟨n, hn, h2⟩ := h
      rcases List.mem_cons.1 hn with rfl | hn
      · exact absurd (hasK_none now n h2 hnow) hf
      · rcases findK_cases now m with h3 | ⟨h3, _⟩
        · omega
        · rw [encK_none l (findK now m) (by omega) ⟨n, hn, h2⟩]; rfl
/-- It is written just if each code point can be. -/
theorem writeE_cases (e : Int) (l : List Int) : (l.all (hasE e) = true ∧ ∃ b, writeE e l = (b, 0)) ∨ (l.all (hasE e) = false ∧ writeE e l = ([], 5)) := by
  cases hq : l.all (hasE e) with
  | true =>
    refine .inl ⟨rfl, (writeE e l).1, ?_⟩
    rw [← writeE_ok e l (List.all_eq_true.1 hq)]
  | false =>
    refine .inr ⟨rfl, ?_⟩
    rw [List.all_eq_false] at hq
    obtain ⟨n, hn, h⟩ := hq
    rw [Bool.not_eq_true] at h
    unfold hasE at h
    unfold writeE
    split at h
    · rename_i he
      rw [if_pos he, rawS, encodeS_none _ l ⟨n, hn, by simpa using h⟩]
    · rename_i he
      split at h
      · rename_i he2
        rw [if_neg he, if_pos he2, rawK, encK_none l 0 (.inl rfl) ⟨n, hn, h⟩]
      · cases h
theorem toldE_all (e : Int) (l : List Int) (h : l.all (hasE e) = true) : toldE e l = l := by
  induction l with
  | nil => rfl
  | cons n l ih =>
    rw [List.all_cons, Bool.and_eq_true] at h
    show (if hasE e n = true then [n] else _) ++ toldE e l = _
    rw [if_pos h.1, ih h.2]; rfl
theorem toldE_app (e : Int) (l m : List Int) : toldE e (l ++ m) = toldE e l ++ toldE e m := by unfold toldE; rw [List.flatMap_append]
theorem writeE_app (e : Int) (l m : List Int) (a b : Bs) (he : e ≠ 6) (h1 : writeE e l = (a, 0)) (h2 : writeE e m = (b, 0)) : writeE e (l ++ m) = (a ++ b, 0) := by
  unfold writeE at h1 h2 ⊢
  split at h1
  · rename_i h
    rw [if_pos h] at h2 ⊢
    unfold rawS at h1 h2 ⊢
    rw [encodeS_append]
    cases h3 : encodeS (e == 5) l with
    | none => rw [h3] at h1; cases h1
    | some x =>
      cases h4 : encodeS (e == 5) m with
      | none => rw [h4] at h2; cases h2
      | some y =>
        rw [h3] at h1; rw [h4] at h2
        simp only [Prod.mk.injEq, and_true] at h1 h2
        subst h1; subst h2; rfl
  · rename_i h
    rw [if_neg h, if_neg he] at h2
    rw [if_neg h, if_neg he]
    simp only [Prod.mk.injEq, and_true] at h1 h2 ⊢
    rw [← h1, ← h2, bytes8, List.flatMap_append]; rfl
/-- What is written is read as it was. -/
theorem decodeS_encode (user : Bool) : ∀ (l : List Int) (b : Bs), encodeS user l = some b → decodeS user b = l
  | [], b, h => by injection h with h; subst h; rfl
  | n :: l, b, h => by
    rw [encodeS] at h
    split at h
    · cases h
    · rename_i hn
      cases hr : encodeS user l with
      | none => rw [hr] at h; cases h
      | some r =>
        rw [hr] at h
        injection h with h
        subst h
        rcases byteOf_cases user n with ⟨h1, _⟩ | ⟨j, hj, h1, h2⟩
        · omega
        · have := decodeS_encode user l r hr
          unfold decodeS at this ⊢
          rw [List.map_cons, this, h1, Int.toNat_natCast, UInt8.toNat_ofNat_of_lt' (show j < 256 by omega), h2]
theorem allE_write (e : Int) (l : List Int) (b : Bs) (he : e = 1 ∨ e = 4 ∨ e = 5 ∨ e = 6) (hl : ∀ n ∈ l, scalar n = true) (h : writeE e l = (b, 0)) : allE e b = l := by
  unfold writeE at h
  rcases he with rfl | he
  · rw [if_neg (by decide), if_neg (by decide)] at h
    simp only [Prod.mk.injEq, and_true] at h
    subst h
    rw [allE, if_pos rfl, all8_bytes l hl]
  · by_cases h1 : e = 4 ∨ e = 5
    · rw [if_pos h1, rawS] at h
      rw [allE, if_neg (by omega), if_neg (by omega), if_pos h1]
      cases hr : encodeS (e == 5) l with
      | none => rw [hr] at h; cases h
      | some r =>
        rw [hr] at h
        simp only [Prod.mk.injEq, and_true] at h
        subst h
        exact decodeS_encode _ l r hr
    · rw [if_neg h1, if_pos (by omega), rawK] at h
      rw [allE, if_neg (by omega), if_neg (by omega), if_neg (by omega), if_pos (by omega)]
      cases hr : encK 0 l with
      | none => rw [hr] at h; cases h
      | some r =>
        rw [hr] at h
        simp only [Prod.mk.injEq, and_true] at h
        subst h
        exact (allK_enc l r hr).1
theorem outE_cases (n : Int) (h : isEnc n = true) : outE n = 1 ∨ outE n = 4 ∨ outE n = 5 ∨ outE n = 6 := by
  unfold outE
  simp only [isEnc, decide_eq_true_eq] at h
  split <;> omega
theorem outE_out (n : Int) : outE (outE n) = outE n := by
  unfold outE
  (repeat' split) <;> omega
theorem outE_enc (n : Int) (h : isEnc n = true) : isEnc (outE n) = true := by
  have := outE_cases n h
  simp only [isEnc, decide_eq_true_eq]; omega
end Go.Proofs.YthaoohckgilahaaDoor.M

/-
  Append of one number, and where the new slice lies; a table of the library that stays; numbers in letters.
-/
namespace Go.Proofs.YthaoohckgilahaaDoor
open Go.RowKit

theorem wpList_appM {P : Program} {w0 : World} {ops : Array Oper} {rest : List Oper} {o : Oper} {a : Act} {Q : Exit → Act → World → Prop} (s x : Operand) (t : TypeId)
    (ho : o.op = .call { callee := .builtin .append, args := #[s, x], argTypes := #[t, t] }) {e : TypeId} {bytes : Nat} (he : Elem P t e bytes) (hby : bytes ≤ 1024)
    (B : Nat) (v : Value) (xs : List Value) (u : Value) (hown : Own B e w0 v xs) (h1 : u.oneCell' = true) (hlen : xs.length < 68719476736) (hB : B ≤ w0.heap.size)
    (hs : a.eval s = v) (hx : a.eval x = .slice (some ⟨w0.heap.size, 0, none⟩) 1 1) (hw : Region.wanted o (yielded ops a.tmps) = true)
    (h : ∀ v' w', Own B e w' v' (xs ++ [u]) → Below B w0 w' → (∀ k, v.ownBlock ≠ some k → k < w0.heap.size → w'.heap[k]? = w0.heap[k]?) → (∀ k, v'.ownBlock = some k → v.ownBlock = some k ∨ w0.heap.size ≤ k) → wpList P ops Q rest (a.put o.dst v') w') : wpList P ops Q (o :: rest) a (w0.alloc (.cells #[u] e)) := by
  refine wpList_wanted hw fun K hK => ?_
  obtain ⟨ht, z, hi, hz⟩ := he
  obtain ⟨i, hi, hz0, hz1, hz2⟩ := info_parts hi
  refine wp_append_lies _ s x t ho B e i z 1 bytes ht hi hz0 hz1 hz2 hz (by decide) v xs.length xs hs (hown.alloc _) ⟨w0.heap.size, 0, none⟩ 1 1 [u] hx (by simp) ?_ (by simpa using h1) (by decide) (by simp only [maxLen]; omega) ?_ (by simp; omega) (w0.alloc (.cells #[u] e)).heap.size rfl ?_
  · intro j u' hj
    rw [add_zero, World.cell?_alloc_new]
    simpa using hj
  · have : (xs.length + 1) * bytes ≤ 68719476736 * 1024 := Nat.mul_le_mul (by omega) hby
    omega
  · intro g cap w' ho' hg' hat _
    refine hK _ _ (h _ w' ?_ ?_ ?_ ?_)
    · show w'.ownsRow B e 1 _ (xs ++ [u]).length (xs ++ [u])
      rw [List.length_append]
      exact ho'
    · exact ((Below.refl B w0).alloc hB _).trans ((Below.refl B _).grown hg' (by simp; omega) (fun k hk => (hown.lt k hk).1))
    · intro k hne hk
      exact (hg'.block k (by simp; omega) (fun e => hne e.symm)).trans (((Bel.refl w0).alloc _).block k hk)
    · intro k hk
      have hgk : g = k := by simpa [Value.ownBlock] using hk
      subst hgk
      rcases hat with h9 | h9
      · exact .inl h9
      · right; rw [h9]; simp
theorem dec_len (k : Nat) : ∀ u : Nat, u < 10 ^ (k + 1) → (Lib.decDigits u).length ≤ k + 1 := by
  induction k with
  | zero => intro u hu; rw [Lib.decDigits, dif_pos (by omega)]; exact Nat.le_refl _
  | succ k ih =>
    intro u hu
    rw [Lib.decDigits]
    split
    · simp
    · rw [List.length_append, List.length_singleton]
      have := ih (u / 10) (by rw [Nat.pow_succ] at hu; omega)
      omega
theorem itoa_len (n : Int) (h0 : 0 ≤ n) (h1 : n ≤ 1114111) : (Lib.itoa n).length ≤ 7 := by
  rw [Lib.itoa, if_neg (by omega)]
  exact dec_len 6 _ (by omega)
theorem numE_len (n : Int) (h0 : 0 ≤ n) (h1 : n ≤ 1114111) : (M.numE n).length ≤ 10 := by
  have := itoa_len n h0 h1
  unfold M.numE
  simp only [List.length_append, List.length_cons, List.length_nil]
  omega
end Go.Proofs.YthaoohckgilahaaDoor

/-
  Lists of attributes: structs of two texts.
-/
namespace Go.Proofs.YthaoohckgilahaaDoor
open Go.RowKit

def agS (p : List UInt8 × List UInt8) : List Value := [.string ⟨p.1.toArray⟩, .string ⟨p.2.toArray⟩]
def attrCells (xs : List (List UInt8 × List UInt8)) : List Value := xs.flatMap agS
theorem attrCells_len (xs : List (List UInt8 × List UInt8)) : (attrCells xs).length = xs.length * 2 := by
  unfold attrCells
  induction xs with
  | nil => rfl
  | cons x l ih => rw [List.flatMap_cons, List.length_append, ih, List.length_cons]; simp [agS]; omega
theorem attrCells_at : ∀ (xs : List (List UInt8 × List UInt8)) (k : Nat) (p : List UInt8 × List UInt8), xs[k]? = some p → (attrCells xs)[k * 2]? = some (.string ⟨p.1.toArray⟩) ∧ (attrCells xs)[k * 2 + 1]? = some (.string ⟨p.2.toArray⟩)
  | [], k, p, h => by cases h
  | x :: l, 0, p, h => by injection h with h; subst h; exact ⟨rfl, rfl⟩
  | x :: l, k + 1, p, h => by
    have := attrCells_at l k p h
    rw [show (k + 1) * 2 = k * 2 + 2 by omega, show k * 2 + 2 + 1 = (k * 2 + 1) + 2 by omega]
    exact this
/-- A list of attributes that is the call's own, in a block from B on. -/
def OwnA (B : Nat) (w : World) (v : Value) (xs : List (List UInt8 × List UInt8)) : Prop := w.ownsRow B 23 2 v xs.length (attrCells xs)
theorem OwnA.nil (B : Nat) (w : World) : OwnA B w (.slice none 0 0) [] := World.ownsRow_nil _ _ _ _
theorem OwnA.lt {B : Nat} {w : World} {v : Value} {xs : List (List UInt8 × List UInt8)} (h : OwnA B w v xs) : ∀ k, v.ownBlock = some k → B ≤ k ∧ k < w.heap.size := World.ownsRow.lt h
theorem OwnA.keep {B : Nat} {w w' : World} {v : Value} {xs : List (List UInt8 × List UInt8)} (h : OwnA B w v xs) (hk : ∀ k, v.ownBlock = some k → w'.heap[k]? = w.heap[k]?) : OwnA B w' v xs := by
  refine ⟨h.1, ?_⟩
  rcases h.2 with h2 | ⟨k, cap, cur, r0, r1, r2, r3⟩
  · exact .inl h2
  · exact .inr ⟨k, cap, cur, r0, r1, (hk k (by subst r0; rfl)).trans r2, r3⟩
theorem OwnA.bel {B : Nat} {w w' : World} {v : Value} {xs : List (List UInt8 × List UInt8)} (h : OwnA B w v xs) (hb : Bel w w') : OwnA B w' v xs :=
  h.keep (fun k hk => hb.block k (h.lt k hk).2)
theorem OwnA.mono {B C : Nat} {w : World} {v : Value} {xs : List (List UInt8 × List UInt8)} (h : OwnA B w v xs) (hC : C ≤ B) : OwnA C w v xs := by
  refine ⟨h.1, ?_⟩
  rcases h.2 with h2 | ⟨k, cap, cur, r0, r1, r2⟩
  · exact .inl h2
  · exact .inr ⟨k, cap, cur, r0, Nat.le_trans hC r1, r2⟩
/-- A list of attributes that is read. -/
def AttrSl (w : World) (v : Value) (xs : List (List UInt8 × List UInt8)) : Prop :=
  ∃ a c, v = .slice a xs.length c ∧ xs.length ≤ c ∧ c ≤ maxLen ∧ (a = none → xs = []) ∧ (∀ x, a = some x → xs ≠ [] → ∃ g o, x = ⟨g, o, none⟩ ∧ ∀ i p, xs[i]? = some p → w.cell? ⟨g, o + i * 2, none⟩ = some (.string ⟨p.1.toArray⟩) ∧ w.cell? ⟨g, o + i * 2 + 1, none⟩ = some (.string ⟨p.2.toArray⟩))
theorem AttrSl.bel {w w' : World} {v : Value} {xs : List (List UInt8 × List UInt8)} (h : AttrSl w v xs) (hb : Bel w w') : AttrSl w' v xs := by
  obtain ⟨a, c, h1, h2, h3, h4, h5⟩ := h
  refine ⟨a, c, h1, h2, h3, h4, fun x hx hne => ?_⟩
  obtain ⟨g, o, e, h6⟩ := h5 x hx hne
  refine ⟨g, o, e, fun i p hp => ?_⟩
  obtain ⟨g1, g2⟩ := h6 i p hp
  exact ⟨(hb.cell (World.block_lt_of_cell? w _ g1)).trans g1, (hb.cell (World.block_lt_of_cell? w _ g2)).trans g2⟩
theorem OwnA.sl {B : Nat} {w : World} {v : Value} {xs : List (List UInt8 × List UInt8)} (h : OwnA B w v xs) : AttrSl w v xs := by
  rcases h.2 with ⟨rfl, hn⟩ | ⟨g, cap, cur, rfl, r1, r2, r3, r4, r5, r6⟩
  · have hx : xs = [] := List.eq_nil_of_length_eq_zero hn
    subst hx
    exact ⟨none, 0, rfl, Nat.le_refl _, Nat.zero_le _, fun _ => rfl, fun _ hh _ => by cases hh⟩
  · refine ⟨some ⟨g, 0, none⟩, cap, rfl, r3, r4, (fun hh => by cases hh), fun x hx _ => ⟨g, 0, by injection hx with hx; exact hx.symm, fun i p hp => ?_⟩⟩
    obtain ⟨g1, g2⟩ := attrCells_at xs i p hp
    have k1 := World.ownsRow.cells h (g := g) rfl _ _ g1
    have k2 := World.ownsRow.cells h (g := g) rfl _ _ g2
    rw [add_zero] at k1 k2
    rw [Nat.zero_add]
    exact ⟨k1, k2⟩
theorem attrInfo : ∃ z, (Tryd.prog.info? 23).map (fun i => (i.zero, i.size, i.bytes)) = some (some z, 2, 32) ∧ z.cells.size = 2 := ⟨.agg #[.string ⟨#[]⟩, .string ⟨#[]⟩], by kernel_rfl, rfl⟩
/-- 'out = append(out, a)': the two cells have just been laid. -/
theorem wpList_appA {w0 : World} {ops : Array Oper} {rest : List Oper} {o : Oper} {a : Act} {Q : Exit → Act → World → Prop} (s x : Operand)
    (ho : o.op = .call { callee := .builtin .append, args := #[s, x], argTypes := #[27, 27] })
    (B : Nat) (v : Value) (xs : List (List UInt8 × List UInt8)) (p : List UInt8 × List UInt8) (hown : OwnA B w0 v xs) (hlen : xs.length < 68719476736) (hB : B ≤ w0.heap.size)
    (hs : a.eval s = v) (hx : a.eval x = .slice (some ⟨w0.heap.size, 0, none⟩) 1 1) (hw : Region.wanted o (yielded ops a.tmps) = true)
    (h : ∀ v' w', OwnA B w' v' (xs ++ [p]) → Below B w0 w' → (∀ k, v.ownBlock ≠ some k → k < w0.heap.size → w'.heap[k]? = w0.heap[k]?) → wpList Tryd.prog ops Q rest (a.put o.dst v') w') : wpList Tryd.prog ops Q (o :: rest) a (w0.alloc (.cells #[.string ⟨p.1.toArray⟩, .string ⟨p.2.toArray⟩] 23)) := by
  refine wpList_wanted hw fun K hK => ?_
  obtain ⟨z, hi, hz⟩ := attrInfo
  obtain ⟨i, hi, hz0, hz1, hz2⟩ := info_parts hi
  refine wp_append_own _ s x 27 ho B 23 i z 2 32 Tryd.underlying27 hi hz0 hz1 hz2 hz (by decide) v xs.length (attrCells xs) hs (hown.bel ((Bel.refl w0).alloc _)) ⟨w0.heap.size, 0, none⟩ 1 1 (agS p) hx rfl ?_ ?_ (by simp only [maxLen]; omega) ?_ (by simp; omega) ?_
  · intro j u hj
    rw [add_zero, World.cell?_alloc_new]
    show (agS p).toArray[j]? = _
    rw [List.getElem?_toArray]
    exact hj
  · intro u hu
    simp only [agS, List.mem_cons, List.not_mem_nil, or_false] at hu
    rcases hu with rfl | rfl <;> rfl
  · omega
  · intro v' w' ho' hg' _
    refine hK _ _ (h v' w' ?_ ?_ ?_)
    · show w'.ownsRow B 23 2 v' (xs ++ [p]).length (attrCells (xs ++ [p]))
      rw [List.length_append, show attrCells (xs ++ [p]) = attrCells xs ++ agS p by unfold attrCells; rw [List.flatMap_append]; simp]
      exact ho'
    · exact ((Below.refl B w0).alloc hB _).trans ((Below.refl B _).grown hg' (by simp; omega) (fun k hk => (hown.lt k hk).1))
    · intro k hne hk
      exact (hg'.block k (by simp; omega) (fun e => hne e.symm)).trans (((Bel.refl w0).alloc _).block k hk)
/-- The length of what a machine bears is laid: some number. -/
def Len (w : World) : Prop := ∃ m : Int, w.cell? ⟨0, 0, none⟩ = some (.int .i64 m)
theorem Len.bel {w w' : World} (h : Len w) (hb : Bel w w') : Len w' := by
  obtain ⟨m, hm⟩ := h
  exact ⟨m, (hb.cell (World.block_lt_of_cell? w _ hm)).trans hm⟩
theorem len_of {w : World} (h : w.ShapedOpen Tryd.prog) : Len w := Tryd.laysM143.s1_3 w h
end Go.Proofs.YthaoohckgilahaaDoor

/-
  Package attr: ready, Next, From, All.
-/
namespace Go.Proofs.YthaoohckgilahaaDoor
open Go.RowKit
set_option maxRecDepth 1000000

def readyA (s : List UInt8) (at_ : Int) : Int := if 3000 < s.length then 2 else if at_ < 0 ∨ (s.length : Int) < at_ then 3 else 0
theorem readyA_cases (s : ByteArray) (at_ : Int) : (readyA s.data.toList at_ = 2 ∧ 3000 < s.size) ∨ (readyA s.data.toList at_ = 3 ∧ s.size ≤ 3000 ∧ (at_ < 0 ∨ (s.size : Int) < at_)) ∨ (readyA s.data.toList at_ = 0 ∧ s.size ≤ 3000 ∧ ∃ k : Nat, at_ = (k : Int) ∧ k ≤ s.size) := by
  unfold readyA
  rw [← Lib.size_eq]
  by_cases h : 3000 < s.size
  · exact .inl ⟨by rw [if_pos h], h⟩
  · rw [if_neg h]
    by_cases h2 : at_ < 0 ∨ (s.size : Int) < at_
    · exact .inr (.inl ⟨by rw [if_pos h2], by omega, h2⟩)
    · exact .inr (.inr ⟨by rw [if_neg h2], by omega, at_.toNat, by omega, by omega⟩)
theorem ready_any (s : ByteArray) (at_ : Int) (w : World) : Calls Tryd.prog 25 #[.string s, .int .i64 at_] w fun e w' => e = .returned (.int .i64 (readyA s.data.toList at_)) ∧ w = w' := by
  rcases readyA_cases s at_ with ⟨h1, h2⟩ | ⟨h1, h2, h3⟩ | ⟨h1, h2, k, rfl, h3⟩
  · have H := Lib.hid h1
    clear h1
    go_enter Tryd.func25, Tryd.ntmps25
    go_wp2_with fail
    go_ret
    exact ⟨by rw [H.out]; rfl, rfl⟩
  · have H := Lib.hid h1
    clear h1
    by_cases h4 : at_ < 0
    · clear h3
      go_enter Tryd.func25, Tryd.ntmps25
      go_wp2_with fail
      go_ret
      exact ⟨by rw [H.out]; rfl, rfl⟩
    · have h5 : (s.size : Int) < at_ := by omega
      clear h3
      go_enter Tryd.func25, Tryd.ntmps25
      go_wp2_with fail
      go_ret
      exact ⟨by rw [H.out]; rfl, rfl⟩
  · have H := Lib.hid h1
    clear h1
    go_enter Tryd.func25, Tryd.ntmps25
    go_wp2_with fail
    go_ret
    exact ⟨by rw [H.out]; rfl, rfl⟩
theorem at_of (s : ByteArray) (k : Nat) (hk : k ≤ s.size) (r : List UInt8) (h : s.data.toList.drop k = r) : k = s.size - r.length := by
  have := congrArg List.length h
  rw [List.length_drop, ← Lib.size_eq] at this
  omega
theorem nextBad_any (s : ByteArray) (at_ : Int) (x : Int) (hx : (x != 0) = true) (h : readyA s.data.toList at_ = x) (w : World) : Calls Tryd.prog 8 #[.string s, .int .i64 at_] w fun e w' => e = .returned (.tuple #[agA none, .int .i64 0, .bool false, .int .i64 x]) ∧ Bel w w' := by
  have H := Lib.hid h
  clear h
  have hy := Box.new w 23 [.string ⟨#[]⟩, .string ⟨#[]⟩]
  have cy0 := hy.cell 0 _ rfl
  have cy1 := hy.cell 1 _ rfl
  have fy0 := hy.frozen 0
  have fy1 := hy.frozen 1
  go_enter Tryd.func8, Tryd.ntmps8
  go_wp2_with (go_at_call 25; refine (ready_any s at_ _).mono ?_; rintro e w' ⟨rfl, rfl⟩; rw [H.out])
  exact bodyPost_ret (v := .tuple #[.agg #[.string ⟨#[]⟩, .string ⟨#[]⟩], .int .i64 0, .bool false, .int .i64 x]) (by simp [results, Tryd.results8, go_sem, cy0, cy1]) rfl ⟨rfl, (Bel.refl w).alloc _⟩
theorem nextOk_any (s : ByteArray) (k : Nat) (hk : k ≤ s.size) (hs : s.size ≤ 3000) (o : Option (List UInt8 × List UInt8)) (r : List UInt8) (hn : M.nextA (s.data.toList.drop k) = (o, r)) (h : readyA s.data.toList (k : Int) = 0) (w : World) : Calls Tryd.prog 8 #[.string s, .int .i64 (k : Int)] w fun e w' => e = .returned (.tuple #[agA o, .int .i64 ((s.size - r.length : Nat) : Int), .bool o.isSome, .int .i64 0]) ∧ Bel w w' := by
  have H := Lib.hid h
  have HN := Lib.hid hn
  clear h hn
  have hy : Box ((w.alloc (.cells #[.string ⟨#[]⟩, .string ⟨#[]⟩] 23)).alloc (.cells #[.string s, .int .i64 (k : Int)] 50)) w.heap.size 23 [.string ⟨#[]⟩, .string ⟨#[]⟩] := (Box.new w 23 [.string ⟨#[]⟩, .string ⟨#[]⟩]).bel ((Bel.refl _).alloc _)
  have hr : Rd ((w.alloc (.cells #[.string ⟨#[]⟩, .string ⟨#[]⟩] 23)).alloc (.cells #[.string s, .int .i64 (k : Int)] 50)) (w.heap.size + 1) s k := by
    have := Box.new (w.alloc (.cells #[.string ⟨#[]⟩, .string ⟨#[]⟩] 23)) 50 [.string s, .int .i64 (k : Int)]
    rwa [World.size_alloc] at this
  have hb0 : Bel w ((w.alloc (.cells #[.string ⟨#[]⟩, .string ⟨#[]⟩] 23)).alloc (.cells #[.string s, .int .i64 (k : Int)] 50)) := ((Bel.refl w).alloc _).alloc _
  go_enter Tryd.func8, Tryd.ntmps8
  go_wp2_with (go_at_call 25; refine (ready_any s k _).mono ?_; rintro e w' ⟨rfl, rfl⟩; rw [H.out])
  generalize ((w.alloc (.cells #[.string ⟨#[]⟩, .string ⟨#[]⟩] 23)).alloc (.cells #[.string s, .int .i64 (k : Int)] 50)) = W0 at *
  have nx := next_any (w.heap.size + 1) s k _ W0 hr hk rfl (by omega)
  rw [HN.out] at nx
  refine nx.mono ?_
  rintro e W1 ⟨rfl, k1, hk1, hr1, hl1, hB1⟩
  have hy1 := hB1.box hy (by omega)
  have hb1 : Bel w W1 := hB1.bel hb0 (by omega)
  have hk2 := at_of s k1 hk1 r hl1
  clear hy hr hb0 hB1 nx
  obtain ⟨a1, ha1⟩ : ∃ a1 : ByteArray, a1 = ⟨(o.getD ([], [])).1.toArray⟩ := ⟨_, rfl⟩
  obtain ⟨a2, ha2⟩ : ∃ a2 : ByteArray, a2 = ⟨(o.getD ([], [])).2.toArray⟩ := ⟨_, rfl⟩
  have hag : agA o = .agg #[.string a1, .string a2] := by rw [ha1, ha2]; rfl
  rw [hag]
  obtain ⟨b, hb⟩ : ∃ b, o.isSome = b := ⟨_, rfl⟩
  rw [hb]
  have HAG := Lib.hid hag
  have HB := Lib.hid hb
  have HK := Lib.hid hk2
  clear ha1 ha2 hag hb hk2
  go_wp2_with fail
  have hz : Box (W1.alloc (.cells #[.string a1, .string a2] 23)) W1.heap.size 23 [.string a1, .string a2] := Box.new W1 23 [.string a1, .string a2]
  have hbb : Bel W1 (W1.alloc (.cells #[.string a1, .string a2] 23)) := (Bel.refl W1).alloc _
  have hy2 := hy1.bel hbb
  have hr2 := hr1.bel hbb
  have hb2 := hb1.trans hbb
  have hne1 : W1.heap.size ≠ w.heap.size := by have := hy1.lt; omega
  have hne2 : W1.heap.size ≠ w.heap.size + 1 := by have := Box.lt hr1; omega
  have hne3 : w.heap.size ≠ w.heap.size + 1 := by omega
  clear hy1 hr1 hb1 hbb
  generalize (W1.alloc (.cells #[.string a1, .string a2] 23)) = W2 at *
  generalize W1.heap.size = G at *
  have z0 := hz.cell 0 _ rfl
  have z1 := hz.cell 1 _ rfl
  have r1 := Box.cell hr2 1 _ rfl
  have y0 := hy2.cell 0 _ rfl
  have y1 := hy2.cell 1 _ rfl
  have f0 := hy2.frozen 0
  have f1 := hy2.frozen 1
  go_region
  have hy3 := (hy2.set 0 (.string a1)).set 1 (.string a2)
  have d0 := hy3.cell 0 _ rfl
  have d1 := hy3.cell 1 _ rfl
  go_wp2_with fail
  refine bodyPost_ret (v := .tuple #[.agg #[.string a1, .string a2], .int .i64 (k1 : Int), .bool b, .int .i64 0]) (by simp [results, Tryd.results8, go_sem, d0, d1]) rfl ?_
  rw [HAG.out, HB.out, ← HK.out]
  exact ⟨rfl, ((hb2.setCell (p := ⟨w.heap.size, 0, none⟩) (Nat.le_refl _) _).setCell (p := ⟨w.heap.size, 1, none⟩) (Nat.le_refl _) _).drew⟩
theorem attrsA_len (l : List UInt8) : (M.attrsA l).1.length ≤ l.length := (M.attrsA_suf l.length l (Nat.le_refl _)).2
theorem from_any (s : ByteArray) (k : Nat) (hk : k ≤ s.size) (hs : s.size ≤ 3000) (xs : List (List UInt8 × List UInt8)) (r : List UInt8) (hn : M.attrsA (s.data.toList.drop k) = (xs, r)) (w : World) : Calls Tryd.prog 27 #[.string s, .int .i64 (k : Int)] w fun e w' => ∃ v, e = .returned (.tuple #[v, .int .i64 ((s.size - r.length : Nat) : Int)]) ∧ OwnA w.heap.size w' v xs ∧ Bel w w' := by
  have HN := Lib.hid hn
  have hr0 : Rd (w.alloc (.cells #[.string s, .int .i64 (k : Int)] 50)) w.heap.size s k := Box.new w 50 [.string s, .int .i64 (k : Int)]
  have hb0 : Bel w (w.alloc (.cells #[.string s, .int .i64 (k : Int)] 50)) := (Bel.refl w).alloc _
  clear hn
  go_enter Tryd.func27, Tryd.ntmps27
  go_wp2_with fail
  go_loopg [7] (s.size + 1) (fun gg v wr => ∃ (j : Nat) (ys : List (List UInt8 × List UInt8)), j ≤ s.size ∧ s.size - j ≤ gg ∧ Rd wr w.heap.size s j ∧ OwnA (w.heap.size + 1) wr v ys ∧ ys.length + (s.size - j) ≤ s.size ∧ Bel w wr ∧ Hid ((xs, r) = (ys ++ (M.attrsA (s.data.toList.drop j)).1, (M.attrsA (s.data.toList.drop j)).2)))
  case atStart => exact ⟨k, [], hk, by omega, hr0, OwnA.nil _ _, by simp, hb0, Lib.hid (by rw [HN.out]; rfl)⟩
  case round =>
    clear hr0 hb0 hk
    obtain ⟨j, ys, hj, hg, hr, hown, hyl, hb, HJ⟩ := hrel
    have hrl := Box.lt hr
    cases hn : M.nextA (s.data.toList.drop j) with
    | mk o r2 =>
      have nx := next_any w.heap.size s j _ wr hr hj rfl (by omega)
      rw [hn] at nx
      cases o with
      | none =>
        have HA := Lib.hid (M.attrsA_none _ _ hn)
        clear hn
        go_wp2_with fail
        refine nx.mono ?_
        rintro e W1 ⟨rfl, k1, hk1, hr1, hl1, hB1⟩
        have hk2 := at_of s k1 hk1 r2 hl1
        have hlt := Box.lt hr1
        have c1 := Box.cell hr1 1 _ rfl
        have HR := Lib.hid (show (xs, r) = (ys, r2) by have := HJ.out; rw [HA.out] at this; simpa using this)
        have hown1 : OwnA w.heap.size W1 u7 ys := (hown.keep (fun kk hkk => hB1.block kk (hown.lt kk hkk).2 (by have := (hown.lt kk hkk).1; omega))).mono (by omega)
        have hb1 : Bel w W1 := hB1.bel hb (Nat.le_refl _)
        clear nx hr hown hB1 hl1 hr1
        rw [show agA none = .agg #[.string ⟨#[]⟩, .string ⟨#[]⟩] from rfl, show (none : Option (List UInt8 × List UInt8)).isSome = false from rfl]
        go_wp2_with fail
        have c2 : (W1.alloc (.cells #[.string ⟨#[]⟩, .string ⟨#[]⟩] 23)).cell? ⟨w.heap.size, 1, none⟩ = some (.int .i64 (k1 : Int)) := (((Bel.refl W1).alloc _).cell (p := ⟨w.heap.size, 1, none⟩) hlt).trans c1
        have hbb : Bel W1 (W1.alloc (.cells #[.string ⟨#[]⟩, .string ⟨#[]⟩] 23)) := (Bel.refl W1).alloc _
        have hown2 := hown1.bel hbb
        have hb2 := hb1.trans hbb
        clear hown1 hb1 hbb c1
        generalize (W1.alloc (.cells #[.string ⟨#[]⟩, .string ⟨#[]⟩] 23)) = W2 at *
        generalize W1.heap.size = G at *
        go_quiet (fail)
        go_wp2_with fail
        go_ret2
        have h3 := HR.out
        injection h3 with h3 h4
        subst h3; subst h4
        rw [← hk2]
        exact ⟨_, rfl, hown2.bel ((Bel.refl W2).drewN _), hb2.drewN _⟩
      | some p =>
        have HA := Lib.hid (M.attrsA_some _ _ _ hn)
        have hless := M.nextA_less _ _ (by rw [hn])
        rw [hn] at hless
        have hless2 : r2.length < (s.data.toList.drop j).length := hless
        rw [List.length_drop, ← Lib.size_eq] at hless2
        clear hn hless
        go_wp2_with fail
        refine nx.mono ?_
        rintro e W1 ⟨rfl, k1, hk1, hr1, hl1, hB1⟩
        have hl1 : s.data.toList.drop k1 = r2 := hl1
        have hk2 := at_of s k1 hk1 r2 hl1
        have hlt := Box.lt hr1
        have HR := Lib.hid (show (xs, r) = (ys ++ [p] ++ (M.attrsA (s.data.toList.drop k1)).1, (M.attrsA (s.data.toList.drop k1)).2) by
          have := HJ.out
          rw [HA.out] at this
          rw [hl1, this]; simp)
        have hown1 : OwnA (w.heap.size + 1) W1 u7 ys := hown.keep (fun kk hkk => hB1.block kk (hown.lt kk hkk).2 (by have := (hown.lt kk hkk).1; omega))
        have hb1 : Bel w W1 := hB1.bel hb (Nat.le_refl _)
        clear nx hr hown hB1 HJ
        rw [show agA (some p) = .agg #[.string ⟨p.1.toArray⟩, .string ⟨p.2.toArray⟩] from rfl, show (some p).isSome = true from rfl]
        have hbb : Bel W1 (W1.alloc (.cells #[.string ⟨p.1.toArray⟩, .string ⟨p.2.toArray⟩] 23)) := (Bel.refl W1).alloc _
        have hsz : (W1.alloc (.cells #[.string ⟨p.1.toArray⟩, .string ⟨p.2.toArray⟩] 23)).heap.size = W1.heap.size + 1 := World.size_alloc _ _
        have hown2 := hown1.bel hbb
        go_wp2_with (at_builtin; refine wpList_appA (.tmp 26) (.tmp 28) rfl (w.heap.size + 1) u7 ys p hown2 (by omega) (by rw [hsz]; omega) rfl (by rw [hsz]; rfl) rfl ?_; intro v' w5 hown5 hb5 hk5)
        have hr5 : Rd w5 w.heap.size s k1 := Box.upto (hr1.bel hbb) hb5 (by omega)
        have hb6 : Bel w w5 := Bel.upto (hb1.trans hbb) hb5 (by omega)
        go_roundg (s.size - k1)
        case measure => omega
        case rel => exact ⟨k1, ys ++ [p], hk1, Nat.le_refl _, hr5, hown5, by rw [List.length_append, List.length_singleton]; omega, hb6, HR⟩
end Go.Proofs.YthaoohckgilahaaDoor

/-
  Labels: the table by places.
-/
namespace Go.Proofs.YthaoohckgilahaaDoor.M
open Go

def labelAt (j : Nat) : Bs × Int := labels.getD j ([], 0)
theorem labels_len : labels.length = 22 := rfl
theorem labelAt_eq (j : Nat) (h : j < labels.length) : labels[j] = labelAt j := by
  unfold labelAt; rw [List.getD_eq_getElem?_getD, List.getElem?_eq_getElem h]; rfl
theorem find_first (name : Bs) (k : Nat) (hk : k < 22) (h : ((labelAt k).1 == name) = true) (hno : ∀ j, j < k → ((labelAt j).1 == name) = false) : find0 name = (labelAt k).2 := by
  have e : labels.find? (fun x => x.1 == name) = some (labelAt k) := by
    rw [List.find?_eq_some_iff_getElem]
    refine ⟨h, k, labels_len ▸ hk, labelAt_eq k _, fun j hj => ?_⟩
    rw [labelAt_eq j, hno j hj]; rfl
  rw [find0, e]
theorem find_none (name : Bs) (hno : ∀ j, j < 22 → ((labelAt j).1 == name) = false) : find0 name = 0 := by
  have e : labels.find? (fun x => x.1 == name) = none := by
    rw [List.find?_eq_none]
    intro x hx
    obtain ⟨j, hj, rfl⟩ := List.getElem_of_mem hx
    rw [labelAt_eq j hj, hno j (labels_len ▸ hj)]; decide
  rw [find0, e]
theorem label_small : ∀ j, j < 22 → (labelAt j).1.length ≤ 40 := by decide
end Go.Proofs.YthaoohckgilahaaDoor.M

/-
  Package label: Labels, Of, Trim, Fold, Find, Name.
-/
namespace Go.Proofs.YthaoohckgilahaaDoor
open Go.RowKit
set_option maxRecDepth 1000000

def labelCells : List Value := M.labels.flatMap (fun x => [.string ⟨x.1.toArray⟩, .int .i64 x.2])
theorem labelCells_at : ∀ (l : List (List UInt8 × Int)) (j : Nat), j < l.length → (l.flatMap (fun x => [Value.string ⟨x.1.toArray⟩, .int .i64 x.2]))[0 + j * 2]? = some (.string ⟨(l.getD j ([], 0)).1.toArray⟩) ∧ (l.flatMap (fun x => [Value.string ⟨x.1.toArray⟩, .int .i64 x.2]))[0 + j * 2 + 1]? = some (.int .i64 (l.getD j ([], 0)).2)
  | [], j, h => by simp at h
  | x :: l, 0, h => ⟨rfl, rfl⟩
  | x :: l, j + 1, h => by
    have := labelCells_at l j (by simpa using h)
    rw [show 0 + (j + 1) * 2 = (0 + j * 2) + 2 by omega, show (0 + j * 2) + 2 + 1 = (0 + j * 2 + 1) + 2 by omega]
    exact this
set_option maxHeartbeats 2000000 in
theorem labels_run (w : World) : Calls Tryd.prog 55 #[] w fun e w' => e = .returned (.slice (some ⟨w.heap.size, 0, none⟩) 22 22) ∧ w.alloc (.cells labelCells.toArray 71) = w' := by
  go_enter Tryd.func55, Tryd.ntmps55
  go_wp2
  go_ret
  exact ⟨rfl, rfl⟩
theorem labels_any (w : World) : Calls Tryd.prog 55 #[] w fun e w' => e = .returned (.slice (some ⟨w.heap.size, 0, none⟩) 22 22) ∧ (∀ j, j < 22 → w'.cell? ⟨w.heap.size, 0 + j * 2, none⟩ = some (.string ⟨(M.labelAt j).1.toArray⟩) ∧ w'.cell? ⟨w.heap.size, 0 + j * 2 + 1, none⟩ = some (.int .i64 (M.labelAt j).2)) ∧ Bel w w' ∧ w.heap.size < w'.heap.size := by
  refine (labels_run w).mono ?_
  rintro e w' ⟨rfl, rfl⟩
  refine ⟨rfl, fun j hj => ?_, (by repeat (first | exact Bel.refl _ | refine Bel.drewN ?_ _ | refine Bel.drew ?_ | refine Bel.alloc ?_ _ | refine Bel.trans ?_ (by assumption) | refine Bel.setCell ?_ (by simp; omega) _)), by simp⟩
  obtain ⟨h1, h2⟩ := labelCells_at M.labels j hj
  rw [World.cell?_alloc_new, World.cell?_alloc_new, List.getElem?_toArray, List.getElem?_toArray]
  exact ⟨h1, h2⟩
end Go.Proofs.YthaoohckgilahaaDoor

/-
  Package label: Of, Trim, Fold, Find, Name.
-/
namespace Go.Proofs.YthaoohckgilahaaDoor
open Go.RowKit
set_option maxRecDepth 1000000

theorem of1_any (nm a : ByteArray) (n : Int) (g : Nat) (w : World) (hc : w.cell? ⟨g, 0, none⟩ = some (.string nm)) (hg : g < w.heap.size) : Calls Tryd.prog 64 #[.agg #[.string a, .int .i64 n], .pointer (some ⟨g, 0, none⟩)] w fun e w' => e = .returned (.bool (a.toList == nm.toList)) ∧ Bel w w' := by
  go_enter Tryd.func64, Tryd.ntmps64
  have hne : g ≠ w.heap.size := by omega
  go_wp2
  all_goals (go_ret; exact ⟨by simp_all, (by repeat (first | exact Bel.refl _ | refine Bel.drewN ?_ _ | refine Bel.drew ?_ | refine Bel.alloc ?_ _ | refine Bel.trans ?_ (by assumption) | refine Bel.setCell ?_ (by simp; omega) _))⟩)
theorem of_any (s : ByteArray) (w : World) (hs : s.size ≤ 68719476735) : Calls Tryd.prog 42 #[.string s] w fun e w' => e = .returned (.int .i64 (M.find s.data.toList)) ∧ Bel w w' := by
  have HF := Lib.hid (M.find_first (M.fold (M.trim s.data.toList)))
  have HN := Lib.hid (M.find_none (M.fold (M.trim s.data.toList)))
  have HL := Lib.hid (M.trim_len s.data.toList)
  have HS := Lib.hid (Lib.size_eq s)
  go_enter Tryd.func42, Tryd.ntmps42
  go_wp2_with (first | (go_at_call 55; refine (labels_any _).mono ?_; rintro e w' ⟨rfl, hc, b1, hg1⟩) | (go_at_call 61; refine (trimmed_any s _ (by omega)).mono ?_; rintro e w' ⟨rfl, b2⟩) | (go_at_call 50; refine (folded_any _ _ (by rw [size_str]; have := HL.out; rw [← HS.out] at this; omega)).mono ?_; rintro e w' ⟨rfl, b3⟩))
  have bA := b2.trans b3
  have h22 : (22 : Nat) ≤ 9223372036854775807 := by decide
  refine (ixLabel w.heap.size 0 22 22 (fun j => (.string ⟨(M.labelAt j).1.toArray⟩, .int .i64 (M.labelAt j).2)) (fun j => (M.labelAt j).1 == M.fold (M.trim s.data.toList)) 64 #[.pointer (some ⟨w'.heap.size, 0, none⟩)] (enters_of Tryd.func64 (by kernel_rfl) rfl) _ ?_ h22 ?_ ?_).mono ?_
  · intro W j hj hB
    rw [World.size_alloc] at hB
    refine (of1_any ⟨(M.fold (M.trim s.data.toList)).toArray⟩ ⟨(M.labelAt j).1.toArray⟩ (M.labelAt j).2 w'.heap.size W ?_ ?_).mono ?_
    · rw [hB.cell (p := ⟨w'.heap.size, 0, none⟩) (by simp), cell_new]
    · have := hB.size; simp at this; omega
    · rintro e w3 ⟨rfl, b4⟩
      refine ⟨?_, by rw [World.size_alloc]; exact hB.trans (b4.mono (by have := hB.size; simp at this; omega))⟩
      rw [Lib.toList_data, Lib.toList_data]
  · have := bA.size; simp; omega
  · intro j hj
    obtain ⟨c1, c2⟩ := hc j hj
    have bB := bA.alloc (.cells #[.string ⟨(M.fold (M.trim s.data.toList)).toArray⟩] 9)
    exact ⟨(bB.cell (p := ⟨w.heap.size, 0 + j * 2, none⟩) hg1).trans c1, (bB.cell (p := ⟨w.heap.size, 0 + j * 2 + 1, none⟩) hg1).trans c2⟩
  rintro e w4 ⟨⟨r, rfl, hr⟩, b4⟩
  have bB := (bA.alloc (.cells #[.string ⟨(M.fold (M.trim s.data.toList)).toArray⟩] 9)).trans b4
  rcases hr with ⟨rfl, hno⟩ | ⟨k, hk, rfl, hyes, hno⟩
  · have HE := Lib.hid (HN.out hno)
    clear hc hno
    go_wp2
    go_ret
    exact ⟨by rw [M.find, HE.out]; rfl, b1.trans bB⟩
  · have HE := Lib.hid (HF.out k hk hyes hno)
    have hcell : w4.cell? ⟨w.heap.size, k * 2 + 1, none⟩ = some (.int .i64 (M.labelAt k).2) := by
      have := (bB.cell (p := ⟨w.heap.size, 0 + k * 2 + 1, none⟩) hg1).trans (hc k hk).2
      rwa [Nat.zero_add] at this
    clear hc hno hyes
    go_wp2
    go_ret
    exact ⟨by rw [M.find, HE.out]; rfl, b1.trans bB⟩
theorem find_to (s : ByteArray) (n x : Int) (h : M.findE s.data.toList = (n, x)) (hs : s.size ≤ 9223372036854775807) (w : World) : Calls Tryd.prog 24 #[.string s] w fun e w' => e = .returned (.tuple #[.int .i64 n, .int .i64 x]) ∧ Bel w w' := by
  by_cases hl : 3000 < s.size
  · rw [M.findE, if_pos (by rw [← Lib.size_eq]; exact hl)] at h
    injection h with h1 h2
    subst h1; subst h2
    go_enter Tryd.func24, Tryd.ntmps24
    go_wp2
    go_ret2
    exact ⟨rfl, Bel.refl _⟩
  · rw [M.findE, if_neg (by rw [← Lib.size_eq]; exact hl)] at h
    injection h with h1 h2
    subst h1; subst h2
    go_enter Tryd.func24, Tryd.ntmps24
    go_wp2_with (go_at_call 42; refine (of_any s _ (by omega)).mono ?_; rintro e w' ⟨rfl, hb⟩)
    go_ret2
    exact ⟨rfl, hb⟩
theorem trim_checked (s : ByteArray) (l : List UInt8) (x : Int) (h : M.trimE s.data.toList = (l, x)) (hs : s.size ≤ 9223372036854775807) (w : World) : Calls Tryd.prog 60 #[.string s, .func (.func 61) #[] #[]] w fun e w' => e = .returned (.tuple #[.string ⟨l.toArray⟩, .int .i64 x]) ∧ Bel w w' := by
  by_cases hl : 3000 < s.size
  · rw [M.trimE, if_pos (by rw [← Lib.size_eq]; exact hl)] at h
    injection h with h1 h2
    subst h1; subst h2
    go_enter Tryd.func60, Tryd.ntmps60
    go_wp2
    go_ret2
    exact ⟨rfl, Bel.refl _⟩
  · rw [M.trimE, if_neg (by rw [← Lib.size_eq]; exact hl)] at h
    injection h with h1 h2
    subst h1; subst h2
    go_enter Tryd.func60, Tryd.ntmps60
    go_wp2_with (go_at_call 61; refine (trimmed_any s _ (by omega)).mono ?_; rintro e w' ⟨rfl, hb⟩)
    go_ret2
    exact ⟨rfl, hb⟩
theorem trim_to (s : ByteArray) (l : List UInt8) (x : Int) (h : M.trimE s.data.toList = (l, x)) (hs : s.size ≤ 9223372036854775807) (w : World) : Calls Tryd.prog 39 #[.string s] w fun e w' => e = .returned (.tuple #[.string ⟨l.toArray⟩, .int .i64 x]) ∧ Bel w w' := by
  go_enter Tryd.func39, Tryd.ntmps39
  go_wp2_with (go_at_call 60; refine (trim_checked s l x h hs _).mono ?_; rintro e w' ⟨rfl, hb⟩)
  go_ret2
  exact ⟨rfl, hb⟩
theorem fold_checked (s : ByteArray) (l : List UInt8) (x : Int) (h : M.foldE s.data.toList = (l, x)) (hs : s.size ≤ 9223372036854775807) (w : World) : Calls Tryd.prog 60 #[.string s, .func (.func 50) #[] #[]] w fun e w' => e = .returned (.tuple #[.string ⟨l.toArray⟩, .int .i64 x]) ∧ Bel w w' := by
  by_cases hl : 3000 < s.size
  · rw [M.foldE, if_pos (by rw [← Lib.size_eq]; exact hl)] at h
    injection h with h1 h2
    subst h1; subst h2
    go_enter Tryd.func60, Tryd.ntmps60
    go_wp2
    go_ret2
    exact ⟨rfl, Bel.refl _⟩
  · rw [M.foldE, if_neg (by rw [← Lib.size_eq]; exact hl)] at h
    injection h with h1 h2
    subst h1; subst h2
    go_enter Tryd.func60, Tryd.ntmps60
    go_wp2_with (go_at_call 50; refine (folded_any s _ (by omega)).mono ?_; rintro e w' ⟨rfl, hb⟩)
    go_ret2
    exact ⟨rfl, hb⟩
theorem fold_to (s : ByteArray) (l : List UInt8) (x : Int) (h : M.foldE s.data.toList = (l, x)) (hs : s.size ≤ 9223372036854775807) (w : World) : Calls Tryd.prog 40 #[.string s] w fun e w' => e = .returned (.tuple #[.string ⟨l.toArray⟩, .int .i64 x]) ∧ Bel w w' := by
  go_enter Tryd.func40, Tryd.ntmps40
  go_wp2_with (go_at_call 60; refine (fold_checked s l x h hs _).mono ?_; rintro e w' ⟨rfl, hb⟩)
  go_ret2
  exact ⟨rfl, hb⟩
theorem name_to (n : Int) (l : List UInt8) (x : Int) (h : M.nameE n = (l, x)) (w : World) : Calls Tryd.prog 41 #[.int .i64 n] w fun e w' => e = .returned (.tuple #[.string ⟨l.toArray⟩, .int .i64 x]) ∧ Bel w w' := by
  cases hn : M.isEnc n with
  | false =>
    rw [M.nameE, hn, if_neg (by decide)] at h
    injection h with h1 h2
    subst h1; subst h2
    have HN := Lib.hid hn
    clear hn
    go_enter Tryd.func41, Tryd.ntmps41
    go_wp2_with (go_at_call 62; refine (isEnc_any _ _).mono ?_; rintro e w' ⟨rfl, rfl⟩; rw [HN.out])
    go_ret2
    exact ⟨rfl, Bel.refl _⟩
  | true =>
    rw [M.nameE, hn, if_pos rfl] at h
    injection h with h1 h2
    subst h1; subst h2
    have HN := Lib.hid hn
    have h7 : n = 1 ∨ n = 2 ∨ n = 3 ∨ n = 4 ∨ n = 5 ∨ n = 6 ∨ n = 7 := by simp only [M.isEnc, decide_eq_true_eq] at hn; omega
    clear hn
    rcases h7 with rfl | rfl | rfl | rfl | rfl | rfl | rfl
    all_goals
      go_enter Tryd.func41, Tryd.ntmps41
      go_wp2_with (go_at_call 62; refine (isEnc_any _ _).mono ?_; rintro e w' ⟨rfl, rfl⟩; rw [HN.out])
      go_ret2
      exact ⟨rfl, (by repeat (first | exact Bel.refl _ | refine Bel.drewN ?_ _ | refine Bel.drew ?_ | refine Bel.alloc ?_ _ | refine Bel.trans ?_ (by assumption) | refine Bel.setCell ?_ (by simp; omega) _))⟩
end Go.Proofs.YthaoohckgilahaaDoor

/-
  Package attr: All, charset, Told, Charset.
-/
namespace Go.Proofs.YthaoohckgilahaaDoor
open Go.RowKit
set_option maxRecDepth 1000000

theorem allBad_any (s : ByteArray) (at_ : Int) (x : Int) (hx : (x != 0) = true) (h : readyA s.data.toList at_ = x) (w : World) : Calls Tryd.prog 9 #[.string s, .int .i64 at_] w fun e w' => e = .returned (.tuple #[.slice none 0 0, .int .i64 0, .int .i64 x]) ∧ Bel w w' := by
  have H := Lib.hid h
  clear h
  go_enter Tryd.func9, Tryd.ntmps9
  go_wp2_with (go_at_call 25; refine (ready_any s at_ _).mono ?_; rintro e w' ⟨rfl, rfl⟩; rw [H.out])
  exact bodyPost_ret (v := .tuple #[.slice none 0 0, .int .i64 0, .int .i64 x]) (by simp [results, Tryd.results9, go_sem]) rfl ⟨rfl, Bel.refl w⟩
theorem allOk_any (s : ByteArray) (k : Nat) (hk : k ≤ s.size) (hs : s.size ≤ 3000) (xs : List (List UInt8 × List UInt8)) (r : List UInt8) (hn : M.attrsA (s.data.toList.drop k) = (xs, r)) (h : readyA s.data.toList (k : Int) = 0) (w : World) : Calls Tryd.prog 9 #[.string s, .int .i64 (k : Int)] w fun e w' => ∃ v, e = .returned (.tuple #[v, .int .i64 ((s.size - r.length : Nat) : Int), .int .i64 0]) ∧ OwnA w.heap.size w' v xs ∧ Bel w w' := by
  have H := Lib.hid h
  have HN := Lib.hid hn
  clear h hn
  go_enter Tryd.func9, Tryd.ntmps9
  go_wp2_with (first | (go_at_call 25; refine (ready_any s k _).mono ?_; rintro e w' ⟨rfl, rfl⟩; rw [H.out]) | (go_at_call 27; refine (from_any s k hk hs xs r HN.out _).mono ?_; rintro e w' ⟨v, rfl, hown, hb⟩))
  exact bodyPost_ret (v := .tuple #[v, .int .i64 ((s.size - r.length : Nat) : Int), .int .i64 0]) (by simp [results, Tryd.results9, go_sem]) rfl ⟨v, rfl, hown, hb⟩
theorem charset_any (g : Nat) (s : ByteArray) (k : Nat) (l : List UInt8) (w : World) (hr : Rd w g s k) (hk : k ≤ s.size) (hl : s.data.toList.drop k = l) (hs : s.size ≤ 68719476735) :
    Calls Tryd.prog 53 #[.pointer (some ⟨g, 0, none⟩)] w fun e w' => e = .returned (.int .i64 (M.charOf l)) ∧ Bes g w w' := by
  have hgl : g < w.heap.size := Box.lt hr
  have hll : l.length ≤ s.size := by rw [← hl, List.length_drop, ← Lib.size_eq]; omega
  go_enter Tryd.func53, Tryd.ntmps53
  go_wp2_with fail
  refine (pass_to g s k 45 #[] M.white l w hr hk hl hs (enters_of Tryd.func45 (by kernel_rfl) rfl) (says_white g s w)).mono ?_
  rintro e W1 ⟨rfl, k1, hk1, hr1, hl1, hB1⟩
  go_wp2_with fail
  refine (one_any _ _).mono ?_
  rintro e W2 ⟨rfl, rfl⟩
  have hbq := Box.new W1 9 [.string ⟨#[34, 39]⟩]
  have hbb : Bel W1 (W1.alloc (.cells #[.string ⟨#[34, 39]⟩] 9)) := (Bel.refl W1).alloc _
  have hne : W1.heap.size ≠ g := by have := hB1.size; omega
  have hr2 := hr1.bel hbb
  have hB2 := hB1.trans (Bes.of_bel hbb)
  generalize (W1.alloc (.cells #[.string ⟨#[34, 39]⟩] 9)) = W2 at *
  have hq0 : ∃ b, headP attrOne (l.dropWhile M.white) = b := ⟨_, rfl⟩
  obtain ⟨b, hq0⟩ := hq0
  go_wp2_with fail
  refine (here_to g s k1 65 #[.pointer (some ⟨W1.heap.size, 0, none⟩)] attrOne _ b W2 hr2 hk1 hl1 hq0 (enters_of Tryd.func65 (by kernel_rfl) rfl) (says_one g s W2 _ ⟨#[34, 39]⟩ hne hbq attrOne isQuote)).mono ?_
  rintro e W3 ⟨rfl, hr3, hb3⟩
  have hB3 := hB2.trans (Bes.of_bel hb3)
  have hdl := M.dropWhile_le M.white l
  clear hr hr1 hr2 hB1 hB2 hb3 hbq hbb
  cases b with
  | true =>
    cases hd : l.dropWhile M.white with
    | nil => rw [hd] at hq0; cases hq0
    | cons q t =>
      rw [hd] at hl1 hq0 hdl
      rw [List.length_cons] at hdl
      have hq1 : q = 34 ∨ q = 39 := by simpa [headP, attrOne] using hq0
      have hvl : ((M.quotedA q t).1.getD []).length ≤ t.length := by
        unfold M.quotedA
        have h1 := (List.takeWhile_prefix (fun c => c != q) (l := t)).length_le
        split
        · exact Nat.zero_le _
        · exact h1
      have qq := quoted_any g s k1 q t W3 hr3 hk1 hl1 hs
      cases ho : (M.quotedA q t).1 with
      | none =>
        have HV := Lib.hid (show M.charOf l = 0 by rw [M.charOf, hd]; simp only; rw [if_pos hq1, ho])
        rw [ho] at qq
        clear hvl ho hd
        go_wp2_with fail
        refine qq.mono ?_
        rintro e W4 ⟨rfl, k4, hk4, hr4, hl4, hB4⟩
        go_wp2_with fail
        go_ret
        rw [HV.out]
        exact ⟨rfl, hB3.trans hB4⟩
      | some v =>
        have HV := Lib.hid (show M.charOf l = M.find v by rw [M.charOf, hd]; simp only; rw [if_pos hq1, ho])
        rw [ho] at qq hvl
        have hvl2 : v.length ≤ t.length := hvl
        clear hvl ho hd
        go_wp2_with fail
        refine qq.mono ?_
        rintro e W4 ⟨rfl, k4, hk4, hr4, hl4, hB4⟩
        go_wp2_with fail
        refine (of_any ⟨v.toArray⟩ W4 (by rw [size_str]; omega)).mono ?_
        rintro e W5 ⟨rfl, hb5⟩
        go_wp2_with fail
        go_ret
        rw [HV.out]
        exact ⟨rfl, (hB3.trans hB4).trans (Bes.of_bel hb5)⟩
  | false =>
    have HV := Lib.hid (show M.charOf l = M.find ((l.dropWhile M.white).takeWhile M.labB) by
      unfold M.charOf
      cases hd : l.dropWhile M.white with
      | nil => rfl
      | cons q t =>
        rw [hd] at hq0
        have hq1 : ¬ (q = 34 ∨ q = 39) := by simpa [headP, attrOne] using hq0
        simp only
        rw [if_neg hq1])
    have htl := (List.takeWhile_prefix M.labB (l := l.dropWhile M.white)).length_le
    go_wp2_with fail
    refine (pass_to g s k1 70 #[] M.labB _ W3 hr3 hk1 hl1 hs (enters_of Tryd.func70 (by kernel_rfl) rfl) (says_lab g s W3)).mono ?_
    rintro e W4 ⟨rfl, k4, hk4, hr4, hl4, hB4⟩
    go_wp2_with fail
    refine (of_any _ W4 (by rw [size_str]; omega)).mono ?_
    rintro e W5 ⟨rfl, hb5⟩
    go_wp2_with fail
    go_ret
    rw [HV.out]
    exact ⟨rfl, (hB3.trans hB4).trans (Bes.of_bel hb5)⟩
theorem index_cases (s sub : List UInt8) (hsub : sub ≠ []) : (Lib.index s sub = -1 ∧ ∀ j, Lib.hasPrefix (s.drop j) sub = false) ∨ ∃ i : Nat, i + sub.length ≤ s.length ∧ Lib.index s sub = (i : Int) ∧ Lib.hasPrefix (s.drop i) sub = true ∧ ∀ j, j < i → Lib.hasPrefix (s.drop j) sub = false := by
  have key : ∀ n : Nat, (∀ j, j < n → Lib.occAt s sub j = false) ∨ ∃ i, Lib.occAt s sub i = true ∧ ∀ j, j < i → Lib.occAt s sub j = false := by
    intro n
    induction n with
    | zero => exact .inl (fun j hj => absurd hj (Nat.not_lt_zero _))
    | succ n ih =>
      rcases ih with ih | ih
      · cases ho : Lib.occAt s sub n with
        | true => exact .inr ⟨n, ho, ih⟩
        | false =>
          refine .inl (fun j hj => ?_)
          by_cases e : j = n
          · subst e; exact ho
          · exact ih j (by omega)
      · exact .inr ih
  rcases key (s.length + 1) with h | ⟨i, h1, h2⟩
  · left
    refine ⟨Lib.index_none (fun j hj => h j (by omega)), fun j => ?_⟩
    by_cases hj : j ≤ s.length
    · exact h j (by omega)
    · cases ho : Lib.occAt s sub j with
      | false => exact ho
      | true =>
        rcases Lib.occAt_room ho with h3 | h3
        · omega
        · exact absurd h3 hsub
  · right
    rcases Lib.occAt_room h1 with h3 | h3
    · exact ⟨i, h3, Lib.index_first (by omega) h1 h2, h1, h2⟩
    · exact absurd h3 hsub
theorem fold_drop (l : List UInt8) (k : Nat) : (M.fold l).drop k = M.fold (l.drop k) := by unfold M.fold; rw [List.map_drop]
theorem told_any2 (s : ByteArray) (hs : s.size ≤ 3000) (w : World) (hL : Len w) : Calls Tryd.prog 28 #[.string s] w fun e w' => e = .returned (.int .i64 (M.charA s.data.toList)) ∧ Bel w w' := by
  have hr0 : Rd (w.alloc (.cells #[.string s, .int .i64 0] 50)) w.heap.size s 0 := Box.new w 50 [.string s, .int .i64 0]
  have hb0 : Bel w (w.alloc (.cells #[.string s, .int .i64 0] 50)) := (Bel.refl w).alloc _
  go_enter Tryd.func28, Tryd.ntmps28
  go_wp2_with fail
  generalize (w.alloc (.cells #[.string s, .int .i64 0] 50)) = W0 at *
  refine (folded_any s W0 (by omega)).mono ?_
  rintro e W1 ⟨rfl, hb1⟩
  have hr1 := hr0.bel hb1
  have hb2 := hb0.trans hb1
  clear hr0 hb0 hb1
  obtain ⟨low, hlow⟩ : ∃ low : ByteArray, low = ⟨(M.fold s.data.toList).toArray⟩ := ⟨_, rfl⟩
  have HLW := Lib.hid (show low.data.toList = M.fold s.data.toList by rw [hlow])
  have hls : low.size = s.size := by rw [Lib.size_eq, HLW.out, M.fold_len, ← Lib.size_eq]
  rw [← hlow]
  clear hlow
  go_wp2_with fail
  go_loopg [5] (s.size + 1) (fun gg _ wr => ∃ (j : Nat), j ≤ s.size ∧ s.size - j ≤ gg ∧ Rd wr w.heap.size s j ∧ Bel w wr ∧ Hid (M.charA s.data.toList = M.charA (s.data.toList.drop j)))
  case atStart => exact ⟨0, by omega, by omega, hr1, hb2, Lib.hid rfl⟩
  case round =>
    clear hr1 hb2
    obtain ⟨j, hj, hg, hr, hb, HJ⟩ := hrel
    have hrl := Box.lt hr
    have c1 := Box.cell hr 1 _ rfl
    have hbd : (0 : Int) ≤ (j : Int) ∧ (j : Int) ≤ (low.size : Int) := by omega
    obtain ⟨m, hm⟩ := hL.bel hb
    have HD := Lib.hid (show (low.extract j low.size).data.toList = M.fold (s.data.toList.drop j) by rw [drop_str, HLW.out, fold_drop])
    have hds : (low.extract j low.size).size = s.size - j := by rw [drop_size, hls]
    have hix := Tryd.strings_Index (low.extract j low.size) ⟨#[99, 104, 97, 114, 115, 101, 116]⟩ m wr (by omega) hm
    rw [HD.out, hls] at hix
    go_wp2_with fail
    rcases index_cases (M.fold (s.data.toList.drop j)) [99, 104, 97, 114, 115, 101, 116] (by decide) with ⟨hi, hno⟩ | ⟨i, hil, hi, hyes, hno⟩
    · rw [hi] at hix
      have HR := Lib.hid (show M.charA s.data.toList = 0 by
        rw [HJ.out, M.charA_skip (s.data.toList.drop j).length _ (fun q _ => by have := hno q; rw [fold_drop] at this; exact this), List.drop_length]; rfl)
      clear hno hi
      refine hix.mono ?_
      rintro e W2 ⟨rfl, rfl⟩
      go_wp2_with fail
      go_ret
      rw [HR.out]
      exact ⟨rfl, hb⟩
    · rw [hi] at hix
      rw [M.fold_len, List.length_drop, ← Lib.size_eq] at hil
      have hil2 : i + 7 ≤ s.size - j := hil
      have HR := Lib.hid (show M.charA s.data.toList = M.charA (s.data.toList.drop (j + i)) by
        rw [HJ.out, M.charA_skip i _ (fun q hq => by have := hno q hq; rw [fold_drop] at this; exact this), List.drop_drop])
      have hpre : Lib.hasPrefix (M.fold (s.data.toList.drop (j + i))) M.charset7 = true := by
        have := hyes
        rw [fold_drop, List.drop_drop] at this
        exact this
      obtain ⟨c0, t0, hct⟩ : ∃ c t, s.data.toList.drop (j + i) = c :: t := by
        cases hd : s.data.toList.drop (j + i) with
        | nil =>
          have := congrArg List.length hd
          rw [List.length_drop, ← Lib.size_eq, List.length_nil] at this
          omega
        | cons c t => exact ⟨c, t, rfl⟩
      rw [hct] at HR hpre
      have h7 : s.data.toList.drop (j + (i + 7)) = (c0 :: t0).drop 7 := by rw [← hct, List.drop_drop, Nat.add_assoc]
      have f1 := Box.frozen hr 1
      have HP := Lib.hid hpre
      clear hno hi hyes hil hct hpre
      refine hix.mono ?_
      rintro e W2 ⟨rfl, rfl⟩
      go_wp2_with fail
      have hr3 : Rd (W2.setCell ⟨w.heap.size, 1, none⟩ (.int .i64 ((j : Int) + ((i : Int) + 7)))) w.heap.size s (j + (i + 7)) := hr.move (j + (i + 7))
      have hb3 : Bel w (W2.setCell ⟨w.heap.size, 1, none⟩ (.int .i64 ((j : Int) + ((i : Int) + 7)))) := hb.setCell (p := ⟨w.heap.size, 1, none⟩) (Nat.le_refl _) _
      generalize (W2.setCell ⟨w.heap.size, 1, none⟩ (.int .i64 ((j : Int) + ((i : Int) + 7)))) = W3 at *
      clear hr hb c1 hm hix f1
      refine (pass_to w.heap.size s (j + (i + 7)) 45 #[] M.white _ W3 hr3 (by omega) h7 (by omega) (enters_of Tryd.func45 (by kernel_rfl) rfl) (says_white w.heap.size s W3)).mono ?_
      rintro e W4 ⟨rfl, k4, hk4, hr4, hl4, hB4⟩
      have hb4 : Bel w W4 := hB4.bel hb3 (Nat.le_refl _)
      have hlen4 := at_of s k4 hk4 _ hl4
      have hdl := M.dropWhile_le M.white ((c0 :: t0).drop 7)
      have hl7 := congrArg List.length h7
      rw [List.length_drop, ← Lib.size_eq] at hl7
      have hk47 : j + 7 ≤ k4 := by omega
      have HK4 := Lib.hid hlen4
      clear hlen4 hdl hl7
      clear hr3 hb3 hB4
      go_wp2_with fail
      refine (one_any _ _).mono ?_
      rintro e W5 ⟨rfl, rfl⟩
      have hbq := Box.new W4 9 [.string ⟨#[61]⟩]
      have hbb : Bel W4 (W4.alloc (.cells #[.string ⟨#[61]⟩] 9)) := (Bel.refl W4).alloc _
      have hne : W4.heap.size ≠ w.heap.size := by have := Box.lt hr4; omega
      have hr5 := hr4.bel hbb
      have hb5 := hb4.trans hbb
      generalize (W4.alloc (.cells #[.string ⟨#[61]⟩] 9)) = W5 at *
      have hq0 : ∃ b, headP (fun c => c == 61) (((c0 :: t0).drop 7).dropWhile M.white) = b := ⟨_, rfl⟩
      obtain ⟨b, hq0⟩ := hq0
      go_wp2_with fail
      refine (here_to w.heap.size s k4 65 #[.pointer (some ⟨W4.heap.size, 0, none⟩)] (fun c => c == 61) _ b W5 hr5 hk4 hl4 hq0 (enters_of Tryd.func65 (by kernel_rfl) rfl) (says_one w.heap.size s W5 _ ⟨#[61]⟩ hne hbq (fun c => c == 61) isEq)).mono ?_
      rintro e W6 ⟨rfl, hr6, hb6⟩
      have hbw := hb5.trans hb6
      clear hr4 hb4 hr5 hb5 hb6 hbq hbb
      cases b with
      | true =>
        cases hd : ((c0 :: t0).drop 7).dropWhile M.white with
        | nil => rw [hd] at hq0; cases hq0
        | cons e5 u5 =>
          rw [hd] at hq0 hl4 HK4
          have he : e5 = 61 := by simpa [headP] using hq0
          have HC := Lib.hid (show M.charA s.data.toList = M.charOf u5 by
            rw [HR.out]
            exact M.charA_eq c0 t0 u5 HP.out (by rw [hd, M.behindEq, if_pos he]))
          have hdl := M.dropWhile_le M.white ((c0 :: t0).drop 7)
          rw [hd, List.length_cons] at hdl
          have hl7 := congrArg List.length h7
          rw [List.length_drop, ← Lib.size_eq] at hl7
          have hk41 : k4 + 1 ≤ s.size := by have := HK4.out; rw [List.length_cons] at this; omega
          clear hdl hl7
          have c1 := Box.cell hr6 1 _ rfl
          have f1 := Box.frozen hr6 1
          clear hd hq0
          go_wp2_with fail
          have hr7 : Rd (W6.setCell ⟨w.heap.size, 1, none⟩ (.int .i64 ((k4 : Int) + 1))) w.heap.size s (k4 + 1) := hr6.move (k4 + 1)
          have hb7 : Bel w (W6.setCell ⟨w.heap.size, 1, none⟩ (.int .i64 ((k4 : Int) + 1))) := hbw.setCell (p := ⟨w.heap.size, 1, none⟩) (Nat.le_refl _) _
          generalize (W6.setCell ⟨w.heap.size, 1, none⟩ (.int .i64 ((k4 : Int) + 1))) = W7 at *
          have hl8 : s.data.toList.drop (k4 + 1) = u5 := by rw [← List.drop_drop, hl4]; rfl
          refine (charset_any w.heap.size s (k4 + 1) u5 W7 hr7 (by omega) hl8 (by omega)).mono ?_
          rintro e W8 ⟨rfl, hB8⟩
          go_wp2_with fail
          go_ret
          rw [HC.out]
          exact ⟨rfl, hB8.bel hb7 (Nat.le_refl _)⟩
      | false =>
        have HC := Lib.hid (show M.charA s.data.toList = M.charA (s.data.toList.drop k4) by
          rw [HR.out, hl4]
          refine M.charA_no c0 t0 HP.out ?_
          cases hd : ((c0 :: t0).drop 7).dropWhile M.white with
          | nil => rfl
          | cons e5 u5 =>
            rw [hd] at hq0
            have he : ¬ e5 = 61 := by simpa [headP] using hq0
            rw [M.behindEq, if_neg he])
        go_wp2_with fail
        go_roundg (s.size - k4)
        case measure => omega
        case rel => exact ⟨k4, hk4, Nat.le_refl _, hr6, hbw, HC⟩
theorem charset_to (s : ByteArray) (n x : Int) (h : M.charE s.data.toList = (n, x)) (w : World) (hL : Len w) : Calls Tryd.prog 10 #[.string s] w fun e w' => e = .returned (.tuple #[.int .i64 n, .int .i64 x]) ∧ Bel w w' := by
  by_cases hl : 3000 < s.size
  · rw [M.charE, if_pos (by rw [← Lib.size_eq]; exact hl)] at h
    injection h with h1 h2
    subst h1; subst h2
    go_enter Tryd.func10, Tryd.ntmps10
    go_wp2
    go_ret2
    exact ⟨rfl, Bel.refl _⟩
  · rw [M.charE, if_neg (by rw [← Lib.size_eq]; exact hl)] at h
    injection h with h1 h2
    subst h2
    have H1 := Lib.hid h1
    clear h1
    go_enter Tryd.func10, Tryd.ntmps10
    go_wp2_with (go_at_call 28; refine (told_any2 s (by omega) _ hL).mono ?_; rintro e w' ⟨rfl, hb⟩; rw [H1.out])
    go_ret2
    exact ⟨rfl, hb⟩
end Go.Proofs.YthaoohckgilahaaDoor

/-
  Texts of the proof, laid together: PlainStream, Stream, Base6, Stream2, PlainWait, Stream3, Stream4, Stream5. No condition of its own.
-/
import Derived.Test.YtcgdecpjlggekaaG2
import Derived.Test.YtcgdecpjlggekaaG1
import Derived.Deep.RegionHeld3
import Derived.Deep.RegionLaw

/-
  Bytes that come in pieces, in plain functions and laws.
-/
namespace Go.Proofs.Ytcgdecpjlggekaa.M
open Go

structure St where
  enc : Int
  rest : Bs
  signs : Int
  fresh : Bool
  stopped : Bool
  deriving DecidableEq
def opn (n : Int) : St := ⟨n, [], 0, false, false⟩
def allE (n : Int) (s : Bs) : List Int :=
  if n = 1 then all8 s else if n = 2 ∨ n = 3 then all16 (n == 3) s else if n = 4 ∨ n = 5 then decodeS (n == 5) s else if n = 6 then allK s else if s = [] then [] else [65533]
def tellM (d : St) (b : Bs) : List Int × St :=
  if d.enc = 1 then ((told8 (d.rest ++ b)).1, { d with rest := (told8 (d.rest ++ b)).2 })
  else if d.enc = 2 ∨ d.enc = 3 then ((told16 (d.enc == 3) (d.rest ++ b)).1, { d with rest := (told16 (d.enc == 3) (d.rest ++ b)).2 })
  else if d.enc = 6 then ((toldK false d.signs d.fresh (d.rest ++ b)).1, { d with signs := (toldK false d.signs d.fresh (d.rest ++ b)).2.1, fresh := (toldK false d.signs d.fresh (d.rest ++ b)).2.2.1, rest := (toldK false d.signs d.fresh (d.rest ++ b)).2.2.2 })
  else if d.enc = 7 then (if d.stopped = true ∨ d.rest ++ b = [] then ([], d) else ([65533], { d with stopped := true }))
  else (allE d.enc (d.rest ++ b), d)
def endM (d : St) : List Int := if d.rest = [] then [] else if d.enc = 6 then (toldK true d.signs d.fresh d.rest).1 else [65533]
def rawM (d : St) (b : Bs) (last : Bool) : List Int × St := if last = true then ((tellM d b).1 ++ endM (tellM d b).2, opn d.enc) else tellM d b
def restOk (n : Int) (s : Bs) : Bool := decide (s = [] ∨ ((tellM (opn n) s).1 = [] ∧ (tellM (opn n) s).2.rest = s))
def stateOk (d : St) : Bool := !(decide (d.signs < 0 ∨ 2 < d.signs) || (decide (d.enc ≠ 6) && (decide (d.signs ≠ 0) || d.fresh)) || (decide (d.enc ≠ 7) && d.stopped))
def checkM (d : St) : Int := if isEnc d.enc = false then 6 else if 3 < d.rest.length ∨ restOk d.enc d.rest = false then 1 else if stateOk d = false then 4 else 0
def readyE (n : Int) (s : Bs) : Int := if isEnc n = false then 6 else if 3000 < s.length then 2 else 0
def decE (n : Int) (s : Bs) : List Int × Int := if readyE n s = 0 then (allE n s, 0) else ([], readyE n s)
def openE (n : Int) : St × Int := if isEnc n = true then (opn n, 0) else (⟨0, [], 0, false, false⟩, 6)
def feedE (d : St) (b : Bs) (last : Bool) : List Int × St × Int :=
  if checkM d = 0 then (if 3000 < b.length then ([], ⟨0, [], 0, false, false⟩, 2) else ((rawM d b last).1, (rawM d b last).2, 0)) else ([], ⟨0, [], 0, false, false⟩, checkM d)

/-! ## UTF-8 and UTF-16 in pieces -/
theorem go8_app : ∀ (m : Nat) (l b : Bs) (i n lo hi : Int), (go8 m l i n lo hi).2.2 = true → go8 m (l ++ b) i n lo hi = go8 m l i n lo hi
  | 0, l, b, i, n, lo, hi, _ => by rw [go8, go8]
  | m + 1, [], b, i, n, lo, hi, h => by simp [go8] at h
  | m + 1, c :: t, b, i, n, lo, hi, h => by
    rw [List.cons_append, go8]
    rw [go8] at h ⊢
    split
    · rfl
    · rename_i hc
      rw [if_neg hc] at h
      exact go8_app m t b _ _ _ _ h
theorem first8_app (c : UInt8) (t b : Bs) (h : (first8 (c :: t)).2.2 = true) : first8 (c :: t ++ b) = first8 (c :: t) := by
  rw [List.cons_append, first8]
  rw [first8] at h ⊢
  split
  · rfl
  · rename_i hc
    rw [if_neg hc] at h
    exact go8_app _ _ _ _ _ _ _ h
theorem told8_app : ∀ (k : Nat) (s b : Bs), s.length ≤ k → told8 (s ++ b) = ((told8 s).1 ++ (told8 ((told8 s).2 ++ b)).1, (told8 ((told8 s).2 ++ b)).2)
  | _, [], b, _ => by simp [told8_nil]
  | 0, _ :: _, _, h => by simp at h
  | k + 1, c :: t, b, h => by
    simp only [List.length_cons] at h
    cases hb : (first8 (c :: t)).2.2 with
    | false => rw [told8_no c t hb]; simp
    | true =>
      obtain ⟨h1, h2⟩ := first8_bounds c t
      have hf := first8_app c t b hb
      have hd : (c :: t ++ b).drop (first8 (c :: t)).2.1.toNat = (c :: t).drop (first8 (c :: t)).2.1.toNat ++ b := List.drop_append_of_le_length (by omega)
      rw [told8_ok c t hb]
      have e := told8_ok c (t ++ b) (by rw [← List.cons_append, hf]; exact hb)
      rw [← List.cons_append, hf, hd] at e
      rw [e, told8_app k _ b (by rw [List.length_drop]; simp only [List.length_cons] at h2 ⊢; omega)]
      rfl
theorem told8_again : ∀ (k : Nat) (s : Bs), s.length ≤ k → told8 (told8 s).2 = ([], (told8 s).2)
  | _, [], _ => rfl
  | 0, _ :: _, h => by simp at h
  | k + 1, c :: t, h => by
    simp only [List.length_cons] at h
    cases hb : (first8 (c :: t)).2.2 with
    | false => rw [told8_no c t hb]; exact told8_no c t hb
    | true =>
      obtain ⟨h1, h2⟩ := first8_bounds c t
      rw [told8_ok c t hb]
      exact told8_again k _ (by rw [List.length_drop]; simp only [List.length_cons] at h2 ⊢; omega)
theorem told8_rest (s : Bs) : (told8 s).2.length ≤ 3 := by
  obtain ⟨_, _, h, _⟩ := told8_cut _ s (Nat.le_refl _)
  exact h
theorem told16_app (big : Bool) : ∀ (k : Nat) (s b : Bs), s.length ≤ k → told16 big (s ++ b) = ((told16 big s).1 ++ (told16 big ((told16 big s).2 ++ b)).1, (told16 big ((told16 big s).2 ++ b)).2)
  | _, [], b, _ => by simp [told16_nil]
  | _, [a], b, _ => by simp [told16_one]
  | 0, _ :: _ :: _, _, h => by simp at h
  | k + 1, a :: c :: t, b, h => by
    simp only [List.length_cons] at h
    rcases say16 big a c t with ⟨h0, e⟩ | ⟨_, h2, e⟩ | ⟨x, y, u, rfl, h1, h2, e⟩ | ⟨x, y, u, rfl, h1, h2, e⟩
    · rw [e, List.cons_append, List.cons_append, told16_plain big a c (t ++ b) h0, told16_app big k t b (by omega)]; rfl
    · rw [e]; simp
    · simp only [List.length_cons] at h
      rw [e, List.cons_append, List.cons_append, List.cons_append, List.cons_append, told16_two big a c x y (u ++ b) h1 h2, told16_app big k u b (by omega)]; rfl
    · have ih := told16_app big k (x :: y :: u) b (by omega)
      rw [List.cons_append, List.cons_append] at ih
      rw [e, List.cons_append, List.cons_append, List.cons_append, List.cons_append, told16_lone big a c x y (u ++ b) h1 h2, ih]; rfl
theorem told16_again (big : Bool) : ∀ (k : Nat) (s : Bs), s.length ≤ k → told16 big (told16 big s).2 = ([], (told16 big s).2)
  | _, [], _ => by rw [told16_nil]; exact told16_nil big
  | _, [a], _ => by rw [told16_one]; exact told16_one big a
  | 0, _ :: _ :: _, h => by simp at h
  | k + 1, a :: c :: t, h => by
    simp only [List.length_cons] at h
    rcases say16 big a c t with ⟨h0, e⟩ | ⟨_, h2, e⟩ | ⟨x, y, u, rfl, h1, h2, e⟩ | ⟨x, y, u, rfl, h1, h2, e⟩
    · rw [e]; exact told16_again big k t (by omega)
    · rw [e]; exact e
    · simp only [List.length_cons] at h
      rw [e]; exact told16_again big k u (by omega)
    · rw [e]; exact told16_again big k _ (by omega)
/-! ## States that are right -/
theorem enc_cases (n : Int) (h : isEnc n = true) : n = 1 ∨ (n = 2 ∨ n = 3) ∨ (n = 4 ∨ n = 5) ∨ n = 6 ∨ n = 7 := by
  simp only [isEnc, decide_eq_true_eq] at h; omega
theorem toldK_signs (last : Bool) : ∀ (k : Nat) (s : Bs) (g : Int) (f : Bool), s.length ≤ k → 0 ≤ g ∧ g ≤ 2 → 0 ≤ (toldK last g f s).2.1 ∧ (toldK last g f s).2.1 ≤ 2
  | _, [], g, f, _, hg => by rw [toldK_nil]; exact hg
  | 0, _ :: _, _, _, h, _ => by simp at h
  | k + 1, c :: t, g, f, h, hg => by
    simp only [List.length_cons] at h
    rcases sayK last g f c t with ⟨_, e⟩ | ⟨rfl, q, x, u, rfl, hq, _, e⟩ | ⟨rfl, h1, _, h2, e⟩ | ⟨rfl, _, _, e⟩
    · rw [e]; exact toldK_signs last k t g false (by omega) hg
    · simp only [List.length_cons] at h
      rw [e]
      refine toldK_signs last k u q true (by omega) ?_
      unfold escK at hq
      (repeat' split at hq) <;> first | (injection hq with hq; omega) | cases hq
    · rw [e]; exact hg
    · rw [e]; exact toldK_signs last k t g false (by omega) hg
/-- What a right state is. -/
structure Right (d : St) : Prop where
  enc : isEnc d.enc = true
  r8 : d.enc = 1 → told8 d.rest = ([], d.rest)
  r16 : d.enc = 2 ∨ d.enc = 3 → told16 (d.enc == 3) d.rest = ([], d.rest)
  rk : d.enc = 6 → d.rest = [] ∨ d.rest = [27] ∨ d.rest = [27, 40]
  rn : d.enc = 4 ∨ d.enc = 5 ∨ d.enc = 7 → d.rest = []
  len : d.rest.length ≤ 3
  sg : 0 ≤ d.signs ∧ d.signs ≤ 2
  nk : d.enc ≠ 6 → d.signs = 0 ∧ d.fresh = false
  ns : d.enc ≠ 7 → d.stopped = false
theorem decodeS_nil (user : Bool) (s : Bs) : decodeS user s = [] ↔ s = [] := by
  unfold decodeS; simp
theorem tell_opn (n : Int) (s : Bs) :
    (n = 1 → tellM (opn n) s = ((told8 s).1, { opn n with rest := (told8 s).2 })) ∧
    (n = 2 ∨ n = 3 → tellM (opn n) s = ((told16 (n == 3) s).1, { opn n with rest := (told16 (n == 3) s).2 })) ∧
    (n = 4 ∨ n = 5 → tellM (opn n) s = (decodeS (n == 5) s, opn n)) ∧
    (n = 6 → tellM (opn n) s = ((toldK false 0 false s).1, { opn n with signs := (toldK false 0 false s).2.1, fresh := (toldK false 0 false s).2.2.1, rest := (toldK false 0 false s).2.2.2 })) ∧
    (n = 7 → tellM (opn n) s = (if s = [] then ([], opn n) else ([65533], { opn n with stopped := true }))) := by
  refine ⟨fun h => ?_, fun h => ?_, fun h => ?_, fun h => ?_, fun h => ?_⟩
  · rw [tellM, if_pos (by exact h)]; rfl
  · rw [tellM, if_neg (by simp only [opn]; omega), if_pos (by exact h)]; rfl
  · rw [tellM, if_neg (by simp only [opn]; omega), if_neg (by simp only [opn]; omega), if_neg (by simp only [opn]; omega), if_neg (by simp only [opn]; omega)]
    show (allE n s, opn n) = _
    rw [allE, if_neg (by omega), if_neg (by omega), if_pos h]
  · rw [tellM, if_neg (by simp only [opn]; omega), if_neg (by simp only [opn]; omega), if_pos (by exact h)]; rfl
  · rw [tellM, if_neg (by simp only [opn]; omega), if_neg (by simp only [opn]; omega), if_neg (by simp only [opn]; omega), if_pos (by exact h)]; simp [opn]
theorem restOk_iff (n : Int) (h : isEnc n = true) (s : Bs) : restOk n s = true ↔ (n = 1 → told8 s = ([], s)) ∧ (n = 2 ∨ n = 3 → told16 (n == 3) s = ([], s)) ∧ (n = 6 → s = [] ∨ s = [27] ∨ s = [27, 40]) ∧ (n = 4 ∨ n = 5 ∨ n = 7 → s = []) := by
  unfold restOk
  rw [decide_eq_true_eq]
  obtain ⟨t1, t2, t3, t4, t5⟩ := tell_opn n s
  rcases enc_cases n h with h2 | h2 | h2 | h2 | h2
  · rw [t1 h2]
    constructor
    · rintro (rfl | ⟨h3, h4⟩)
      · exact ⟨fun _ => rfl, fun h => by omega, fun h => by omega, fun _ => rfl⟩
      · exact ⟨fun _ => Prod.ext h3 h4, fun h => by omega, fun h => by omega, fun h => by omega⟩
    · rintro ⟨h1, _⟩
      rw [h1 h2]
      exact .inr ⟨rfl, rfl⟩
  · rw [t2 h2]
    constructor
    · rintro (rfl | ⟨h3, h4⟩)
      · exact ⟨fun _ => rfl, fun _ => told16_nil _, fun h => by omega, fun _ => rfl⟩
      · exact ⟨fun h => by omega, fun _ => Prod.ext h3 h4, fun h => by omega, fun h => by omega⟩
    · rintro ⟨_, h1, _⟩
      rw [h1 h2]
      exact .inr ⟨rfl, rfl⟩
  · rw [t3 h2]
    constructor
    · rintro (rfl | ⟨h3, h4⟩)
      · exact ⟨fun h => by omega, fun h => by omega, fun h => by omega, fun _ => rfl⟩
      · exact ⟨fun h => by omega, fun h => by omega, fun h => by omega, fun _ => (decodeS_nil _ _).1 h3⟩
    · rintro ⟨_, _, _, h1⟩
      exact .inl (h1 (by omega))
  · rw [t4 h2]
    constructor
    · rintro (rfl | ⟨h3, h4⟩)
      · exact ⟨fun h => by omega, fun h => by omega, fun h => .inl rfl, fun _ => rfl⟩
      · refine ⟨fun h => by omega, fun h => by omega, fun _ => ?_, fun h => by omega⟩
        simp only at h3 h4
        cases s with
        | nil => exact .inl rfl
        | cons c t =>
          rcases sayK false 0 false c t with ⟨_, e⟩ | ⟨rfl, q, x, u, rfl, _, _, e⟩ | ⟨rfl, h1, _, h2, e⟩ | ⟨rfl, _, _, e⟩
          · rw [e] at h3; cases h3
          · have := (toldK_rest false _ u q true (Nat.le_refl _)).1
            rw [e] at h4
            have h4 := congrArg List.length h4
            simp only [List.length_cons] at h4
            omega
          · simp only [waitK, decide_eq_true_eq] at h1
            rcases h1 with rfl | rfl <;> simp
          · rw [e] at h3; cases h3
    · rintro ⟨_, _, h1, _⟩
      have := (waits_iff s 0 false).2 (h1 h2)
      rw [this]
      exact .inr ⟨rfl, rfl⟩
  · rw [t5 h2]
    constructor
    · rintro (rfl | ⟨h3, h4⟩)
      · exact ⟨fun h => by omega, fun h => by omega, fun h => .inl rfl, fun _ => rfl⟩
      · by_cases hs : s = []
        · subst hs; exact ⟨fun h => by omega, fun h => by omega, fun h => .inl rfl, fun _ => rfl⟩
        · rw [if_neg hs] at h3; cases h3
    · rintro ⟨_, _, _, h1⟩
      exact .inl (h1 (by omega))
theorem check_right (d : St) : checkM d = 0 ↔ Right d := by
  unfold checkM
  constructor
  · intro h
    split at h
    · cases h
    · rename_i h1
      rw [Bool.not_eq_false] at h1
      split at h
      · cases h
      · rename_i h2
        split at h
        · cases h
        · rename_i h3
          have h4 : restOk d.enc d.rest = true := by rw [← Bool.not_eq_false]; exact fun hh => h2 (.inr hh)
          obtain ⟨a1, a2, a3, a4⟩ := (restOk_iff d.enc h1 d.rest).1 h4
          simp only [stateOk, Bool.not_eq_false', Bool.or_eq_true, Bool.and_eq_true, decide_eq_true_eq, not_or, not_and] at h3
          obtain ⟨⟨b1, b2⟩, b3⟩ := h3
          refine ⟨h1, a1, a2, a3, a4, by omega, by omega, fun h6 => ?_, fun h7 => ?_⟩
          · have := b2 h6
            exact ⟨by omega, by simpa using this.2⟩
          · simpa using b3 h7
  · intro h
    rw [if_neg (by rw [h.enc]; decide), if_neg, if_neg]
    · have hk := h.nk
      have hs := h.ns
      have hg := h.sg
      simp only [stateOk, Bool.not_eq_false', Bool.or_eq_true, Bool.and_eq_true, decide_eq_true_eq, not_or, not_and]
      refine ⟨⟨by omega, fun h6 => ?_⟩, fun h7 => by simp [hs h7]⟩
      obtain ⟨h8, h9⟩ := hk h6
      exact ⟨by omega, by simp [h9]⟩
    · rintro (hh | hh)
      · have := h.len; omega
      · rw [(restOk_iff d.enc h.enc d.rest).2 ⟨h.r8, h.r16, h.rk, h.rn⟩] at hh; cases hh
theorem right_opn (n : Int) (h : isEnc n = true) : Right (opn n) :=
  ⟨h, fun _ => rfl, fun _ => told16_nil _, fun _ => .inl rfl, fun _ => rfl, by simp [opn], by simp [opn], fun _ => ⟨rfl, rfl⟩, fun _ => rfl⟩
theorem tell_enc (d : St) (b : Bs) : (tellM d b).2.enc = d.enc := by
  unfold tellM; (repeat' split) <;> rfl
theorem right_tell (d : St) (b : Bs) (h : Right d) : Right (tellM d b).2 := by
  rcases enc_cases d.enc h.enc with h1 | h1 | h1 | h1 | h1
  · have e : tellM d b = ((told8 (d.rest ++ b)).1, { d with rest := (told8 (d.rest ++ b)).2 }) := by rw [tellM, if_pos h1]
    rw [e]
    exact ⟨h.enc, fun _ => told8_again _ _ (Nat.le_refl _), fun h2 => by simp only at h2; omega, fun h2 => by simp only at h2; omega, fun h2 => by simp only at h2; omega, told8_rest _, h.sg, h.nk, h.ns⟩
  · have e : tellM d b = ((told16 (d.enc == 3) (d.rest ++ b)).1, { d with rest := (told16 (d.enc == 3) (d.rest ++ b)).2 }) := by rw [tellM, if_neg (by omega), if_pos h1]
    rw [e]
    exact ⟨h.enc, fun h2 => by simp only at h2; omega, fun _ => told16_again _ _ _ (Nat.le_refl _), fun h2 => by simp only at h2; omega, fun h2 => by simp only at h2; omega, (told16_len _ _ _ (Nat.le_refl _)).2, h.sg, h.nk, h.ns⟩
  · have e : tellM d b = (allE d.enc (d.rest ++ b), d) := by rw [tellM, if_neg (by omega), if_neg (by omega), if_neg (by omega), if_neg (by omega)]
    rw [e]; exact h
  · have e : tellM d b = ((toldK false d.signs d.fresh (d.rest ++ b)).1, { d with signs := (toldK false d.signs d.fresh (d.rest ++ b)).2.1, fresh := (toldK false d.signs d.fresh (d.rest ++ b)).2.2.1, rest := (toldK false d.signs d.fresh (d.rest ++ b)).2.2.2 }) := by rw [tellM, if_neg (by omega), if_neg (by omega), if_pos h1]
    rw [e]
    have hr := (toldK_rest false _ (d.rest ++ b) d.signs d.fresh (Nat.le_refl _)).2
    have hr2 : (toldK false d.signs d.fresh (d.rest ++ b)).2.2.2 = [] ∨ (toldK false d.signs d.fresh (d.rest ++ b)).2.2.2 = [27] ∨ (toldK false d.signs d.fresh (d.rest ++ b)).2.2.2 = [27, 40] := by
      rcases hr with hr | ⟨_, t, ht, hr⟩
      · exact .inl hr
      · simp only [waitK, decide_eq_true_eq] at ht
        rcases ht with rfl | rfl
        · exact .inr (.inl hr)
        · exact .inr (.inr hr)
    refine ⟨h.enc, fun h2 => by simp only at h2; omega, fun h2 => by simp only at h2; omega, fun _ => hr2, fun h2 => by simp only at h2; omega, ?_, toldK_signs false _ _ _ _ (Nat.le_refl _) h.sg, fun h2 => absurd h1 h2, h.ns⟩
    rcases hr2 with hr2 | hr2 | hr2 <;> simp [hr2]
  · have e : tellM d b = (if d.stopped = true ∨ d.rest ++ b = [] then ([], d) else ([65533], { d with stopped := true })) := by rw [tellM, if_neg (by omega), if_neg (by omega), if_neg (by omega), if_pos h1]
    rw [e]
    split
    · exact h
    · exact ⟨h.enc, h.r8, h.r16, h.rk, h.rn, h.len, h.sg, h.nk, fun h2 => absurd h1 h2⟩
/-- Two parts: the second one goes on where the first one stopped. -/
theorem tell_app (d : St) (h : Right d) (a b : Bs) : tellM d (a ++ b) = ((tellM d a).1 ++ (tellM (tellM d a).2 b).1, (tellM (tellM d a).2 b).2) := by
  rcases enc_cases d.enc h.enc with h1 | h1 | h1 | h1 | h1
  · have e : ∀ b, tellM d b = ((told8 (d.rest ++ b)).1, { d with rest := (told8 (d.rest ++ b)).2 }) := fun b => by rw [tellM, if_pos h1]
    rw [e a, e (a ++ b), tellM, if_pos (by exact h1), ← List.append_assoc, told8_app _ (d.rest ++ a) b (Nat.le_refl _)]
  · have e : ∀ b, tellM d b = ((told16 (d.enc == 3) (d.rest ++ b)).1, { d with rest := (told16 (d.enc == 3) (d.rest ++ b)).2 }) := fun b => by rw [tellM, if_neg (by omega), if_pos h1]
    rw [e a, e (a ++ b), tellM, if_neg (by simp only; omega), if_pos (by exact h1), ← List.append_assoc, told16_app _ _ (d.rest ++ a) b (Nat.le_refl _)]
  · have e : ∀ b, tellM d b = (allE d.enc (d.rest ++ b), d) := fun b => by rw [tellM, if_neg (by omega), if_neg (by omega), if_neg (by omega), if_neg (by omega)]
    rw [e a, e (a ++ b)]
    simp only
    rw [e b, h.rn (by omega), List.nil_append, List.nil_append, List.nil_append]
    have e2 : ∀ s, allE d.enc s = decodeS (d.enc == 5) s := fun s => by rw [allE, if_neg (by omega), if_neg (by omega), if_pos h1]
    rw [e2, e2, e2, decodeS, List.map_append]
    rfl
  · have e : ∀ b, tellM d b = ((toldK false d.signs d.fresh (d.rest ++ b)).1, { d with signs := (toldK false d.signs d.fresh (d.rest ++ b)).2.1, fresh := (toldK false d.signs d.fresh (d.rest ++ b)).2.2.1, rest := (toldK false d.signs d.fresh (d.rest ++ b)).2.2.2 }) := fun b => by rw [tellM, if_neg (by omega), if_neg (by omega), if_pos h1]
    rw [e a, e (a ++ b), tellM, if_neg (by simp only; omega), if_neg (by simp only; omega), if_pos (by exact h1), ← List.append_assoc, toldK_app false _ (d.rest ++ a) b _ _ (Nat.le_refl _)]
  · have e : ∀ d : St, d.enc = 7 → ∀ b, tellM d b = (if d.stopped = true ∨ d.rest ++ b = [] then ([], d) else ([65533], { d with stopped := true })) := fun d h1 b => by rw [tellM, if_neg (by omega), if_neg (by omega), if_neg (by omega), if_pos h1]
    have hr := h.rn (by omega)
    by_cases ha : a = []
    · subst ha
      rw [List.nil_append, e d h1 [], if_pos (.inr (by rw [hr]; rfl))]
      rfl
    · by_cases hs : d.stopped = true
      · rw [e d h1 (a ++ b), e d h1 a, if_pos (.inl hs), if_pos (.inl hs), e d h1 b, if_pos (.inl hs)]
        rfl
      · rw [e d h1 (a ++ b), e d h1 a, if_neg (by simp [hs, ha]), if_neg (by simp [hs, ha])]
        simp only
        rw [e { d with stopped := true } h1 b, if_pos (.inl rfl)]
        rfl
theorem endM_nil (d : St) (h : d.rest = []) : endM d = [] := by rw [endM, if_pos h]
theorem endM_one (d : St) (h : d.rest ≠ []) (h2 : d.enc ≠ 6) : endM d = [65533] := by rw [endM, if_neg h, if_neg h2]
theorem endM_k (d : St) (h2 : d.enc = 6) : endM d = (toldK true d.signs d.fresh d.rest).1 := by
  by_cases h : d.rest = []
  · rw [endM_nil d h, h, toldK_nil]
  · rw [endM, if_neg h, if_pos h2]
/-- What is told of all bytes at once. -/
theorem raw_all (n : Int) (h : isEnc n = true) (s : Bs) : (rawM (opn n) s true).1 = allE n s := by
  rw [rawM, if_pos rfl]
  obtain ⟨t1, t2, t3, t4, t5⟩ := tell_opn n s
  rcases enc_cases n h with h1 | h1 | h1 | h1 | h1
  · rw [t1 h1, allE, if_pos h1, all8]
    by_cases hr : (told8 s).2 = []
    · rw [endM_nil _ hr, if_pos hr]; simp
    · rw [endM_one _ hr (by simp only [opn]; omega), if_neg hr]
  · rw [t2 h1, allE, if_neg (by omega), if_pos h1, all16]
    by_cases hr : (told16 (n == 3) s).2 = []
    · rw [endM_nil _ hr, if_pos hr]; simp
    · rw [endM_one _ hr (by simp only [opn]; omega), if_neg hr]
  · rw [t3 h1, allE, if_neg (by omega), if_neg (by omega), if_pos h1, endM_nil _ rfl]
    simp
  · rw [t4 h1, allE, if_neg (by omega), if_neg (by omega), if_neg (by omega), if_pos h1, allK, endM_k _ h1]
    have := toldK_app true _ s [] 0 false (Nat.le_refl _)
    rw [List.append_nil, List.append_nil] at this
    rw [this]
  · have ea : allE n s = if s = [] then [] else [65533] := by rw [allE, if_neg (by omega), if_neg (by omega), if_neg (by omega), if_neg (by omega)]
    rw [t5 h1, ea]
    by_cases hs : s = []
    · rw [if_pos hs, if_pos hs, endM_nil _ rfl]; rfl
    · rw [if_neg hs, if_neg hs, endM_nil _ rfl]; rfl
/-- Pieces. -/
theorem raw_app (d : St) (h : Right d) (a b : Bs) (last : Bool) : rawM d (a ++ b) last = ((rawM d a false).1 ++ (rawM (rawM d a false).2 b last).1, (rawM (rawM d a false).2 b last).2) := by
  have e := tell_app d h a b
  simp only [rawM, if_neg (show ¬ (false = true) by decide)]
  cases last
  · simp only [if_neg (show ¬ (false = true) by decide)]; exact e
  · simp only [if_true, e, tell_enc, List.append_assoc]
theorem right_raw (d : St) (b : Bs) (last : Bool) (h : Right d) : Right (rawM d b last).2 := by
  unfold rawM
  split
  · exact right_opn _ h.enc
  · exact right_tell d b h
theorem raw_enc (d : St) (b : Bs) (last : Bool) : (rawM d b last).2.enc = d.enc := by
  unfold rawM
  split
  · rfl
  · exact tell_enc d b
theorem raw_last (d : St) (b : Bs) : (rawM d b true).2 = opn d.enc := by rw [rawM, if_pos rfl]
/-- The document's way to feed: what is left is told as one Bad. -/
def refM (d : St) (b : Bs) (last : Bool) : List Int × St :=
  let s := d.rest ++ b
  let r : List Int × Int × Bool × Bool × Bs :=
    if d.enc = 1 then ((told8 s).1, d.signs, d.fresh, d.stopped, (told8 s).2)
    else if d.enc = 2 ∨ d.enc = 3 then ((told16 (d.enc == 3) s).1, d.signs, d.fresh, d.stopped, (told16 (d.enc == 3) s).2)
    else if d.enc = 4 ∨ d.enc = 5 then (decodeS (d.enc == 5) s, d.signs, d.fresh, d.stopped, [])
    else if d.enc = 6 then ((toldK last d.signs d.fresh s).1, (toldK last d.signs d.fresh s).2.1, (toldK last d.signs d.fresh s).2.2.1, d.stopped, (toldK last d.signs d.fresh s).2.2.2)
    else if d.enc = 7 ∧ s ≠ [] ∧ d.stopped = false then ([65533], d.signs, d.fresh, true, [])
    else ([], d.signs, d.fresh, d.stopped, [])
  if last = true then (if r.2.2.2.2 = [] then r.1 else r.1 ++ [65533], opn d.enc) else (r.1, ⟨d.enc, r.2.2.2.2, r.2.1, r.2.2.1, r.2.2.2.1⟩)
theorem ref_raw (d : St) (h : Right d) (b : Bs) (last : Bool) : refM d b last = rawM d b last := by
  rcases enc_cases d.enc h.enc with h1 | h1 | h1 | h1 | h1
  · have e : tellM d b = ((told8 (d.rest ++ b)).1, { d with rest := (told8 (d.rest ++ b)).2 }) := by rw [tellM, if_pos h1]
    simp only [refM, if_pos h1, rawM, e]
    cases last
    · rfl
    · simp only [if_true, Prod.mk.injEq, and_true]
      by_cases hr : (told8 (d.rest ++ b)).2 = []
      · rw [endM_nil _ hr, if_pos hr]; simp
      · rw [endM_one _ hr (by simp only; omega), if_neg hr]
  · have e : tellM d b = ((told16 (d.enc == 3) (d.rest ++ b)).1, { d with rest := (told16 (d.enc == 3) (d.rest ++ b)).2 }) := by rw [tellM, if_neg (by omega), if_pos h1]
    simp only [refM, if_neg (show ¬ d.enc = 1 by omega), if_pos h1, rawM, e]
    cases last
    · rfl
    · simp only [if_true, Prod.mk.injEq, and_true]
      by_cases hr : (told16 (d.enc == 3) (d.rest ++ b)).2 = []
      · rw [endM_nil _ hr, if_pos hr]; simp
      · rw [endM_one _ hr (by simp only; omega), if_neg hr]
  · have e : tellM d b = (allE d.enc (d.rest ++ b), d) := by rw [tellM, if_neg (by omega), if_neg (by omega), if_neg (by omega), if_neg (by omega)]
    have e2 : ∀ s, allE d.enc s = decodeS (d.enc == 5) s := fun s => by rw [allE, if_neg (by omega), if_neg (by omega), if_pos h1]
    have hr := h.rn (by omega)
    simp only [refM, if_neg (show ¬ d.enc = 1 by omega), if_neg (show ¬ (d.enc = 2 ∨ d.enc = 3) by omega), if_pos h1, rawM, e, e2]
    cases last
    · obtain ⟨n, r, g, f, s⟩ := d
      simp only at hr
      subst hr
      rfl
    · rw [endM_nil d hr]; simp
  · have e : tellM d b = ((toldK false d.signs d.fresh (d.rest ++ b)).1, { d with signs := (toldK false d.signs d.fresh (d.rest ++ b)).2.1, fresh := (toldK false d.signs d.fresh (d.rest ++ b)).2.2.1, rest := (toldK false d.signs d.fresh (d.rest ++ b)).2.2.2 }) := by rw [tellM, if_neg (by omega), if_neg (by omega), if_pos h1]
    simp only [refM, if_neg (show ¬ d.enc = 1 by omega), if_neg (show ¬ (d.enc = 2 ∨ d.enc = 3) by omega), if_neg (show ¬ (d.enc = 4 ∨ d.enc = 5) by omega), if_pos h1, rawM, e]
    cases last
    · rfl
    · have hl := toldK_app true _ (d.rest ++ b) [] d.signs d.fresh (Nat.le_refl _)
      rw [List.append_nil, List.append_nil] at hl
      have hr : (toldK true d.signs d.fresh (d.rest ++ b)).2.2.2 = [] := by
        rcases (toldK_rest true _ (d.rest ++ b) d.signs d.fresh (Nat.le_refl _)).2 with h2 | ⟨h2, _⟩
        · exact h2
        · cases h2
      simp only [if_true, hr, Prod.mk.injEq, and_true]
      rw [endM_k _ (by exact h1), hl]
  · have e : tellM d b = (if d.stopped = true ∨ d.rest ++ b = [] then ([], d) else ([65533], { d with stopped := true })) := by rw [tellM, if_neg (by omega), if_neg (by omega), if_neg (by omega), if_pos h1]
    have hr := h.rn (by omega)
    simp only [refM, if_neg (show ¬ d.enc = 1 by omega), if_neg (show ¬ (d.enc = 2 ∨ d.enc = 3) by omega), if_neg (show ¬ (d.enc = 4 ∨ d.enc = 5) by omega), if_neg (show ¬ d.enc = 6 by omega), rawM, e]
    obtain ⟨n, r, g, f, s⟩ := d
    simp only at hr h1
    subst hr
    subst h1
    by_cases hb : b = [] <;> cases s <;> cases last <;> simp [hb, endM, opn]
end Go.Proofs.Ytcgdecpjlggekaa.M

/-
  Package stream: All, ready, Decode, Open.
-/
namespace Go.Proofs.Ytcgdecpjlggekaa
open Go.RowKit
set_option maxRecDepth 1000000

/-- A state's five values. -/
def stC (d : M.St) : List Value := [.int .i64 d.enc, .string ⟨d.rest.toArray⟩, .int .i64 d.signs, .bool d.fresh, .bool d.stopped]
def stV (d : M.St) : Value := .agg #[.int .i64 d.enc, .string ⟨d.rest.toArray⟩, .int .i64 d.signs, .bool d.fresh, .bool d.stopped]
theorem streamAll_any (n : Int) (h : M.isEnc n = true) (s : ByteArray) (hs : s.size ≤ 68719476734) (w : World) : Calls Try.prog 16 #[.int .i64 n, .string s] w fun e w' => ∃ v, e = .returned v ∧ Own w.heap.size 3 w' v ((M.allE n s.data.toList).map (Value.int .i64)) ∧ Bel w w' := by
  rcases M.enc_cases n h with rfl | h1 | h1 | rfl | rfl
  · have H := Lib.hid (show M.allE 1 s.data.toList = M.all8 s.data.toList by rw [M.allE, if_pos rfl])
    clear h
    go_enter Try.func16, Try.ntmps16
    go_wp2_with (go_at_call 28; refine (all8_any _ hs _).mono ?_; rintro e w' ⟨v, rfl, ho, hb⟩)
    go_ret
    rw [H.out]
    exact ⟨_, rfl, by assumption, by assumption⟩
  · have H := Lib.hid (show M.allE n s.data.toList = M.all16 (n == 3) s.data.toList by rw [M.allE, if_neg (by omega), if_pos h1])
    clear h
    rcases h1 with rfl | rfl
    all_goals
      go_enter Try.func16, Try.ntmps16
      go_wp2_with (go_at_call 29; refine (all16_any _ _ hs _).mono ?_; rintro e w' ⟨v, rfl, ho, hb⟩)
      go_ret
      rw [H.out]
      exact ⟨_, rfl, by assumption, by assumption⟩
  · have H := Lib.hid (show M.allE n s.data.toList = M.decodeS (n == 5) s.data.toList by rw [M.allE, if_neg (by omega), if_neg (by omega), if_pos h1])
    clear h
    rcases h1 with rfl | rfl
    all_goals
      go_enter Try.func16, Try.ntmps16
      go_wp2_with (go_at_call 30; refine (all_any _ _ _ (by omega)).mono ?_; rintro e w' ⟨v, rfl, ho, hb⟩)
      go_ret
      rw [H.out]
      exact ⟨_, rfl, by assumption, by assumption⟩
  · have H := Lib.hid (show M.allE 6 s.data.toList = M.allK s.data.toList by rw [M.allE, if_neg (by omega), if_neg (by omega), if_neg (by omega), if_pos rfl])
    clear h
    go_enter Try.func16, Try.ntmps16
    go_wp2_with (go_at_call 31; refine (allKana_any _ (by omega) _).mono ?_; rintro e w' ⟨v, rfl, ho, hb⟩)
    go_ret
    rw [H.out]
    exact ⟨_, rfl, by assumption, by assumption⟩
  · have H0 : M.allE 7 s.data.toList = if s.data.toList = [] then [] else [65533] := by rw [M.allE, if_neg (by omega), if_neg (by omega), if_neg (by omega), if_neg (by omega)]
    clear h
    by_cases he : s.data.toList = []
    · have H := Lib.hid (show M.allE 7 s.data.toList = [] by rw [H0, if_pos he])
      have e1 : (!s.toList.isEmpty) = false := by rw [Lib.toList_data, he]; rfl
      have e2 : s.toList.isEmpty = true := by rw [Lib.toList_data, he]; rfl
      clear H0 he
      go_enter Try.func16, Try.ntmps16
      go_wp2_with fail
      go_ret
      rw [H.out]
      exact ⟨_, rfl, Own.nil _ _ _, Bel.refl _⟩
    · have H := Lib.hid (show M.allE 7 s.data.toList = [65533] by rw [H0, if_neg he])
      have e1 : (!s.toList.isEmpty) = true := by rw [Lib.toList_data]; simpa using he
      have e2 : s.toList.isEmpty = false := by rw [Lib.toList_data]; simpa using he
      clear H0 he
      go_enter Try.func16, Try.ntmps16
      go_wp2_with fail
      go_ret
      rw [H.out]
      exact ⟨_, rfl, Own.made w [.int .i64 65533] (Nat.le_refl _) (by simp [maxLen]), (Bel.refl _).alloc _⟩
theorem ready_any (n : Int) (s : ByteArray) (w : World) : Calls Try.prog 15 #[.int .i64 n, .string s] w fun e w' => e = .returned (.int .i64 (M.readyE n s.data.toList)) ∧ w = w' := by
  cases h : M.isEnc n with
  | false =>
    have H := Lib.hid (show M.readyE n s.data.toList = 6 by rw [M.readyE, if_pos h])
    have HI := Lib.hid h
    clear h
    go_enter Try.func15, Try.ntmps15
    go_wp2_with (go_at_call 17; refine (isEnc_any _ _).mono ?_; rintro e w' ⟨rfl, rfl⟩; rw [HI.out])
    go_ret
    rw [H.out]
    exact ⟨rfl, rfl⟩
  | true =>
    have HI := Lib.hid h
    by_cases h2 : 3000 < s.size
    · have H := Lib.hid (show M.readyE n s.data.toList = 2 by rw [M.readyE, if_neg (by rw [h]; decide), if_pos (by rw [← Lib.size_eq]; exact h2)])
      clear h
      go_enter Try.func15, Try.ntmps15
      go_wp2_with (go_at_call 17; refine (isEnc_any _ _).mono ?_; rintro e w' ⟨rfl, rfl⟩; rw [HI.out])
      go_ret
      rw [H.out]
      exact ⟨rfl, rfl⟩
    · have H := Lib.hid (show M.readyE n s.data.toList = 0 by rw [M.readyE, if_neg (by rw [h]; decide), if_neg (by rw [← Lib.size_eq]; exact h2)])
      clear h
      go_enter Try.func15, Try.ntmps15
      go_wp2_with (go_at_call 17; refine (isEnc_any _ _).mono ?_; rintro e w' ⟨rfl, rfl⟩; rw [HI.out])
      go_ret
      rw [H.out]
      exact ⟨rfl, rfl⟩
theorem ready_to (n : Int) (s : ByteArray) (k : Int) (h : M.readyE n s.data.toList = k) (w : World) : Calls Try.prog 15 #[.int .i64 n, .string s] w fun e w' => e = .returned (.int .i64 k) ∧ w = w' := by
  have := ready_any n s w; rw [h] at this; exact this
theorem ready_ok (n : Int) (s : ByteArray) (h : M.readyE n s.data.toList = 0) : M.isEnc n = true ∧ s.size ≤ 3000 := by
  unfold M.readyE at h
  split at h
  · cases h
  · rename_i h1
    split at h
    · cases h
    · rename_i h2
      rw [← Lib.size_eq] at h2
      exact ⟨by simpa using h1, by omega⟩
theorem decE_any (n : Int) (s : ByteArray) (w : World) : Calls Try.prog 4 #[.int .i64 n, .string s] w fun e w' => ∃ v, e = .returned (.tuple #[v, .int .i64 (M.decE n s.data.toList).2]) ∧ Own w.heap.size 3 w' v ((M.decE n s.data.toList).1.map (Value.int .i64)) ∧ Bel w w' := by
  obtain ⟨k, hk⟩ : ∃ k, M.readyE n s.data.toList = k := ⟨_, rfl⟩
  have HK := Lib.hid hk
  by_cases h : k = 0
  · subst h
    obtain ⟨h1, h2⟩ := ready_ok n s hk
    have H := Lib.hid (show M.decE n s.data.toList = (M.allE n s.data.toList, 0) by rw [M.decE, if_pos hk])
    have H1 := Lib.hid h1
    clear hk h1
    go_enter Try.func4, Try.ntmps4
    go_wp2_with (first | (go_at_call 15; refine (ready_to _ _ _ HK.out _).mono ?_; rintro e w' ⟨rfl, rfl⟩) | (go_at_call 16; refine (streamAll_any _ H1.out _ (by omega) _).mono ?_; rintro e w' ⟨v, rfl, hown, hb⟩))
    go_ret2
    rw [H.out]
    exact ⟨_, rfl, by assumption, by assumption⟩
  · have H := Lib.hid (show M.decE n s.data.toList = ([], k) by rw [M.decE, hk, if_neg h])
    have e1 : (k != 0) = true := by simpa using h
    clear hk h
    go_enter Try.func4, Try.ntmps4
    go_wp2_with (first | (go_at_call 15; refine (ready_to _ _ _ HK.out _).mono ?_; rintro e w' ⟨rfl, rfl⟩))
    go_ret2
    rw [H.out]
    exact ⟨_, rfl, Own.nil _ _ _, Bel.refl _⟩
theorem open_any (n : Int) (w : World) : Calls Try.prog 5 #[.int .i64 n] w fun e w' => e = .returned (.tuple #[stV (M.openE n).1, .int .i64 (M.openE n).2]) ∧ Bel w w' := by
  cases h : M.isEnc n with
  | false =>
    have H := Lib.hid (show M.openE n = (⟨0, [], 0, false, false⟩, 6) by rw [M.openE, h]; rfl)
    have HI := Lib.hid h
    clear h
    go_enter Try.func5, Try.ntmps5
    go_wp2_with (go_at_call 17; refine (isEnc_any _ _).mono ?_; rintro e w' ⟨rfl, rfl⟩; rw [HI.out])
    refine bodyPost_ret (v := .tuple #[stV ⟨0, [], 0, false, false⟩, .int .i64 6]) (by simp [results, Try.results5, go_sem, stV]) rfl ?_
    rw [H.out]
    exact ⟨rfl, (by repeat (first | exact Bel.refl _ | refine Bel.drewN ?_ _ | refine Bel.drew ?_ | refine Bel.alloc ?_ _ | refine Bel.trans ?_ (by assumption) | refine Bel.setCell ?_ (by simp; omega) _))⟩
  | true =>
    have H := Lib.hid (show M.openE n = (M.opn n, 0) by rw [M.openE, h]; rfl)
    have HI := Lib.hid h
    clear h
    go_enter Try.func5, Try.ntmps5
    go_wp2_with (go_at_call 17; refine (isEnc_any _ _).mono ?_; rintro e w' ⟨rfl, rfl⟩; rw [HI.out])
    refine bodyPost_ret (v := .tuple #[stV (M.opn n), .int .i64 0]) (by simp [results, Try.results5, go_sem, stV, M.opn]) rfl ?_
    rw [H.out]
    exact ⟨rfl, (by repeat (first | exact Bel.refl _ | refine Bel.drewN ?_ _ | refine Bel.drew ?_ | refine Bel.alloc ?_ _ | refine Bel.trans ?_ (by assumption) | refine Bel.setCell ?_ (by simp; omega) _))⟩
end Go.Proofs.Ytcgdecpjlggekaa

/-
  Append inside a region that draws its order.
-/
namespace Go.Proofs.Ytcgdecpjlggekaa
open Go.RowKit

theorem step_app {P : Program} {w0 : World} {ops : Array Oper} {o : Oper} {a : Act} {K : Act → World → Prop} {Q : Exit → Act → World → Prop} {E : Prop} (hgd : o.guard = none) (s x : Operand) (t : TypeId)
    (ho : o.op = .call { callee := .builtin .append, args := #[s, x], argTypes := #[t, t] }) {e : TypeId} {bytes : Nat} (he : Elem P t e bytes) (hby : bytes ≤ 1024)
    (B : Nat) (v : Value) (xs : List Value) (u : Value) (hs : a.eval s = v) (hown : Own B e w0 v xs) (hx : a.eval x = .slice (some ⟨w0.heap.size, 0, none⟩) 1 1) (h1 : u.oneCell' = true) (hlen : xs.length < 68719476736) (hB : B ≤ w0.heap.size)
    (h : ∀ v' w', Own B e w' v' (xs ++ [u]) → Below B w0 w' → K (a.put o.dst v') w') :
    if Region.wanted o (yielded ops a.tmps) = true then Oper.wp P o a (w0.alloc (.cells #[u] e)) K Q else E := by
  have hw : Region.wanted o (yielded ops a.tmps) = true := by simp [Region.wanted, hgd]
  rw [if_pos hw]
  obtain ⟨ht, z, hi, hz⟩ := he
  obtain ⟨i, hi, hz0, hz1, hz2⟩ := info_parts hi
  refine wp_append_own _ s x t ho B e i z 1 bytes ht hi hz0 hz1 hz2 hz (by decide) v xs.length xs hs (hown.alloc _) ⟨w0.heap.size, 0, none⟩ 1 1 [u] hx (by simp) ?_ (by simpa using h1) (by simp only [maxLen]; omega) ?_ (by simp; omega) ?_
  · intro j u' hj
    rw [add_zero, World.cell?_alloc_new]
    simpa using hj
  · have : (xs.length + 1) * bytes ≤ 68719476736 * 1024 := Nat.mul_le_mul (by omega) hby
    omega
  · intro v' w' ho' hg' _
    refine h v' w' ?_ ?_
    · show w'.ownsRow B e 1 v' (xs ++ [u]).length (xs ++ [u])
      rw [List.length_append]
      exact ho'
    · exact ((Below.refl B w0).alloc hB _).trans ((Below.refl B _).grown hg' (by simp; omega) (fun k hk => (hown.lt k hk).1))
end Go.Proofs.Ytcgdecpjlggekaa

/-
  Package stream: the decoder's two methods.
-/
namespace Go.Proofs.Ytcgdecpjlggekaa
open Go.RowKit
set_option maxRecDepth 1000000

theorem tell8_any (g : Nat) (r : List UInt8)
 (sg : Int) (fr st : Bool) (b : ByteArray) (xs : List Int) (l : List UInt8) (ht : M.told8 (r ++ b.data.toList) = (xs, l)) (hsz : r.length + b.size ≤ 68719476734) (w : World) (hB : Box w g 59 [.int .i64 1, .string ⟨r.toArray⟩, .int .i64 sg, .bool fr, .bool st]) :
    Calls Try.prog 32 #[.pointer (some ⟨g, 0, none⟩), .string b] w fun e w' => ∃ v, e = .returned v ∧ Own w.heap.size 3 w' v (xs.map (Value.int .i64)) ∧ Box w' g 59 [.int .i64 1, .string ⟨l.toArray⟩, .int .i64 sg, .bool fr, .bool st] ∧ Below g w w' := by
  have Ht := Lib.hid (show M.told8 ((⟨r.toArray⟩ : ByteArray) ++ b).data.toList = (xs, l) by rw [data_append]; exact ht)
  have HS2 := Lib.hid (show ((⟨r.toArray⟩ : ByteArray) ++ b).size ≤ 68719476734 by rw [Lib.size_eq, data_append, List.length_append, ← Lib.size_eq, ← Lib.size_eq, size_str]; omega)
  have hgl := hB.lt
  have HB := Lib.hid hB
  have c0 := hB.cell 0 _ rfl
  have c1 := hB.cell 1 _ rfl
  have c2 := hB.cell 2 _ rfl
  have c3 := hB.cell 3 _ rfl
  have c4 := hB.cell 4 _ rfl
  have z0 := hB.frozen 0
  have z1 := hB.frozen 1
  have z2 := hB.frozen 2
  have z3 := hB.frozen 3
  have z4 := hB.frozen 4
  clear ht hB
  go_enter Try.func32, Try.ntmps32
  go_wp2_with (first | (go_at_call 37; refine (told8_to _ _ _ Ht.out (Nat.le_succ_of_le HS2.out) _).mono ?_; rintro e w' ⟨v, rfl, ho, hb1⟩; have hB1 := HB.out.bel hb1; have d0 := hB1.cell 0 _ rfl; have d1 := hB1.cell 1 _ rfl; have d2 := hB1.cell 2 _ rfl; have d3 := hB1.cell 3 _ rfl; have d4 := hB1.cell 4 _ rfl; have y0 := hB1.frozen 0; have y1 := hB1.frozen 1; have y2 := hB1.frozen 2; have y3 := hB1.frozen 3; have y4 := hB1.frozen 4))
  go_ret
  exact ⟨_, rfl, ho.setCell (p := ⟨g, 1, none⟩) hgl _, hB1.set 1 _, below_set (Below.mono hb1 (Nat.le_of_lt hgl)) _ _⟩
theorem tell16_any (g : Nat) (n : Int) (big : Bool) (hn : (n = 2 ∧ big = false) ∨ (n = 3 ∧ big = true)) (r : List UInt8)
 (sg : Int) (fr st : Bool) (b : ByteArray) (xs : List Int) (l : List UInt8) (ht : M.told16 big (r ++ b.data.toList) = (xs, l)) (hsz : r.length + b.size ≤ 68719476734) (w : World) (hB : Box w g 59 [.int .i64 n, .string ⟨r.toArray⟩, .int .i64 sg, .bool fr, .bool st]) :
    Calls Try.prog 32 #[.pointer (some ⟨g, 0, none⟩), .string b] w fun e w' => ∃ v, e = .returned v ∧ Own w.heap.size 3 w' v (xs.map (Value.int .i64)) ∧ Box w' g 59 [.int .i64 n, .string ⟨l.toArray⟩, .int .i64 sg, .bool fr, .bool st] ∧ Below g w w' := by
  have Ht := Lib.hid (show M.told16 big ((⟨r.toArray⟩ : ByteArray) ++ b).data.toList = (xs, l) by rw [data_append]; exact ht)
  have HS2 := Lib.hid (show ((⟨r.toArray⟩ : ByteArray) ++ b).size ≤ 68719476734 by rw [Lib.size_eq, data_append, List.length_append, ← Lib.size_eq, ← Lib.size_eq, size_str]; omega)
  have hgl := hB.lt
  have HB := Lib.hid hB
  have c0 := hB.cell 0 _ rfl
  have c1 := hB.cell 1 _ rfl
  have c2 := hB.cell 2 _ rfl
  have c3 := hB.cell 3 _ rfl
  have c4 := hB.cell 4 _ rfl
  have z0 := hB.frozen 0
  have z1 := hB.frozen 1
  have z2 := hB.frozen 2
  have z3 := hB.frozen 3
  have z4 := hB.frozen 4
  clear ht hB
  rcases hn with ⟨rfl, rfl⟩ | ⟨rfl, rfl⟩
  all_goals
    go_enter Try.func32, Try.ntmps32
    go_wp2_with (first | (go_at_call 38; refine (told16_to _ _ _ _ Ht.out (Nat.le_succ_of_le HS2.out) _).mono ?_; rintro e w' ⟨v, rfl, ho, hb1⟩; have hB1 := HB.out.bel hb1; have d0 := hB1.cell 0 _ rfl; have d1 := hB1.cell 1 _ rfl; have d2 := hB1.cell 2 _ rfl; have d3 := hB1.cell 3 _ rfl; have d4 := hB1.cell 4 _ rfl; have y0 := hB1.frozen 0; have y1 := hB1.frozen 1; have y2 := hB1.frozen 2; have y3 := hB1.frozen 3; have y4 := hB1.frozen 4))
    go_ret
    exact ⟨_, rfl, ho.setCell (p := ⟨g, 1, none⟩) hgl _, hB1.set 1 _, below_set (Below.mono hb1 (Nat.le_of_lt hgl)) _ _⟩
theorem tellS_any (g : Nat) (n : Int) (hn : n = 4 ∨ n = 5) (r : List UInt8)
 (sg : Int) (fr st : Bool) (b : ByteArray) (xs : List Int) (ht : M.allE n (r ++ b.data.toList) = xs) (hsz : r.length + b.size ≤ 68719476734) (w : World) (hB : Box w g 59 [.int .i64 n, .string ⟨r.toArray⟩, .int .i64 sg, .bool fr, .bool st]) :
    Calls Try.prog 32 #[.pointer (some ⟨g, 0, none⟩), .string b] w fun e w' => ∃ v, e = .returned v ∧ Own w.heap.size 3 w' v (xs.map (Value.int .i64)) ∧ Box w' g 59 [.int .i64 n, .string ⟨r.toArray⟩, .int .i64 sg, .bool fr, .bool st] ∧ Below g w w' := by
  have Ht := Lib.hid (show M.allE n ((⟨r.toArray⟩ : ByteArray) ++ b).data.toList = xs by rw [data_append]; exact ht)
  have HS2 := Lib.hid (show ((⟨r.toArray⟩ : ByteArray) ++ b).size ≤ 68719476734 by rw [Lib.size_eq, data_append, List.length_append, ← Lib.size_eq, ← Lib.size_eq, size_str]; omega)
  have hgl := hB.lt
  have HB := Lib.hid hB
  have c0 := hB.cell 0 _ rfl
  have c1 := hB.cell 1 _ rfl
  have c2 := hB.cell 2 _ rfl
  have c3 := hB.cell 3 _ rfl
  have c4 := hB.cell 4 _ rfl
  have z0 := hB.frozen 0
  have z1 := hB.frozen 1
  have z2 := hB.frozen 2
  have z3 := hB.frozen 3
  have z4 := hB.frozen 4
  have HI := Lib.hid (show M.isEnc n = true by rw [M.isEnc, decide_eq_true_eq]; omega)
  clear ht hB
  rcases hn with rfl | rfl
  all_goals
    go_enter Try.func32, Try.ntmps32
    go_wp2_with (first | (go_at_call 16; refine (streamAll_any _ HI.out _ HS2.out _).mono ?_; rintro e w' ⟨v, rfl, ho, hb1⟩; have hB1 := HB.out.bel hb1))
    go_ret
    rw [Ht.out] at ho
    exact ⟨_, rfl, ho, hB1, Below.mono hb1 (Nat.le_of_lt hgl)⟩
theorem tell7_any (g : Nat) (r : List UInt8)
 (sg : Int) (fr st : Bool) (b : ByteArray) (xs : List Int) (hs : st = true ∨ r ++ b.data.toList = []) (hx : xs = []) (hsz : r.length + b.size ≤ 68719476734) (w : World) (hB : Box w g 59 [.int .i64 7, .string ⟨r.toArray⟩, .int .i64 sg, .bool fr, .bool st]) :
    Calls Try.prog 32 #[.pointer (some ⟨g, 0, none⟩), .string b] w fun e w' => ∃ v, e = .returned v ∧ Own w.heap.size 3 w' v (xs.map (Value.int .i64)) ∧ Box w' g 59 [.int .i64 7, .string ⟨r.toArray⟩, .int .i64 sg, .bool fr, .bool st] ∧ Below g w w' := by
  subst hx
  have HS2 := Lib.hid (show ((⟨r.toArray⟩ : ByteArray) ++ b).size ≤ 68719476734 by rw [Lib.size_eq, data_append, List.length_append, ← Lib.size_eq, ← Lib.size_eq, size_str]; omega)
  have hgl := hB.lt
  have HB := Lib.hid hB
  have c0 := hB.cell 0 _ rfl
  have c1 := hB.cell 1 _ rfl
  have c2 := hB.cell 2 _ rfl
  have c3 := hB.cell 3 _ rfl
  have c4 := hB.cell 4 _ rfl
  have z0 := hB.frozen 0
  have z1 := hB.frozen 1
  have z2 := hB.frozen 2
  have z3 := hB.frozen 3
  have z4 := hB.frozen 4
  clear hB
  rcases hs with rfl | hs
  · go_enter Try.func32, Try.ntmps32
    go_wp2_with fail
    go_ret
    exact ⟨_, rfl, Own.nil _ _ _, HB.out, Below.refl _ _⟩
  · have e0 : ((⟨r.toArray⟩ : ByteArray) ++ b).data.toList = [] := by rw [data_append]; exact hs
    have e1 : ((⟨r.toArray⟩ : ByteArray) ++ b).toList.isEmpty = true := by rw [Lib.toList_data, e0]; rfl
    clear e0 hs
    cases st
    · go_enter Try.func32, Try.ntmps32
      go_wp2_with fail
      go_ret
      exact ⟨_, rfl, Own.nil _ _ _, HB.out, Below.refl _ _⟩
    · go_enter Try.func32, Try.ntmps32
      go_wp2_with fail
      go_ret
      exact ⟨_, rfl, Own.nil _ _ _, HB.out, Below.refl _ _⟩
theorem tell7_one (g : Nat) (r : List UInt8)
 (sg : Int) (fr st : Bool) (b : ByteArray) (xs : List Int) (hst : st = false) (hs : r ++ b.data.toList ≠ []) (hx : xs = [65533]) (hsz : r.length + b.size ≤ 68719476734) (w : World) (hB : Box w g 59 [.int .i64 7, .string ⟨r.toArray⟩, .int .i64 sg, .bool fr, .bool st]) :
    Calls Try.prog 32 #[.pointer (some ⟨g, 0, none⟩), .string b] w fun e w' => ∃ v, e = .returned v ∧ Own w.heap.size 3 w' v (xs.map (Value.int .i64)) ∧ Box w' g 59 [.int .i64 7, .string ⟨r.toArray⟩, .int .i64 sg, .bool fr, .bool true] ∧ Below g w w' := by
  subst hx
  subst hst
  have HS2 := Lib.hid (show ((⟨r.toArray⟩ : ByteArray) ++ b).size ≤ 68719476734 by rw [Lib.size_eq, data_append, List.length_append, ← Lib.size_eq, ← Lib.size_eq, size_str]; omega)
  have hgl := hB.lt
  have HB := Lib.hid hB
  have c0 := hB.cell 0 _ rfl
  have c1 := hB.cell 1 _ rfl
  have c2 := hB.cell 2 _ rfl
  have c3 := hB.cell 3 _ rfl
  have c4 := hB.cell 4 _ rfl
  have z0 := hB.frozen 0
  have z1 := hB.frozen 1
  have z2 := hB.frozen 2
  have z3 := hB.frozen 3
  have z4 := hB.frozen 4
  clear hB
  have e0 : ((⟨r.toArray⟩ : ByteArray) ++ b).data.toList ≠ [] := by rw [data_append]; exact hs
  have e1 : ((⟨r.toArray⟩ : ByteArray) ++ b).toList.isEmpty = false := by rw [Lib.toList_data]; simpa using e0
  have Ht := Lib.hid (show M.allE 7 ((⟨r.toArray⟩ : ByteArray) ++ b).data.toList = [65533] by
    rw [M.allE, if_neg (by omega), if_neg (by omega), if_neg (by omega), if_neg (by omega), if_neg e0])
  have HI := Lib.hid (show M.isEnc 7 = true from rfl)
  have HB2 := Lib.hid (show Box (w.setCell ⟨g, 4, none⟩ (.bool true)) g 59 [.int .i64 7, .string ⟨r.toArray⟩, .int .i64 sg, .bool fr, .bool true] from HB.out.set 4 _)
  clear e0 hs
  go_enter Try.func32, Try.ntmps32
  go_wp2_with (first | (go_at_call 16; refine (streamAll_any _ HI.out _ HS2.out _).mono ?_; rintro e w' ⟨v, rfl, ho, hb1⟩; have hB1 := HB2.out.bel hb1))
  go_ret
  rw [Ht.out] at ho
  exact ⟨_, rfl, by simpa using ho, hB1, Below.trans (below_set (Below.refl _ _) _ _) (Below.mono hb1 (by simp; omega))⟩
set_option maxHeartbeats 4000000 in
theorem tellK6_any (g : Nat) (r : List UInt8)
 (sg : Int) (fr st : Bool) (b : ByteArray) (xs : List Int) (l : List UInt8) (sg2 : Int) (fr2 : Bool) (ht : M.toldK false sg fr (r ++ b.data.toList) = (xs, sg2, fr2, l)) (hsz : r.length + b.size ≤ 68719476734) (w : World) (hB : Box w g 59 [.int .i64 6, .string ⟨r.toArray⟩, .int .i64 sg, .bool fr, .bool st]) :
    Calls Try.prog 32 #[.pointer (some ⟨g, 0, none⟩), .string b] w fun e w' => ∃ v, e = .returned v ∧ Own w.heap.size 3 w' v (xs.map (Value.int .i64)) ∧ Box w' g 59 [.int .i64 6, .string ⟨l.toArray⟩, .int .i64 sg2, .bool fr2, .bool st] ∧ Below g w w' := by
  have Ht := Lib.hid (show M.toldK false sg fr ((⟨r.toArray⟩ : ByteArray) ++ b).data.toList = (xs, sg2, fr2, l) by rw [data_append]; exact ht)
  have HS2 := Lib.hid (show ((⟨r.toArray⟩ : ByteArray) ++ b).size ≤ 68719476734 by rw [Lib.size_eq, data_append, List.length_append, ← Lib.size_eq, ← Lib.size_eq, size_str]; omega)
  have hgl := hB.lt
  have HB := Lib.hid hB
  have c0 := hB.cell 0 _ rfl
  have c1 := hB.cell 1 _ rfl
  have c2 := hB.cell 2 _ rfl
  have c3 := hB.cell 3 _ rfl
  have c4 := hB.cell 4 _ rfl
  have z0 := hB.frozen 0
  have z1 := hB.frozen 1
  have z2 := hB.frozen 2
  have z3 := hB.frozen 3
  have z4 := hB.frozen 4
  clear ht hB
  go_enter Try.func32, Try.ntmps32
  go_wp2_with fail
  have m2 := World.new_ne w _ c2
  have m3 := World.new_ne w _ c3
  go_region_held3 (fun w' => w'.cell? ⟨g, 2, none⟩ = some (.int .i64 sg) ∧ w'.cell? ⟨g, 3, none⟩ = some (.bool fr)) (go_keep) ((first | (go_at_call 40; refine (toldK_to _ _ _ _ _ _ _ _ Ht.out (Nat.le_succ_of_le HS2.out) _).mono ?_; rintro e w' ⟨v, rfl, ho, hb1⟩; have hB1 := Box.bel (HB.out.bel (by repeat (first | exact Bel.refl _ | refine Bel.drewN ?_ _ | refine Bel.drew ?_ | refine Bel.alloc ?_ _ | refine Bel.trans ?_ (by assumption) | refine Bel.setCell ?_ (by simp; omega) _))) hb1; have d0 := hB1.cell 0 _ rfl; have d1 := hB1.cell 1 _ rfl; have d2 := hB1.cell 2 _ rfl; have d3 := hB1.cell 3 _ rfl; have d4 := hB1.cell 4 _ rfl; have y0 := hB1.frozen 0; have y1 := hB1.frozen 1; have y2 := hB1.frozen 2; have y3 := hB1.frozen 3; have y4 := hB1.frozen 4; have m4 := World.new_ne w' _ d2; have m5 := World.new_ne w' _ d3; try (have hS : Box w' w.heap.size 66 [.int .i64 0, .bool false] := Box.bel (w := (w.alloc (.cells #[.int .i64 0, .bool false] 66)).drew) (Box.new w _ _) hb1; have s0 := hS.cell 0 _ rfl; have s1 := hS.cell 1 _ rfl; have n0 := hS.frozen 0; have n1 := hS.frozen 1))))
  all_goals first
    | (have hA := (hS.set 0 (.int .i64 sg2)).set 1 (.bool fr2)
       have hC := (hB1.far (p := ⟨w.heap.size, 0, none⟩) (by simp; omega) (.int .i64 sg2)).far (p := ⟨w.heap.size, 1, none⟩) (by simp; omega) (.bool fr2)
       have hF := ((Below.mono hb1 (Nat.le_of_lt (show g < (w.alloc (.cells #[.int .i64 0, .bool false] 66)).drew.heap.size by simp; omega))).setCell (p := ⟨w.heap.size, 0, none⟩) (Nat.le_of_lt hgl) (.int .i64 sg2)).setCell (p := ⟨w.heap.size, 1, none⟩) (Nat.le_of_lt hgl) (.bool fr2)
       have hw0 : Below g w (w.alloc (.cells #[.int .i64 0, .bool false] 66)).drew := Below.mono (Bel.drew ((Bel.refl w).alloc _)) (Nat.le_of_lt hgl)
       have hF2 := Below.trans hw0 hF
       have hO : Own w.heap.size 3 _ v (xs.map (Value.int .i64)) := ((ho.setCell (p := ⟨w.heap.size, 0, none⟩) (by simp) (.int .i64 sg2)).setCell (p := ⟨w.heap.size, 1, none⟩) (by simp) (.bool fr2)).mono (by simp)
       clear d0 d1 d2 d3 d4 y0 y1 y2 y3 y4 s0 s1 n0 n1 hF hw0 ho hb1 hB1 hS
       generalize (w'.setCell ⟨w.heap.size, 0, none⟩ (.int .i64 sg2)).setCell ⟨w.heap.size, 1, none⟩ (.bool fr2) = W at *
       generalize hq : w.heap.size = q at *
       have HQ := Lib.hid hq
       clear hq)
    | (have hC := hB1.bel ((Bel.refl w').alloc (.cells #[.int .i64 sg2, .bool fr2] 66))
       have hA := Box.new w' 66 [.int .i64 sg2, .bool fr2]
       have hF2 : Below g w (w'.alloc (.cells #[.int .i64 sg2, .bool fr2] 66)) := Below.mono ((Bel.trans ((Bel.refl w).drew) hb1).alloc _) (Nat.le_of_lt hgl)
       have hO : Own w.heap.size 3 _ v (xs.map (Value.int .i64)) := ho.alloc (.cells #[.int .i64 sg2, .bool fr2] 66)
       have hg2 : g < w'.heap.size := hB1.lt
       clear ho hb1 hB1 d0 d1 d2 d3 d4 y0 y1 y2 y3 y4
       generalize w'.alloc (.cells #[.int .i64 sg2, .bool fr2] 66) = W at *
       generalize w'.heap.size = q at *)
  all_goals
    clear c0 c1 c2 c3 c4 z0 z1 z2 z3 z4
    have s0 := hA.cell 0 _ rfl
    have s1 := hA.cell 1 _ rfl
    have gq : ¬ q = g := by omega
    have qg : ¬ g = q := by omega
    have d0 := hC.cell 0 _ rfl; have d1 := hC.cell 1 _ rfl; have d2 := hC.cell 2 _ rfl; have d3 := hC.cell 3 _ rfl; have d4 := hC.cell 4 _ rfl; have y0 := hC.frozen 0; have y1 := hC.frozen 1; have y2 := hC.frozen 2; have y3 := hC.frozen 3; have y4 := hC.frozen 4
    go_wp2_with fail
    go_region_held3 (fun w' => w'.cell? ⟨q, 0, none⟩ = some (.int .i64 sg2) ∧ w'.cell? ⟨q, 1, none⟩ = some (.bool fr2)) (go_keep) (fail)
  all_goals
    go_wp2_with fail
    go_ret
    refine ⟨_, rfl, ?_, ?_, ?_⟩
    · first | rw [HQ.out] | skip
      repeat (first | exact hO | refine Own.setCell ?_ (by exact hgl) _ | refine Own.drew ?_)
    · first | exact ((hC.set 2 _).set 3 _).set 1 _ | exact ((hC.set 3 _).set 2 _).set 1 _ | exact ((hC.set 2 _).set 1 _).set 3 _ | exact ((hC.set 1 _).set 2 _).set 3 _ | exact ((hC.set 3 _).set 1 _).set 2 _ | exact ((hC.set 1 _).set 3 _).set 2 _
    · repeat (first | exact hF2 | refine below_set ?_ _ _ | refine Below.drew ?_)
end Go.Proofs.Ytcgdecpjlggekaa

/-
  What waits, in the document's words.
-/
namespace Go.Proofs.Ytcgdecpjlggekaa.M
open Go

theorem wait8 (c : UInt8) (t : Bs) : told8 (c :: t) = ([], c :: t) ↔ ok8 c t = true ∧ (t.length : Int) < (lead8 c.toNat).1 := by
  have no : (first8 (c :: t)).2.2 = true → ¬ told8 (c :: t) = ([], c :: t) := fun h1 h2 => by
    rw [told8_ok c t h1] at h2; cases h2
  rcases round8 c t with ⟨h1, h2, h3⟩ | ⟨m, K, h1, h2, h3, h4, _, h6, h7⟩
  · refine ⟨fun h => absurd h (no (by rw [h3])), fun h => by omega⟩
  · rcases h7 with ⟨h8, h9⟩ | ⟨h8, h9, h10, h11⟩ | ⟨h8, h9, h10⟩
    · refine ⟨fun h => absurd h (no (by rw [h9])), fun h => by omega⟩
    · refine ⟨fun h => absurd h (no (by rw [h11])), fun h => ?_⟩
      have := (ok8_first8 c t (by omega) (by omega)).1 h.1
      rw [h11] at this
      simp only at this
      omega
    · refine ⟨fun _ => ⟨?_, by omega⟩, fun _ => told8_no c t (by rw [h10])⟩
      have := h6 t.length (by omega)
      rwa [List.take_length] at this
theorem wait16 (big : Bool) (a b : UInt8) (t : Bs) (ht : t.length < 2) : told16 big (a :: b :: t) = ([], a :: b :: t) ↔ isHi (unit16 big a b) = true := by
  rcases say16 big a b t with ⟨h1, e⟩ | ⟨h1, _, e⟩ | ⟨c, d, u, rfl, _, _, e⟩ | ⟨c, d, u, rfl, _, _, e⟩
  · rw [e, h1]; simp
  · rw [e]; simp [h1]
  · simp only [List.length_cons] at ht; omega
  · simp only [List.length_cons] at ht; omega
def okC (n : Int) (c : UInt8) (t : Bs) : Bool :=
  if n = 1 then decide (t.length ≤ 2) && (ok8 c t && decide ((t.length : Int) + 1 < (lead8 c.toNat).1 + 1))
  else if n = 2 ∨ n = 3 then (match t with | [] => true | b :: u => decide (u.length ≤ 1) && isHi (unit16 (n == 3) c b))
  else if n = 6 then decide (c :: t = [27] ∨ c :: t = [27, 40]) else false
/-- May it wait? In the document's words. -/
def okR (n : Int) : Bs → Bool
  | [] => true
  | c :: t => okC n c t
theorem okR_iff (n : Int) (h : isEnc n = true) (s : Bs) : okR n s = true ↔ s.length ≤ 3 ∧ restOk n s = true := by
  rw [restOk_iff n h]
  match s with
  | [] =>
    refine ⟨fun _ => ⟨by simp, fun _ => rfl, fun _ => told16_nil _, fun _ => .inl rfl, fun _ => rfl⟩, fun _ => rfl⟩
  | c :: t =>
    show okC n c t = true ↔ _
    unfold okC
    rcases enc_cases n h with h1 | h1 | h1 | h1 | h1
    · rw [if_pos h1]
      simp only [Bool.and_eq_true, decide_eq_true_eq, wait8, List.length_cons]
      constructor
      · rintro ⟨h2, h3, h4⟩
        exact ⟨by omega, fun _ => ⟨h3, by omega⟩, fun h => by omega, fun h => by omega, fun h => by omega⟩
      · rintro ⟨h2, h3, _⟩
        exact ⟨by omega, (h3 h1).1, by have := (h3 h1).2; omega⟩
    · rw [if_neg (by omega), if_pos h1]
      match t with
      | [] =>
        refine ⟨fun _ => ⟨by simp, fun h => by omega, fun _ => told16_one _ _, fun h => by omega, fun h => by omega⟩, fun _ => rfl⟩
      | b :: u =>
        simp only [Bool.and_eq_true, decide_eq_true_eq, List.length_cons]
        constructor
        · rintro ⟨h2, h3⟩
          exact ⟨by omega, fun h => by omega, fun _ => (wait16 _ c b u (by omega)).2 h3, fun h => by omega, fun h => by omega⟩
        · rintro ⟨h2, _, h3, _⟩
          exact ⟨by omega, (wait16 _ c b u (by omega)).1 (h3 h1)⟩
    · rw [if_neg (by omega), if_neg (by omega), if_neg (by omega)]
      refine ⟨fun h => (by cases h), ?_⟩
      rintro ⟨_, _, _, _, h5⟩
      exact absurd (h5 (by omega)) (by simp)
    · rw [if_neg (by omega), if_neg (by omega), if_pos h1, decide_eq_true_eq]
      constructor
      · intro h2
        refine ⟨by rcases h2 with h2 | h2 <;> simp [h2], fun h => by omega, fun h => by omega, fun _ => .inr h2, fun h => by omega⟩
      · rintro ⟨_, _, _, h4, _⟩
        rcases h4 h1 with h5 | h5
        · cases h5
        · exact h5
    · rw [if_neg (by omega), if_neg (by omega), if_neg (by omega)]
      refine ⟨fun h => (by cases h), ?_⟩
      rintro ⟨_, _, _, _, h5⟩
      exact absurd (h5 (by omega)) (by simp)
theorem check_ref (d : St) (h : isEnc d.enc = true) : checkM d = if okR d.enc d.rest = false then 1 else if stateOk d = false then 4 else 0 := by
  rw [checkM, if_neg (by rw [h]; decide)]
  have := okR_iff d.enc h d.rest
  cases ho : okR d.enc d.rest with
  | false =>
    rw [if_pos, if_pos rfl]
    rw [ho] at this
    simp only [Bool.false_eq_true, false_iff, not_and, Bool.not_eq_true] at this
    by_cases hl : 3 < d.rest.length
    · exact .inl hl
    · exact .inr (this (by omega))
  | true =>
    obtain ⟨h1, h2⟩ := this.1 ho
    rw [if_neg (by rw [h2]; simp; omega), if_neg (show ¬ (true = false) by decide)]
theorem told8_le (s : Bs) : (told8 s).1.length ≤ s.length := by
  have h := (all8_many _ s (Nat.le_refl _)).1
  rw [all8] at h
  split at h
  · exact h
  · rw [List.length_append] at h; omega
theorem tell_len (d : St) (h : isEnc d.enc = true) (b : Bs) : (tellM d b).1.length ≤ d.rest.length + b.length := by
  have hl : (d.rest ++ b).length = d.rest.length + b.length := List.length_append
  rcases enc_cases d.enc h with h1 | h1 | h1 | h1 | h1
  · rw [tellM, if_pos h1, ← hl]; exact told8_le _
  · rw [tellM, if_neg (by omega), if_pos h1, ← hl]
    have := (told16_len (d.enc == 3) _ (d.rest ++ b) (Nat.le_refl _)).1
    simp only
    omega
  · rw [tellM, if_neg (by omega), if_neg (by omega), if_neg (by omega), if_neg (by omega)]
    have e2 : allE d.enc (d.rest ++ b) = decodeS (d.enc == 5) (d.rest ++ b) := by rw [allE, if_neg (by omega), if_neg (by omega), if_pos h1]
    simp only [e2, decodeS, List.length_map]
    omega
  · rw [tellM, if_neg (by omega), if_neg (by omega), if_pos h1, ← hl]
    have := (toldK_rest false _ (d.rest ++ b) d.signs d.fresh (Nat.le_refl _)).1
    simp only
    omega
  · rw [tellM, if_neg (by omega), if_neg (by omega), if_neg (by omega), if_pos h1]
    split
    · simp
    · rename_i h2
      simp only [List.length_singleton]
      have : d.rest ++ b ≠ [] := fun h3 => h2 (.inr h3)
      have := List.length_pos_iff.2 this
      omega
theorem end_len (d : St) : (endM d).length ≤ d.rest.length + 1 := by
  unfold endM
  split
  · simp
  · split
    · have := (toldK_rest true _ d.rest d.signs d.fresh (Nat.le_refl _)).1
      omega
    · simp
end Go.Proofs.Ytcgdecpjlggekaa.M

/-
  Package stream: end, rest, Check, Raw, Feed.
-/
namespace Go.Proofs.Ytcgdecpjlggekaa
open Go.RowKit
set_option maxRecDepth 1000000

theorem tell_any (g : Nat) (d : M.St) (h : M.isEnc d.enc = true) (b : ByteArray) (hsz : d.rest.length + b.size ≤ 68719476734) (w : World) (hB : Box w g 59 (stC d)) :
    Calls Try.prog 32 #[.pointer (some ⟨g, 0, none⟩), .string b] w fun e w' => ∃ v, e = .returned v ∧ Own w.heap.size 3 w' v ((M.tellM d b.data.toList).1.map (Value.int .i64)) ∧ Box w' g 59 (stC (M.tellM d b.data.toList).2) ∧ Below g w w' := by
  obtain ⟨n, r, sg, fr, st⟩ := d
  simp only at h hsz
  rcases M.enc_cases n h with rfl | h1 | h1 | rfl | rfl
  · obtain ⟨⟨xs, l⟩, ht⟩ : ∃ q, M.told8 (r ++ b.data.toList) = q := ⟨_, rfl⟩
    have e : M.tellM ⟨1, r, sg, fr, st⟩ b.data.toList = (xs, ⟨1, l, sg, fr, st⟩) := by rw [M.tellM, if_pos rfl]; simp only [ht]
    rw [e]
    exact tell8_any g r sg fr st b xs l ht hsz w hB
  · obtain ⟨⟨xs, l⟩, ht⟩ : ∃ q, M.told16 (n == 3) (r ++ b.data.toList) = q := ⟨_, rfl⟩
    have e : M.tellM ⟨n, r, sg, fr, st⟩ b.data.toList = (xs, ⟨n, l, sg, fr, st⟩) := by rw [M.tellM, if_neg (by simp only; omega), if_pos h1]; simp only [ht]
    rw [e]
    exact tell16_any g n (n == 3) (by rcases h1 with rfl | rfl <;> simp) r sg fr st b xs l ht hsz w hB
  · have e : M.tellM ⟨n, r, sg, fr, st⟩ b.data.toList = (M.allE n (r ++ b.data.toList), ⟨n, r, sg, fr, st⟩) := by
      rw [M.tellM, if_neg (by simp only; omega), if_neg (by simp only; omega), if_neg (by simp only; omega), if_neg (by simp only; omega)]
    rw [e]
    exact tellS_any g n h1 r sg fr st b _ rfl hsz w hB
  · obtain ⟨⟨xs, sg2, fr2, l⟩, ht⟩ : ∃ q, M.toldK false sg fr (r ++ b.data.toList) = q := ⟨_, rfl⟩
    have e : M.tellM ⟨6, r, sg, fr, st⟩ b.data.toList = (xs, ⟨6, l, sg2, fr2, st⟩) := by rw [M.tellM, if_neg (by simp only; omega), if_neg (by simp only; omega), if_pos rfl]; simp only [ht]
    rw [e]
    exact tellK6_any g r sg fr st b xs l sg2 fr2 ht hsz w hB
  · have e : M.tellM ⟨7, r, sg, fr, st⟩ b.data.toList = if st = true ∨ r ++ b.data.toList = [] then ([], ⟨7, r, sg, fr, st⟩) else ([65533], ⟨7, r, sg, fr, true⟩) := by
      rw [M.tellM, if_neg (by simp only; omega), if_neg (by simp only; omega), if_neg (by simp only; omega), if_pos rfl]
    rw [e]
    by_cases hs : st = true ∨ r ++ b.data.toList = []
    · rw [if_pos hs]
      exact tell7_any g r sg fr st b [] hs rfl hsz w hB
    · rw [if_neg hs]
      have h2 : st = false := by cases st; rfl; exact absurd (.inl rfl) hs
      exact tell7_one g r sg fr st b _ h2 (fun h3 => hs (.inr h3)) rfl hsz w hB
def Only (g : Nat) (a w : World) : Prop := ∀ k, k ≠ g → k < a.heap.size → w.heap[k]? = a.heap[k]?
theorem Only.of {g : Nat} {a w : World} (h : Bel a w) : Only g a w := fun k _ hk => h.block k hk
theorem Only.set {g : Nat} {a w : World} (h : Only g a w) (i : Nat) (u : Value) : Only g a (w.setCell ⟨g, i, none⟩ u) := fun k h1 h2 => (Below.heap_setCell w ⟨g, i, none⟩ u k h1).trans (h k h1 h2)
theorem Own.only {B g : Nat} {e : TypeId} {w w' : World} {v : Value} {xs : List Value} (h : Own B e w v xs) (ho : Only g w w') (hg : g < B) : Own B e w' v xs := by
  refine ⟨h.1, ?_⟩
  rcases h.2 with h2 | ⟨k, cap, cur, r0, r1, r2, r3⟩
  · exact .inl h2
  · exact .inr ⟨k, cap, cur, r0, r1, (ho k (by omega) (Array.getElem?_eq_some_iff.1 r2).1).trans r2, r3⟩
set_option maxHeartbeats 2000000 in
theorem end_any (g : Nat) (n : Int) (r : List UInt8) (sg : Int) (fr st : Bool) (xs : List Int) (hx : M.endM ⟨n, r, sg, fr, st⟩ = xs) (hsz : r.length ≤ 3) (w : World) (hB : Box w g 59 [.int .i64 n, .string ⟨r.toArray⟩, .int .i64 sg, .bool fr, .bool st]) :
    Calls Try.prog 33 #[.pointer (some ⟨g, 0, none⟩)] w fun e w' => ∃ v, e = .returned v ∧ Own w.heap.size 3 w' v (xs.map (Value.int .i64)) ∧ Box w' g 59 [.int .i64 n, .string ⟨#[]⟩, .int .i64 0, .bool false, .bool false] ∧ Below g w w' ∧ Only g w w' := by
  have hgl := hB.lt
  have HB := Lib.hid hB
  have c0 := hB.cell 0 _ rfl
  have c1 := hB.cell 1 _ rfl
  have c2 := hB.cell 2 _ rfl
  have c3 := hB.cell 3 _ rfl
  have c4 := hB.cell 4 _ rfl
  have z0 := hB.frozen 0
  have z1 := hB.frozen 1
  have z2 := hB.frozen 2
  have z3 := hB.frozen 3
  have z4 := hB.frozen 4
  by_cases h0 : r = []
  · subst h0
    rw [M.endM, if_pos rfl] at hx
    subst hx
    clear hB
    go_enter Try.func33, Try.ntmps33
    go_wp2_with fail
    go_ret
    exact ⟨_, rfl, ((((Own.setCell (Own.nil _ _ _) (p := ⟨g, 0, none⟩) hgl _).setCell (p := ⟨g, 1, none⟩) hgl _).setCell (p := ⟨g, 2, none⟩) hgl _).setCell (p := ⟨g, 3, none⟩) hgl _).setCell (p := ⟨g, 4, none⟩) hgl _, ((((HB.out.set 0 _).set 1 _).set 2 _).set 3 _).set 4 _, below_set (below_set (below_set (below_set (below_set (Below.refl _ _) _ _) _ _) _ _) _ _) _ _, (((((Only.of (Bel.refl _)).set 0 _).set 1 _).set 2 _).set 3 _).set 4 _⟩
  · have e1 : (!(⟨r.toArray⟩ : ByteArray).toList.isEmpty) = true := by rw [Lib.toList_data]; simpa using h0
    have e2 : (⟨r.toArray⟩ : ByteArray).toList.isEmpty = false := by rw [Lib.toList_data]; simpa using h0
    have e3 : (!r.isEmpty) = true := by simpa using h0
    have e4 : r.isEmpty = false := by simpa using h0
    by_cases h6 : n = 6
    · subst h6
      obtain ⟨⟨ys, sg2, fr2, l⟩, ht⟩ : ∃ q, M.toldK true sg fr r = q := ⟨_, rfl⟩
      have hxs : xs = ys := by rw [← hx, M.endM, if_neg h0, if_pos rfl]; simp only [ht]
      subst hxs
      have Ht := Lib.hid (show M.toldK true sg fr (⟨r.toArray⟩ : ByteArray).data.toList = (xs, sg2, fr2, l) from ht)
      have HS := Lib.hid (show (⟨r.toArray⟩ : ByteArray).size ≤ 68719476735 by rw [size_str]; omega)
      clear hB ht hx h0
      go_enter Try.func33, Try.ntmps33
      go_wp2_with fail
      go_region_held3 (fun w' => w'.cell? ⟨g, 1, none⟩ = some (.string ⟨r.toArray⟩) ∧ w'.cell? ⟨g, 2, none⟩ = some (.int .i64 sg) ∧ w'.cell? ⟨g, 3, none⟩ = some (.bool fr)) (go_keep) ((first | (go_at_call 40; refine (toldK_to _ _ _ _ _ _ _ _ Ht.out HS.out _).mono ?_; rintro e w' ⟨v, rfl, ho, hb1⟩; have hB1 := Box.bel (HB.out.bel (by repeat (first | exact Bel.refl _ | refine Bel.drewN ?_ _ | refine Bel.drew ?_ | refine Bel.alloc ?_ _ | refine Bel.trans ?_ (by assumption) | refine Bel.setCell ?_ (by simp; omega) _))) hb1; have d0 := hB1.cell 0 _ rfl; have d1 := hB1.cell 1 _ rfl; have d2 := hB1.cell 2 _ rfl; have d3 := hB1.cell 3 _ rfl; have d4 := hB1.cell 4 _ rfl; have y0 := hB1.frozen 0; have y1 := hB1.frozen 1; have y2 := hB1.frozen 2; have y3 := hB1.frozen 3; have y4 := hB1.frozen 4)))
      all_goals
        go_wp2_with fail
        go_ret
        exact ⟨_, rfl, ((((Own.setCell ho (p := ⟨g, 0, none⟩) hgl _).setCell (p := ⟨g, 1, none⟩) hgl _).setCell (p := ⟨g, 2, none⟩) hgl _).setCell (p := ⟨g, 3, none⟩) hgl _).setCell (p := ⟨g, 4, none⟩) hgl _, ((((hB1.set 0 _).set 1 _).set 2 _).set 3 _).set 4 _, below_set (below_set (below_set (below_set (below_set (Below.mono (Bel.trans ((Bel.refl w).drew) hb1) (Nat.le_of_lt hgl)) _ _) _ _) _ _) _ _) _ _, (((((Only.of (Bel.trans ((Bel.refl w).drew) hb1)).set 0 _).set 1 _).set 2 _).set 3 _).set 4 _⟩
    · have hxs : xs = [65533] := by rw [← hx, M.endM, if_neg h0, if_neg h6]
      subst hxs
      have e6 : (n == 6) = false := by simpa using h6
      clear hB hx h0 h6
      go_enter Try.func33, Try.ntmps33
      go_wp2_with fail
      go_ret
      have hO := Own.made (B := w.heap.size) (e := 3) (((((w.setCell ⟨g, 0, none⟩ (.int .i64 n)).setCell ⟨g, 1, none⟩ (.string ⟨#[]⟩)).setCell ⟨g, 2, none⟩ (.int .i64 0)).setCell ⟨g, 3, none⟩ (.bool false)).setCell ⟨g, 4, none⟩ (.bool false)) [.int .i64 65533] (by simp) (by simp [maxLen])
      simp only [World.size_setCell, List.length_singleton] at hO
      exact ⟨_, rfl, hO, (((((HB.out.set 0 _).set 1 _).set 2 _).set 3 _).set 4 _).bel ((Bel.refl _).alloc _), Below.alloc (below_set (below_set (below_set (below_set (below_set (Below.refl _ _) _ _) _ _) _ _) _ _) _ _) (by simp; omega) _, fun k h1 h2 => (((Bel.refl _).alloc _).block k (by simpa using h2)).trans ((((((Only.of (Bel.refl w)).set 0 _).set 1 _).set 2 _).set 3 _).set 4 _ k h1 h2)⟩
theorem tell_to (g : Nat) (n : Int) (q : List Int × M.St) (b : ByteArray) (ht : M.tellM (M.opn n) b.data.toList = q) (h : M.isEnc n = true) (hsz : b.size ≤ 68719476734) (w : World) (hB : Box w g 59 [.int .i64 n, .string ⟨#[]⟩, .int .i64 0, .bool false, .bool false]) :
    Calls Try.prog 32 #[.pointer (some ⟨g, 0, none⟩), .string b] w fun e w' => ∃ v, e = .returned v ∧ Own w.heap.size 3 w' v (q.1.map (Value.int .i64)) ∧ Box w' g 59 (stC q.2) ∧ Below g w w' := by
  have := tell_any g (M.opn n) h b (by simpa [M.opn] using hsz) w hB
  rw [ht] at this
  exact this
theorem rest_any (n : Int) (h : M.isEnc n = true) (s : ByteArray) (hs : s.size ≤ 3) (w : World) : Calls Try.prog 27 #[.int .i64 n, .string s] w fun e w' => e = .returned (.bool (M.restOk n s.data.toList)) ∧ Bel w w' := by
  by_cases h0 : s.data.toList = []
  · have HF := Lib.hid (show M.restOk n s.data.toList = true by rw [M.restOk, decide_eq_true_eq]; exact .inl h0)
    have e2 : s.toList.isEmpty = true := by rw [Lib.toList_data, h0]; rfl
    clear h0
    go_enter Try.func27, Try.ntmps27
    go_wp2_with fail
    go_ret
    rw [HF.out]
    exact ⟨rfl, Bel.refl _⟩
  · have e2 : s.toList.isEmpty = false := by rw [Lib.toList_data]; simpa using h0
    obtain ⟨⟨xs, d2⟩, ht⟩ : ∃ q, M.tellM (M.opn n) s.data.toList = q := ⟨_, rfl⟩
    have HT := Lib.hid ht
    have HI := Lib.hid h
    have hro : M.restOk n s.data.toList = decide (xs = [] ∧ d2.rest = s.data.toList) := by
      rw [M.restOk, ht]; simp [h0]
    by_cases hx : xs = []
    · by_cases hr : d2.rest = s.data.toList
      · have HF := Lib.hid (show M.restOk n s.data.toList = true by rw [hro, decide_eq_true_eq]; exact ⟨hx, hr⟩)
        have e3 : ((⟨d2.rest.toArray⟩ : ByteArray).toList == s.toList) = true := by rw [Lib.toList_data, Lib.toList_data, beq_iff_eq]; exact hr
        have e4 : (d2.rest == s.toList) = true := by rw [Lib.toList_data, beq_iff_eq]; exact hr
        subst hx
        clear h0 ht hro hr h
        go_enter Try.func27, Try.ntmps27
        go_wp2_with (first | (go_at_call 32; refine (tell_to w.heap.size n _ s HT.out HI.out (by omega) _ (Box.new w _ _)).mono ?_; rintro e w' ⟨v, rfl, ho, hB1, hb1⟩; obtain ⟨A, c, hv, hlc, hcm, _⟩ := ho.form; rw [List.length_map] at hv hlc; subst hv; unfold maxLen at hcm; have d1 := hB1.cell 1 _ rfl))
        go_ret
        rw [HF.out]
        exact ⟨rfl, Bel.upto ((Bel.refl w).alloc _) hb1 (Nat.le_refl _)⟩
      · have HF := Lib.hid (show M.restOk n s.data.toList = false by rw [hro, decide_eq_false_iff_not]; exact fun h => hr h.2)
        have e3 : ((⟨d2.rest.toArray⟩ : ByteArray).toList == s.toList) = false := by rw [Lib.toList_data, Lib.toList_data, beq_eq_false_iff_ne]; exact hr
        have e4 : (d2.rest == s.toList) = false := by rw [Lib.toList_data, beq_eq_false_iff_ne]; exact hr
        subst hx
        clear h0 ht hro hr h
        go_enter Try.func27, Try.ntmps27
        go_wp2_with (first | (go_at_call 32; refine (tell_to w.heap.size n _ s HT.out HI.out (by omega) _ (Box.new w _ _)).mono ?_; rintro e w' ⟨v, rfl, ho, hB1, hb1⟩; obtain ⟨A, c, hv, hlc, hcm, _⟩ := ho.form; rw [List.length_map] at hv hlc; subst hv; unfold maxLen at hcm; have d1 := hB1.cell 1 _ rfl))
        go_ret
        rw [HF.out]
        exact ⟨rfl, Bel.upto ((Bel.refl w).alloc _) hb1 (Nat.le_refl _)⟩
    · have HF := Lib.hid (show M.restOk n s.data.toList = false by rw [hro, decide_eq_false_iff_not]; exact fun h => hx h.1)
      have e3 : ((xs.length : Int) == 0) = false := by rw [beq_eq_false_iff_ne]; intro h; apply hx; exact List.eq_nil_of_length_eq_zero (by omega)
      clear h0 ht hro hx h
      go_enter Try.func27, Try.ntmps27
      go_wp2_with (first | (go_at_call 32; refine (tell_to w.heap.size n _ s HT.out HI.out (by omega) _ (Box.new w _ _)).mono ?_; rintro e w' ⟨v, rfl, ho, hB1, hb1⟩; obtain ⟨A, c, hv, hlc, hcm, _⟩ := ho.form; rw [List.length_map] at hv hlc; subst hv; unfold maxLen at hcm; have d1 := hB1.cell 1 _ rfl))
      go_ret
      rw [HF.out]
      exact ⟨rfl, Bel.upto ((Bel.refl w).alloc _) hb1 (Nat.le_refl _)⟩
end Go.Proofs.Ytcgdecpjlggekaa

/-
  Package stream: Check, Raw, Feed.
-/
namespace Go.Proofs.Ytcgdecpjlggekaa
open Go.RowKit
set_option maxRecDepth 1000000

theorem rest_to (n : Int) (s : ByteArray) (b : Bool) (hb : M.restOk n s.data.toList = b) (h : M.isEnc n = true) (hs : s.size ≤ 3) (w : World) : Calls Try.prog 27 #[.int .i64 n, .string s] w fun e w' => e = .returned (.bool b) ∧ Bel w w' := by
  have := rest_any n h s hs w; rw [hb] at this; exact this
set_option maxHeartbeats 4000000 in
theorem check_any (n : Int) (r : ByteArray) (sg : Int) (fr st : Bool) (k : Int) (hk : M.checkM ⟨n, r.data.toList, sg, fr, st⟩ = k) (w : World) : Calls Try.prog 13 #[.agg #[.int .i64 n, .string r, .int .i64 sg, .bool fr, .bool st]] w fun e w' => e = .returned (.int .i64 k) ∧ Bel w w' := by
  cases h : M.isEnc n with
  | false =>
    have HI := Lib.hid h
    obtain rfl : k = 6 := by rw [← hk, M.checkM, if_pos h]
    clear h hk
    go_enter Try.func13, Try.ntmps13
    go_wp2_with (first | (go_at_call 17; refine (isEnc_any _ _).mono ?_; rintro e w' ⟨rfl, rfl⟩; rw [HI.out]))
    go_ret
    exact ⟨rfl, (by repeat (first | exact Bel.refl _ | refine Bel.drewN ?_ _ | refine Bel.drew ?_ | refine Bel.alloc ?_ _ | refine Bel.trans ?_ (by assumption) | refine Bel.setCell ?_ (by simp; omega) _))⟩
  | true =>
    have HI := Lib.hid h
    by_cases hl : 3 < r.size
    · obtain rfl : k = 1 := by rw [← hk, M.checkM, if_neg (by rw [h]; decide), if_pos (.inl (by rw [← Lib.size_eq]; exact hl))]
      clear h hk
      go_enter Try.func13, Try.ntmps13
      go_wp2_with (first | (go_at_call 17; refine (isEnc_any _ _).mono ?_; rintro e w' ⟨rfl, rfl⟩; rw [HI.out]))
      go_ret
      exact ⟨rfl, (by repeat (first | exact Bel.refl _ | refine Bel.drewN ?_ _ | refine Bel.drew ?_ | refine Bel.alloc ?_ _ | refine Bel.trans ?_ (by assumption) | refine Bel.setCell ?_ (by simp; omega) _))⟩
    · have HS := Lib.hid (show r.size ≤ 3 by omega)
      cases hr : M.restOk n r.data.toList with
      | false =>
        have HR := Lib.hid hr
        obtain rfl : k = 1 := by rw [← hk, M.checkM, if_neg (by rw [h]; decide), if_pos (.inr hr)]
        clear h hk hr
        go_enter Try.func13, Try.ntmps13
        go_wp2_with (first | (go_at_call 17; refine (isEnc_any _ _).mono ?_; rintro e w' ⟨rfl, rfl⟩; rw [HI.out]) | (go_at_call 27; refine (rest_to _ _ _ HR.out HI.out HS.out _).mono ?_; rintro e w' ⟨rfl, hb1⟩; have hBx := Box.bel (Box.new w _ _) hb1; have c0 := hBx.cell 0 _ rfl; have c1 := hBx.cell 1 _ rfl; have c2 := hBx.cell 2 _ rfl; have c3 := hBx.cell 3 _ rfl; have c4 := hBx.cell 4 _ rfl))
        go_ret
        exact ⟨rfl, (by repeat (first | exact Bel.refl _ | refine Bel.drewN ?_ _ | refine Bel.drew ?_ | refine Bel.alloc ?_ _ | refine Bel.trans ?_ (by assumption) | refine Bel.setCell ?_ (by simp; omega) _))⟩
      | true =>
        have HR := Lib.hid hr
        have hk2 : k = if M.stateOk ⟨n, r.data.toList, sg, fr, st⟩ = false then 4 else 0 := by
          rw [← hk, M.checkM, if_neg (by rw [h]; decide), if_neg]
          rw [← Lib.size_eq]
          rintro (h9 | h9)
          · exact hl h9
          · rw [hr] at h9; cases h9
        have hs2 : M.stateOk ⟨n, r.data.toList, sg, fr, st⟩ = !(decide (sg < 0 ∨ 2 < sg) || (decide (n ≠ 6) && (decide (sg ≠ 0) || fr)) || (decide (n ≠ 7) && st)) := rfl
        clear h hk hr
        have key : ∀ b, M.stateOk ⟨n, r.data.toList, sg, fr, st⟩ = b → k = if b = false then 4 else 0 := fun b hb => by rw [hk2, hb]
        have KEY := Lib.hid key
        clear key hk2
        by_cases g1 : sg < 0
        · obtain rfl : k = 4 := KEY.out false (by rw [hs2]; simp [g1])
          clear hs2
          go_enter Try.func13, Try.ntmps13
          go_wp2_with (first | (go_at_call 17; refine (isEnc_any _ _).mono ?_; rintro e w' ⟨rfl, rfl⟩; rw [HI.out]) | (go_at_call 27; refine (rest_to _ _ _ HR.out HI.out HS.out _).mono ?_; rintro e w' ⟨rfl, hb1⟩; have hBx := Box.bel (Box.new w _ _) hb1; have c0 := hBx.cell 0 _ rfl; have c1 := hBx.cell 1 _ rfl; have c2 := hBx.cell 2 _ rfl; have c3 := hBx.cell 3 _ rfl; have c4 := hBx.cell 4 _ rfl))
          go_ret
          exact ⟨rfl, (by repeat (first | exact Bel.refl _ | refine Bel.drewN ?_ _ | refine Bel.drew ?_ | refine Bel.alloc ?_ _ | refine Bel.trans ?_ (by assumption) | refine Bel.setCell ?_ (by simp; omega) _))⟩
        · by_cases g2 : 2 < sg
          · obtain rfl : k = 4 := KEY.out false (by rw [hs2]; simp [g2])
            clear hs2
            go_enter Try.func13, Try.ntmps13
            go_wp2_with (first | (go_at_call 17; refine (isEnc_any _ _).mono ?_; rintro e w' ⟨rfl, rfl⟩; rw [HI.out]) | (go_at_call 27; refine (rest_to _ _ _ HR.out HI.out HS.out _).mono ?_; rintro e w' ⟨rfl, hb1⟩; have hBx := Box.bel (Box.new w _ _) hb1; have c0 := hBx.cell 0 _ rfl; have c1 := hBx.cell 1 _ rfl; have c2 := hBx.cell 2 _ rfl; have c3 := hBx.cell 3 _ rfl; have c4 := hBx.cell 4 _ rfl))
            go_ret
            exact ⟨rfl, (by repeat (first | exact Bel.refl _ | refine Bel.drewN ?_ _ | refine Bel.drew ?_ | refine Bel.alloc ?_ _ | refine Bel.trans ?_ (by assumption) | refine Bel.setCell ?_ (by simp; omega) _))⟩
          · by_cases g3 : n = 6
            · subst g3
              cases st
              · obtain rfl : k = 0 := KEY.out true (by rw [hs2]; simp; omega)
                clear hs2
                go_enter Try.func13, Try.ntmps13
                go_wp2_with (first | (go_at_call 17; refine (isEnc_any _ _).mono ?_; rintro e w' ⟨rfl, rfl⟩; rw [HI.out]) | (go_at_call 27; refine (rest_to _ _ _ HR.out HI.out HS.out _).mono ?_; rintro e w' ⟨rfl, hb1⟩; have hBx := Box.bel (Box.new w _ _) hb1; have c0 := hBx.cell 0 _ rfl; have c1 := hBx.cell 1 _ rfl; have c2 := hBx.cell 2 _ rfl; have c3 := hBx.cell 3 _ rfl; have c4 := hBx.cell 4 _ rfl))
                go_ret
                exact ⟨rfl, (by repeat (first | exact Bel.refl _ | refine Bel.drewN ?_ _ | refine Bel.drew ?_ | refine Bel.alloc ?_ _ | refine Bel.trans ?_ (by assumption) | refine Bel.setCell ?_ (by simp; omega) _))⟩
              · obtain rfl : k = 4 := KEY.out false (by rw [hs2]; simp)
                clear hs2
                go_enter Try.func13, Try.ntmps13
                go_wp2_with (first | (go_at_call 17; refine (isEnc_any _ _).mono ?_; rintro e w' ⟨rfl, rfl⟩; rw [HI.out]) | (go_at_call 27; refine (rest_to _ _ _ HR.out HI.out HS.out _).mono ?_; rintro e w' ⟨rfl, hb1⟩; have hBx := Box.bel (Box.new w _ _) hb1; have c0 := hBx.cell 0 _ rfl; have c1 := hBx.cell 1 _ rfl; have c2 := hBx.cell 2 _ rfl; have c3 := hBx.cell 3 _ rfl; have c4 := hBx.cell 4 _ rfl))
                go_ret
                exact ⟨rfl, (by repeat (first | exact Bel.refl _ | refine Bel.drewN ?_ _ | refine Bel.drew ?_ | refine Bel.alloc ?_ _ | refine Bel.trans ?_ (by assumption) | refine Bel.setCell ?_ (by simp; omega) _))⟩
            · have e6 : (n != 6) = true := by simpa using g3
              cases fr
              · by_cases g4 : sg = 0
                · subst g4
                  by_cases g5 : n = 7
                  · subst g5
                    obtain rfl : k = 0 := KEY.out true (by rw [hs2]; simp)
                    clear hs2
                    go_enter Try.func13, Try.ntmps13
                    go_wp2_with (first | (go_at_call 17; refine (isEnc_any _ _).mono ?_; rintro e w' ⟨rfl, rfl⟩; rw [HI.out]) | (go_at_call 27; refine (rest_to _ _ _ HR.out HI.out HS.out _).mono ?_; rintro e w' ⟨rfl, hb1⟩; have hBx := Box.bel (Box.new w _ _) hb1; have c0 := hBx.cell 0 _ rfl; have c1 := hBx.cell 1 _ rfl; have c2 := hBx.cell 2 _ rfl; have c3 := hBx.cell 3 _ rfl; have c4 := hBx.cell 4 _ rfl))
                    go_ret
                    exact ⟨rfl, (by repeat (first | exact Bel.refl _ | refine Bel.drewN ?_ _ | refine Bel.drew ?_ | refine Bel.alloc ?_ _ | refine Bel.trans ?_ (by assumption) | refine Bel.setCell ?_ (by simp; omega) _))⟩
                  · have e7 : (n != 7) = true := by simpa using g5
                    cases st
                    · obtain rfl : k = 0 := KEY.out true (by rw [hs2]; simp)
                      clear hs2 g3 g5
                      go_enter Try.func13, Try.ntmps13
                      go_wp2_with (first | (go_at_call 17; refine (isEnc_any _ _).mono ?_; rintro e w' ⟨rfl, rfl⟩; rw [HI.out]) | (go_at_call 27; refine (rest_to _ _ _ HR.out HI.out HS.out _).mono ?_; rintro e w' ⟨rfl, hb1⟩; have hBx := Box.bel (Box.new w _ _) hb1; have c0 := hBx.cell 0 _ rfl; have c1 := hBx.cell 1 _ rfl; have c2 := hBx.cell 2 _ rfl; have c3 := hBx.cell 3 _ rfl; have c4 := hBx.cell 4 _ rfl))
                      go_ret
                      exact ⟨rfl, (by repeat (first | exact Bel.refl _ | refine Bel.drewN ?_ _ | refine Bel.drew ?_ | refine Bel.alloc ?_ _ | refine Bel.trans ?_ (by assumption) | refine Bel.setCell ?_ (by simp; omega) _))⟩
                    · obtain rfl : k = 4 := KEY.out false (by rw [hs2]; simp [g5])
                      clear hs2 g3 g5
                      go_enter Try.func13, Try.ntmps13
                      go_wp2_with (first | (go_at_call 17; refine (isEnc_any _ _).mono ?_; rintro e w' ⟨rfl, rfl⟩; rw [HI.out]) | (go_at_call 27; refine (rest_to _ _ _ HR.out HI.out HS.out _).mono ?_; rintro e w' ⟨rfl, hb1⟩; have hBx := Box.bel (Box.new w _ _) hb1; have c0 := hBx.cell 0 _ rfl; have c1 := hBx.cell 1 _ rfl; have c2 := hBx.cell 2 _ rfl; have c3 := hBx.cell 3 _ rfl; have c4 := hBx.cell 4 _ rfl))
                      go_ret
                      exact ⟨rfl, (by repeat (first | exact Bel.refl _ | refine Bel.drewN ?_ _ | refine Bel.drew ?_ | refine Bel.alloc ?_ _ | refine Bel.trans ?_ (by assumption) | refine Bel.setCell ?_ (by simp; omega) _))⟩
                · have e4 : (sg != 0) = true := by simpa using g4
                  obtain rfl : k = 4 := KEY.out false (by rw [hs2]; simp [g3, g4])
                  clear hs2 g3 g4
                  go_enter Try.func13, Try.ntmps13
                  go_wp2_with (first | (go_at_call 17; refine (isEnc_any _ _).mono ?_; rintro e w' ⟨rfl, rfl⟩; rw [HI.out]) | (go_at_call 27; refine (rest_to _ _ _ HR.out HI.out HS.out _).mono ?_; rintro e w' ⟨rfl, hb1⟩; have hBx := Box.bel (Box.new w _ _) hb1; have c0 := hBx.cell 0 _ rfl; have c1 := hBx.cell 1 _ rfl; have c2 := hBx.cell 2 _ rfl; have c3 := hBx.cell 3 _ rfl; have c4 := hBx.cell 4 _ rfl))
                  go_ret
                  exact ⟨rfl, (by repeat (first | exact Bel.refl _ | refine Bel.drewN ?_ _ | refine Bel.drew ?_ | refine Bel.alloc ?_ _ | refine Bel.trans ?_ (by assumption) | refine Bel.setCell ?_ (by simp; omega) _))⟩
              · obtain rfl : k = 4 := KEY.out false (by rw [hs2]; simp [g3])
                by_cases g4 : sg = 0
                · subst g4
                  clear hs2 g3
                  go_enter Try.func13, Try.ntmps13
                  go_wp2_with (first | (go_at_call 17; refine (isEnc_any _ _).mono ?_; rintro e w' ⟨rfl, rfl⟩; rw [HI.out]) | (go_at_call 27; refine (rest_to _ _ _ HR.out HI.out HS.out _).mono ?_; rintro e w' ⟨rfl, hb1⟩; have hBx := Box.bel (Box.new w _ _) hb1; have c0 := hBx.cell 0 _ rfl; have c1 := hBx.cell 1 _ rfl; have c2 := hBx.cell 2 _ rfl; have c3 := hBx.cell 3 _ rfl; have c4 := hBx.cell 4 _ rfl))
                  go_ret
                  exact ⟨rfl, (by repeat (first | exact Bel.refl _ | refine Bel.drewN ?_ _ | refine Bel.drew ?_ | refine Bel.alloc ?_ _ | refine Bel.trans ?_ (by assumption) | refine Bel.setCell ?_ (by simp; omega) _))⟩
                · have e4 : (sg != 0) = true := by simpa using g4
                  clear hs2 g3 g4
                  go_enter Try.func13, Try.ntmps13
                  go_wp2_with (first | (go_at_call 17; refine (isEnc_any _ _).mono ?_; rintro e w' ⟨rfl, rfl⟩; rw [HI.out]) | (go_at_call 27; refine (rest_to _ _ _ HR.out HI.out HS.out _).mono ?_; rintro e w' ⟨rfl, hb1⟩; have hBx := Box.bel (Box.new w _ _) hb1; have c0 := hBx.cell 0 _ rfl; have c1 := hBx.cell 1 _ rfl; have c2 := hBx.cell 2 _ rfl; have c3 := hBx.cell 3 _ rfl; have c4 := hBx.cell 4 _ rfl))
                  go_ret
                  exact ⟨rfl, (by repeat (first | exact Bel.refl _ | refine Bel.drewN ?_ _ | refine Bel.drew ?_ | refine Bel.alloc ?_ _ | refine Bel.trans ?_ (by assumption) | refine Bel.setCell ?_ (by simp; omega) _))⟩
theorem stC_set (d : M.St) : stC d = [.int .i64 d.enc, .string ⟨d.rest.toArray⟩, .int .i64 d.signs, .bool d.fresh, .bool d.stopped] := rfl
theorem Box.drew {w : World} {g : Nat} {t : TypeId} {cs : List Value} (h : Box w g t cs) : Box w.drew g t cs := h
set_option maxHeartbeats 4000000 in
theorem rawS_any (n : Int) (r : ByteArray) (sg : Int) (fr st : Bool) (b : ByteArray) (last : Bool) (hr : M.Right ⟨n, r.data.toList, sg, fr, st⟩) (hb : b.size ≤ 9000) (xs : List Int) (d2 : M.St) (hd : M.rawM ⟨n, r.data.toList, sg, fr, st⟩ b.data.toList last = (xs, d2)) (w : World) :
    Calls Try.prog 18 #[.agg #[.int .i64 n, .string r, .int .i64 sg, .bool fr, .bool st], .string b, .bool last] w fun e w' => ∃ v, e = .returned (.tuple #[v, stV d2]) ∧ Own w.heap.size 3 w' v (xs.map (Value.int .i64)) ∧ Bel w w' := by
  have hlen := hr.len
  have henc := hr.enc
  simp only at hlen henc
  have h3 : r.size ≤ 3 := by rw [Lib.size_eq]; exact hlen
  obtain ⟨⟨ys, d1⟩, ht⟩ : ∃ q, M.tellM ⟨n, r.data.toList, sg, fr, st⟩ b.data.toList = q := ⟨_, rfl⟩
  have hr1 : M.Right d1 := by have := M.right_tell _ b.data.toList hr; rw [ht] at this; exact this
  have he1 : d1.enc = n := by have := M.tell_enc ⟨n, r.data.toList, sg, fr, st⟩ b.data.toList; rw [ht] at this; exact this
  have hle1 := hr1.len
  have HT := Lib.hid (show ∀ (g : Nat) (w : World), Box w g 59 [.int .i64 n, .string r, .int .i64 sg, .bool fr, .bool st] → Calls Try.prog 32 #[.pointer (some ⟨g, 0, none⟩), .string b] w fun e w' => ∃ v, e = .returned v ∧ Own w.heap.size 3 w' v (ys.map (Value.int .i64)) ∧ Box w' g 59 (stC d1) ∧ Below g w w' from fun g w hB => by
    have := tell_any g ⟨n, r.data.toList, sg, fr, st⟩ henc b (by simp only; rw [← Lib.size_eq]; omega) w (by rw [stC]; simp only [str_eq]; exact hB)
    rw [ht] at this
    exact this)
  cases last
  · have e : (ys, d1) = (xs, d2) := by rw [← hd, M.rawM, if_neg (by decide), ht]
    injection e with e1 e2
    subst e1
    subst e2
    clear ht hd hr
    go_enter Try.func18, Try.ntmps18
    obtain ⟨n1, l1, sg1, fr1, st1⟩ := d1
    obtain rfl : n = n1 := he1.symm
    go_wp2_with (first | (go_at_call 32; refine (HT.out (w.heap.size + 1 + 1) _ (by have := Box.new ((w.alloc (.cells #[.int .i64 n, .string r, .int .i64 sg, .bool fr, .bool st] 23)).alloc (.cells #[.int .i64 0, .string ⟨#[]⟩, .int .i64 0, .bool false, .bool false] 23)) 59 [.int .i64 n, .string r, .int .i64 sg, .bool fr, .bool st]; simpa using this)).mono ?_; rintro e w1 ⟨v1, rfl, o1, hB1, hb1⟩))
    have hBel0 : Bel w (((w.alloc (.cells #[.int .i64 n, .string r, .int .i64 sg, .bool fr, .bool st] 23)).alloc (.cells #[.int .i64 0, .string ⟨#[]⟩, .int .i64 0, .bool false, .bool false] 23)).alloc (.cells #[.int .i64 n, .string r, .int .i64 sg, .bool fr, .bool st] 59)) := (by repeat (first | exact Bel.refl _ | refine Bel.drewN ?_ _ | refine Bel.drew ?_ | refine Bel.alloc ?_ _ | refine Bel.trans ?_ (by assumption) | refine Bel.setCell ?_ (by simp; omega) _))
    have hR0 : Box ((w.alloc (.cells #[.int .i64 n, .string r, .int .i64 sg, .bool fr, .bool st] 23)).alloc (.cells #[.int .i64 0, .string ⟨#[]⟩, .int .i64 0, .bool false, .bool false] 23)) (w.heap.size + 1) 23 [.int .i64 0, .string ⟨#[]⟩, .int .i64 0, .bool false, .bool false] := by have := Box.new (w.alloc (.cells #[.int .i64 n, .string r, .int .i64 sg, .bool fr, .bool st] 23)) 23 [.int .i64 0, .string ⟨#[]⟩, .int .i64 0, .bool false, .bool false]; simpa using this
    have hR1 := Box.upto (B := w.heap.size + 1 + 1) (hR0.bel ((Bel.refl _).alloc (.cells #[.int .i64 n, .string r, .int .i64 sg, .bool fr, .bool st] 59))) hb1 (by omega)
    have d0 := hB1.cell 0 _ rfl
    have d1 := hB1.cell 1 _ rfl
    have d2 := hB1.cell 2 _ rfl
    have d3 := hB1.cell 3 _ rfl
    have d4 := hB1.cell 4 _ rfl
    have r0 := hR1.cell 0 _ rfl
    have r1 := hR1.cell 1 _ rfl
    have r2 := hR1.cell 2 _ rfl
    have r3 := hR1.cell 3 _ rfl
    have r4 := hR1.cell 4 _ rfl
    have q0 := hR1.frozen 0
    have q1 := hR1.frozen 1
    have q2 := hR1.frozen 2
    have q3 := hR1.frozen 3
    have q4 := hR1.frozen 4
    go_region
    go_wp2_with fail
    have hF := Box.drew (((((hR1.set 0 (.int .i64 n)).set 1 (.string ⟨l1.toArray⟩)).set 2 (.int .i64 sg1)).set 3 (.bool fr1)).set 4 (.bool st1))
    have f0 := hF.cell 0 _ rfl
    have f1 := hF.cell 1 _ rfl
    have f2 := hF.cell 2 _ rfl
    have f3 := hF.cell 3 _ rfl
    have f4 := hF.cell 4 _ rfl
    refine bodyPost_ret (v := .tuple #[v1, stV ⟨n, l1, sg1, fr1, st1⟩]) (by simp [results, Try.results18, go_sem, stV, f0, f1, f2, f3, f4]) rfl ?_
    exact ⟨_, rfl, ((((((o1.setCell (p := ⟨w.heap.size + 1, 0, none⟩) (by simp) _).setCell (p := ⟨w.heap.size + 1, 1, none⟩) (by simp) _).setCell (p := ⟨w.heap.size + 1, 2, none⟩) (by simp) _).setCell (p := ⟨w.heap.size + 1, 3, none⟩) (by simp) _).setCell (p := ⟨w.heap.size + 1, 4, none⟩) (by simp) _).drew.mono (by first | omega | (simp; omega) | simp)), (((((((Bel.upto hBel0 hb1 (by omega)).setCell (p := ⟨w.heap.size + 1, 0, none⟩) (by simp) _).setCell (p := ⟨w.heap.size + 1, 1, none⟩) (by simp) _).setCell (p := ⟨w.heap.size + 1, 2, none⟩) (by simp) _).setCell (p := ⟨w.heap.size + 1, 3, none⟩) (by simp) _).setCell (p := ⟨w.heap.size + 1, 4, none⟩) (by simp) _).drew)⟩
  · have e : (ys ++ M.endM d1, M.opn n) = (xs, d2) := by rw [← hd, M.rawM, if_pos rfl, ht]
    injection e with e1 e2
    subst e1
    subst e2
    have hyl : ys.length ≤ 9003 := by
      have := M.tell_len ⟨n, r.data.toList, sg, fr, st⟩ henc b.data.toList
      rw [ht] at this
      have hb9 : b.data.toList.length = b.size := (Lib.size_eq b).symm
      simp only at this
      omega
    have hzl := M.end_len d1
    clear ht hd hr
    go_enter Try.func18, Try.ntmps18
    obtain ⟨n1, l1, sg1, fr1, st1⟩ := d1
    obtain rfl : n = n1 := he1.symm
    obtain ⟨zs, hz⟩ : ∃ zs, M.endM ⟨n, l1, sg1, fr1, st1⟩ = zs := ⟨_, rfl⟩
    rw [hz] at hzl ⊢
    have HZ := Lib.hid hz
    have hzl2 : zs.length ≤ 4 := by simp only at hle1 hzl; omega
    have HL1 := Lib.hid (show l1.length ≤ 3 from hle1)
    clear hz hzl hle1
    go_wp2_with (first | (go_at_call 32; refine (HT.out (w.heap.size + 1 + 1) _ (by have := Box.new ((w.alloc (.cells #[.int .i64 n, .string r, .int .i64 sg, .bool fr, .bool st] 23)).alloc (.cells #[.int .i64 0, .string ⟨#[]⟩, .int .i64 0, .bool false, .bool false] 23)) 59 [.int .i64 n, .string r, .int .i64 sg, .bool fr, .bool st]; simpa using this)).mono ?_; rintro e w1 ⟨v1, rfl, o1, hB1, hb1⟩) | (go_at_call 33; refine (end_any (w.heap.size + 1 + 1) n l1 sg1 fr1 st1 zs HZ.out HL1.out w1 hB1).mono ?_; rintro e w2 ⟨v2, rfl, o2, hB2, hb2, hO2⟩; have o1b := Own.mono (o1.only hO2 (by simp)) (show w.heap.size + 1 + 1 + 1 ≤ _ by simp); have hs1 : w.heap.size + 1 + 1 + 1 ≤ w1.heap.size := hB1.lt; have hs2 : w.heap.size + 1 + 1 + 1 ≤ w2.heap.size := hB2.lt) | (at_builtin; refine wpList_appInts (.tmp 17) (.tmp 19) 24 rfl elemInt (by decide) (w.heap.size + 1 + 1 + 1) _ _ o1b _ zs o2.ints (by simp; omega) hs2 rfl rfl rfl ?_; intro v3 w3 o3 b3))
    have hBel0 : Bel w (((w.alloc (.cells #[.int .i64 n, .string r, .int .i64 sg, .bool fr, .bool st] 23)).alloc (.cells #[.int .i64 0, .string ⟨#[]⟩, .int .i64 0, .bool false, .bool false] 23)).alloc (.cells #[.int .i64 n, .string r, .int .i64 sg, .bool fr, .bool st] 59)) := (by repeat (first | exact Bel.refl _ | refine Bel.drewN ?_ _ | refine Bel.drew ?_ | refine Bel.alloc ?_ _ | refine Bel.trans ?_ (by assumption) | refine Bel.setCell ?_ (by simp; omega) _))
    have hR0 : Box ((w.alloc (.cells #[.int .i64 n, .string r, .int .i64 sg, .bool fr, .bool st] 23)).alloc (.cells #[.int .i64 0, .string ⟨#[]⟩, .int .i64 0, .bool false, .bool false] 23)) (w.heap.size + 1) 23 [.int .i64 0, .string ⟨#[]⟩, .int .i64 0, .bool false, .bool false] := by have := Box.new (w.alloc (.cells #[.int .i64 n, .string r, .int .i64 sg, .bool fr, .bool st] 23)) 23 [.int .i64 0, .string ⟨#[]⟩, .int .i64 0, .bool false, .bool false]; simpa using this
    have hR1 := Box.upto (B := w.heap.size + 1 + 1) (hR0.bel ((Bel.refl _).alloc (.cells #[.int .i64 n, .string r, .int .i64 sg, .bool fr, .bool st] 59))) hb1 (by omega)
    have hR2 := Box.upto (B := w.heap.size + 1 + 1) hR1 hb2 (by omega)
    have hR3 := Box.upto (B := w.heap.size + 1 + 1 + 1) hR2 b3 (by omega)
    have hB3 := Box.upto (B := w.heap.size + 1 + 1 + 1) hB2 b3 (by omega)
    have d0 := hB3.cell 0 _ rfl
    have d1 := hB3.cell 1 _ rfl
    have d2 := hB3.cell 2 _ rfl
    have d3 := hB3.cell 3 _ rfl
    have d4 := hB3.cell 4 _ rfl
    have r0 := hR3.cell 0 _ rfl
    have r1 := hR3.cell 1 _ rfl
    have r2 := hR3.cell 2 _ rfl
    have r3 := hR3.cell 3 _ rfl
    have r4 := hR3.cell 4 _ rfl
    have q0 := hR3.frozen 0
    have q1 := hR3.frozen 1
    have q2 := hR3.frozen 2
    have q3 := hR3.frozen 3
    have q4 := hR3.frozen 4
    go_region
    go_wp2_with fail
    have hF := Box.drew (((((hR3.set 0 (.int .i64 n)).set 1 (.string ⟨#[]⟩)).set 2 (.int .i64 0)).set 3 (.bool false)).set 4 (.bool false))
    have f0 := hF.cell 0 _ rfl
    have f1 := hF.cell 1 _ rfl
    have f2 := hF.cell 2 _ rfl
    have f3 := hF.cell 3 _ rfl
    have f4 := hF.cell 4 _ rfl
    refine bodyPost_ret (v := .tuple #[v3, stV (M.opn n)]) (by simp [results, Try.results18, go_sem, stV, M.opn, f0, f1, f2, f3, f4]) rfl ?_
    rw [List.map_append]
    exact ⟨_, rfl, ((((((o3.setCell (p := ⟨w.heap.size + 1, 0, none⟩) (by simp) _).setCell (p := ⟨w.heap.size + 1, 1, none⟩) (by simp) _).setCell (p := ⟨w.heap.size + 1, 2, none⟩) (by simp) _).setCell (p := ⟨w.heap.size + 1, 3, none⟩) (by simp) _).setCell (p := ⟨w.heap.size + 1, 4, none⟩) (by simp) _).drew.mono (by first | omega | (simp; omega) | simp)), (((((((Bel.upto (Bel.upto (Bel.upto hBel0 hb1 (by omega)) hb2 (by omega)) b3 (by omega)).setCell (p := ⟨w.heap.size + 1, 0, none⟩) (by simp) _).setCell (p := ⟨w.heap.size + 1, 1, none⟩) (by simp) _).setCell (p := ⟨w.heap.size + 1, 2, none⟩) (by simp) _).setCell (p := ⟨w.heap.size + 1, 3, none⟩) (by simp) _).setCell (p := ⟨w.heap.size + 1, 4, none⟩) (by simp) _).drew)⟩
end Go.Proofs.Ytcgdecpjlggekaa

/-
  Package stream: Feed.
-/
namespace Go.Proofs.Ytcgdecpjlggekaa
open Go.RowKit
set_option maxRecDepth 1000000

theorem check_to (n : Int) (r : ByteArray) (sg : Int) (fr st : Bool) (k : Int) (hk : M.checkM ⟨n, r.data.toList, sg, fr, st⟩ = k) (w : World) : Calls Try.prog 13 #[.agg #[.int .i64 n, .string r, .int .i64 sg, .bool fr, .bool st]] w fun e w' => e = .returned (.int .i64 k) ∧ Bel w w' := check_any n r sg fr st k hk w
set_option maxHeartbeats 4000000 in
theorem feed_any (n : Int) (r : ByteArray) (sg : Int) (fr st : Bool) (b : ByteArray) (last : Bool) (xs : List Int) (d2 : M.St) (k : Int) (hf : M.feedE ⟨n, r.data.toList, sg, fr, st⟩ b.data.toList last = (xs, d2, k)) (w : World) :
    Calls Try.prog 6 #[.agg #[.int .i64 n, .string r, .int .i64 sg, .bool fr, .bool st], .string b, .bool last] w fun e w' => ∃ v, e = .returned (.tuple #[v, stV d2, .int .i64 k]) ∧ Own w.heap.size 3 w' v (xs.map (Value.int .i64)) ∧ Bel w w' := by
  obtain ⟨q, hq⟩ : ∃ q, M.checkM ⟨n, r.data.toList, sg, fr, st⟩ = q := ⟨_, rfl⟩
  have HQ := Lib.hid hq
  have hR0 : Box ((w.alloc (.cells #[.int .i64 n, .string r, .int .i64 sg, .bool fr, .bool st] 23)).alloc (.cells #[.int .i64 0, .string ⟨#[]⟩, .int .i64 0, .bool false, .bool false] 23)) (w.heap.size + 1) 23 [.int .i64 0, .string ⟨#[]⟩, .int .i64 0, .bool false, .bool false] := by have := Box.new (w.alloc (.cells #[.int .i64 n, .string r, .int .i64 sg, .bool fr, .bool st] 23)) 23 [.int .i64 0, .string ⟨#[]⟩, .int .i64 0, .bool false, .bool false]; simpa using this
  have hS0 : Box ((w.alloc (.cells #[.int .i64 n, .string r, .int .i64 sg, .bool fr, .bool st] 23)).alloc (.cells #[.int .i64 0, .string ⟨#[]⟩, .int .i64 0, .bool false, .bool false] 23)) w.heap.size 23 [.int .i64 n, .string r, .int .i64 sg, .bool fr, .bool st] := (Box.new w _ _).bel ((Bel.refl _).alloc _)
  have hb0 : Bel w ((w.alloc (.cells #[.int .i64 n, .string r, .int .i64 sg, .bool fr, .bool st] 23)).alloc (.cells #[.int .i64 0, .string ⟨#[]⟩, .int .i64 0, .bool false, .bool false] 23)) := (by repeat (first | exact Bel.refl _ | refine Bel.drewN ?_ _ | refine Bel.drew ?_ | refine Bel.alloc ?_ _ | refine Bel.trans ?_ (by assumption) | refine Bel.setCell ?_ (by simp; omega) _))
  by_cases h0 : q = 0
  · subst h0
    have hr := (M.check_right _).1 hq
    by_cases hb : 3000 < b.size
    · have e : (([] : List Int), (⟨0, [], 0, false, false⟩ : M.St), (2 : Int)) = (xs, d2, k) := by rw [← hf, M.feedE, if_pos hq, if_pos (by rw [← Lib.size_eq]; exact hb)]
      injection e with e1 e2
      injection e2 with e2 e3
      subst e1
      subst e2
      subst e3
      clear hf hr hq
      go_enter Try.func6, Try.ntmps6
      go_wp2_with (first | (go_at_call 13; refine (check_to n r sg fr st 0 HQ.out _).mono ?_; rintro e w' ⟨rfl, hb1⟩; have hR1 := hR0.bel hb1; have f0 := hR1.cell 0 _ rfl; have f1 := hR1.cell 1 _ rfl; have f2 := hR1.cell 2 _ rfl; have f3 := hR1.cell 3 _ rfl; have f4 := hR1.cell 4 _ rfl; have y0 := hR1.frozen 0; have y1 := hR1.frozen 1; have y2 := hR1.frozen 2; have y3 := hR1.frozen 3; have y4 := hR1.frozen 4))
      have hF := ((((hR1.set 0 (.int .i64 0)).set 1 (.string ⟨#[]⟩)).set 2 (.int .i64 0)).set 3 (.bool false)).set 4 (.bool false)
      have u0 := hF.cell 0 _ rfl
      have u1 := hF.cell 1 _ rfl
      have u2 := hF.cell 2 _ rfl
      have u3 := hF.cell 3 _ rfl
      have u4 := hF.cell 4 _ rfl
      refine bodyPost_ret (v := .tuple #[.slice none 0 0, .agg #[.int .i64 0, .string ⟨#[]⟩, .int .i64 0, .bool false, .bool false], .int .i64 2]) (by simp [results, Try.results6, go_sem, u0, u1, u2, u3, u4]) rfl ?_
      have hbw := hb0.trans hb1
      exact ⟨_, rfl, Own.nil _ _ _, ((((hbw.setCell (p := ⟨w.heap.size + 1, 0, none⟩) (by simp) _).setCell (p := ⟨w.heap.size + 1, 1, none⟩) (by simp) _).setCell (p := ⟨w.heap.size + 1, 2, none⟩) (by simp) _).setCell (p := ⟨w.heap.size + 1, 3, none⟩) (by simp) _).setCell (p := ⟨w.heap.size + 1, 4, none⟩) (by simp) _⟩
    · obtain ⟨⟨ys, d3⟩, hw⟩ : ∃ q, M.rawM ⟨n, r.data.toList, sg, fr, st⟩ b.data.toList last = q := ⟨_, rfl⟩
      have e : (ys, d3, (0 : Int)) = (xs, d2, k) := by rw [← hf, M.feedE, if_pos hq, if_neg (by rw [← Lib.size_eq]; exact hb), hw]
      injection e with e1 e2
      injection e2 with e2 e3
      subst e1
      subst e2
      subst e3
      obtain ⟨n2, l2, sg2, fr2, st2⟩ := d3
      have HW := Lib.hid hw
      have HR := Lib.hid hr
      have hb4 : b.size ≤ 3000 := by omega
      have hb3 : b.size ≤ 9000 := by omega
      clear hf hr hq hw hb
      go_enter Try.func6, Try.ntmps6
      go_wp2_with (first | (go_at_call 13; refine (check_to n r sg fr st 0 HQ.out _).mono ?_; rintro e w' ⟨rfl, hb1⟩; have hS1 := hS0.bel hb1; have f0 := hS1.cell 0 _ rfl; have f1 := hS1.cell 1 _ rfl; have f2 := hS1.cell 2 _ rfl; have f3 := hS1.cell 3 _ rfl; have f4 := hS1.cell 4 _ rfl) | (go_at_call 18; refine (rawS_any n r sg fr st b last HR.out hb3 _ _ HW.out _).mono ?_; rintro e w' ⟨v2, rfl, o2, hb2⟩; rw [stV]; have hR2 := Box.bel (Box.bel hR0 hb1) hb2; have r0 := hR2.cell 0 _ rfl; have r1 := hR2.cell 1 _ rfl; have r2 := hR2.cell 2 _ rfl; have r3 := hR2.cell 3 _ rfl; have r4 := hR2.cell 4 _ rfl; have y0 := hR2.frozen 0; have y1 := hR2.frozen 1; have y2 := hR2.frozen 2; have y3 := hR2.frozen 3; have y4 := hR2.frozen 4; have hlt2 := hR2.lt))
      have hN := Box.new w' 23 [.int .i64 n2, .string ⟨l2.toArray⟩, .int .i64 sg2, .bool fr2, .bool st2]
      have hR3 := hR2.bel ((Bel.refl w').alloc (.cells #[.int .i64 n2, .string ⟨l2.toArray⟩, .int .i64 sg2, .bool fr2, .bool st2] 23))
      have hbW : Bel w (w'.alloc (.cells #[.int .i64 n2, .string ⟨l2.toArray⟩, .int .i64 sg2, .bool fr2, .bool st2] 23)) := ((hb0.trans hb1).trans hb2).alloc _
      have hOW := (o2.mono (show w.heap.size + 1 + 1 ≤ _ from (hR0.bel hb1).lt)).alloc (.cells #[.int .i64 n2, .string ⟨l2.toArray⟩, .int .i64 sg2, .bool fr2, .bool st2] 23)
      have hs2 : w.heap.size + 2 ≤ w'.heap.size := hlt2
      clear f0 f1 f2 f3 f4 r0 r1 r2 r3 r4 y0 y1 y2 y3 y4 hS1 hR2 hlt2 hR0 hS0 hb0 o2 hb1 hb2
      generalize w'.alloc (.cells #[.int .i64 n2, .string ⟨l2.toArray⟩, .int .i64 sg2, .bool fr2, .bool st2] 23) = W at *
      generalize w'.heap.size = q at *
      have gq : ¬ q = w.heap.size + 1 := by omega
      have qg : ¬ w.heap.size + 1 = q := by omega
      have d0 := hN.cell 0 _ rfl
      have d1 := hN.cell 1 _ rfl
      have d2 := hN.cell 2 _ rfl
      have d3 := hN.cell 3 _ rfl
      have d4 := hN.cell 4 _ rfl
      have r0 := hR3.cell 0 _ rfl
      have r1 := hR3.cell 1 _ rfl
      have r2 := hR3.cell 2 _ rfl
      have r3 := hR3.cell 3 _ rfl
      have r4 := hR3.cell 4 _ rfl
      have q0 := hR3.frozen 0
      have q1 := hR3.frozen 1
      have q2 := hR3.frozen 2
      have q3 := hR3.frozen 3
      have q4 := hR3.frozen 4
      clear hs2 hb3 hb4
      go_region
      go_wp2_with fail
      have hF := Box.drew (((((hR3.set 0 (.int .i64 n2)).set 1 (.string ⟨l2.toArray⟩)).set 2 (.int .i64 sg2)).set 3 (.bool fr2)).set 4 (.bool st2))
      have u0 := hF.cell 0 _ rfl
      have u1 := hF.cell 1 _ rfl
      have u2 := hF.cell 2 _ rfl
      have u3 := hF.cell 3 _ rfl
      have u4 := hF.cell 4 _ rfl
      refine bodyPost_ret (v := .tuple #[v2, stV ⟨n2, l2, sg2, fr2, st2⟩, .int .i64 0]) (by simp [results, Try.results6, go_sem, stV, u0, u1, u2, u3, u4]) rfl ?_
      exact ⟨_, rfl, ((((((hOW.setCell (p := ⟨w.heap.size + 1, 0, none⟩) (by simp) _).setCell (p := ⟨w.heap.size + 1, 1, none⟩) (by simp) _).setCell (p := ⟨w.heap.size + 1, 2, none⟩) (by simp) _).setCell (p := ⟨w.heap.size + 1, 3, none⟩) (by simp) _).setCell (p := ⟨w.heap.size + 1, 4, none⟩) (by simp) _).drew.mono (by first | omega | (simp; omega) | simp)), ((((((hbW.setCell (p := ⟨w.heap.size + 1, 0, none⟩) (by simp) _).setCell (p := ⟨w.heap.size + 1, 1, none⟩) (by simp) _).setCell (p := ⟨w.heap.size + 1, 2, none⟩) (by simp) _).setCell (p := ⟨w.heap.size + 1, 3, none⟩) (by simp) _).setCell (p := ⟨w.heap.size + 1, 4, none⟩) (by simp) _).drew)⟩
  · have e : (([] : List Int), (⟨0, [], 0, false, false⟩ : M.St), q) = (xs, d2, k) := by rw [← hf, M.feedE, hq, if_neg h0]
    injection e with e1 e2
    injection e2 with e2 e3
    subst e1
    subst e2
    subst e3
    have e4 : (q == 0) = false := by simpa using h0
    have e5 : (q != 0) = true := by simpa using h0
    clear hf hq h0
    go_enter Try.func6, Try.ntmps6
    go_wp2_with (first | (go_at_call 13; refine (check_to n r sg fr st _ HQ.out _).mono ?_; rintro e w' ⟨rfl, hb1⟩; have hR1 := hR0.bel hb1; have f0 := hR1.cell 0 _ rfl; have f1 := hR1.cell 1 _ rfl; have f2 := hR1.cell 2 _ rfl; have f3 := hR1.cell 3 _ rfl; have f4 := hR1.cell 4 _ rfl; have y0 := hR1.frozen 0; have y1 := hR1.frozen 1; have y2 := hR1.frozen 2; have y3 := hR1.frozen 3; have y4 := hR1.frozen 4))
    have hF := ((((hR1.set 0 (.int .i64 0)).set 1 (.string ⟨#[]⟩)).set 2 (.int .i64 0)).set 3 (.bool false)).set 4 (.bool false)
    have u0 := hF.cell 0 _ rfl
    have u1 := hF.cell 1 _ rfl
    have u2 := hF.cell 2 _ rfl
    have u3 := hF.cell 3 _ rfl
    have u4 := hF.cell 4 _ rfl
    refine bodyPost_ret (v := .tuple #[.slice none 0 0, .agg #[.int .i64 0, .string ⟨#[]⟩, .int .i64 0, .bool false, .bool false], .int .i64 q]) (by simp [results, Try.results6, go_sem, u0, u1, u2, u3, u4]) rfl ?_
    have hbw := hb0.trans hb1
    exact ⟨_, rfl, Own.nil _ _ _, ((((hbw.setCell (p := ⟨w.heap.size + 1, 0, none⟩) (by simp) _).setCell (p := ⟨w.heap.size + 1, 1, none⟩) (by simp) _).setCell (p := ⟨w.heap.size + 1, 2, none⟩) (by simp) _).setCell (p := ⟨w.heap.size + 1, 3, none⟩) (by simp) _).setCell (p := ⟨w.heap.size + 1, 4, none⟩) (by simp) _⟩
end Go.Proofs.Ytcgdecpjlggekaa

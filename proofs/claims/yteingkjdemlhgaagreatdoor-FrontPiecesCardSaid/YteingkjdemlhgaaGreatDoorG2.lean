/-
  Texts of the proof, laid together: PlainStream, PlainSingle, PlainMap, PlainEnc, PlainMark, PlainFront, Base, Base2, Base3, Base4, Base5, Base6, Base7, White, Is, IndexFn, Label. No condition of its own.
-/
import Derived.Test.YteingkjdemlhgaaGreatDoorG1
import Derived.Maps.Views
import Derived.Lib.ItoaNum
import Derived.WalkKit
import Derived.Lib.Hide
import Derived.Lib.Strings
import Derived.Deep.AppendLies
import Derived.Deep.Draws
import Derived.Laws.OwnMore
import Derived.Test.YteingkjdemlhgaaGreatDoorProg
import Derived.WalkLawsBesides
import Derived.WalkSpells
import Derived.Deep.QuietTactic
import Derived.BigQuiet
import Derived.Laws.IdiomStrings
import Derived.Laws.Rows
import Derived.Deep.RegionHeld3
import Derived.StillTailTactics
import Derived.Deep.RegionLaw
import Derived.Deep.LoopGhost
import Derived.Shelf.Abstract
import Derived.Test.YteingkjdemlhgaaGreatDoorShelf
import Derived.Shelf.Strings.SlTrimAscii

/-
  Bytes that come in pieces, in plain functions and laws.
-/
namespace Go.Proofs.YteingkjdemlhgaaGreatDoor.M
open Go
structure St where
  enc : Int
  rest : Bs
  signs : Int
  fresh : Bool
  stopped : Bool
  deriving DecidableEq
def opn (n : Int) : St := ⟨n, [], 0, false, false⟩
def allE (n : Int) (s : Bs) : List Int :=
  if n = 1 then all8 s else if n = 2 ∨ n = 3 then all16 (n == 3) s else if n = 4 ∨ n = 5 then decodeS (n == 5) s else if n = 6 then allK s else if s = [] then [] else [65533]
def tellM (d : St) (b : Bs) : List Int × St :=
  if d.enc = 1 then ((told8 (d.rest ++ b)).1, { d with rest := (told8 (d.rest ++ b)).2 })
  else if d.enc = 2 ∨ d.enc = 3 then ((told16 (d.enc == 3) (d.rest ++ b)).1, { d with rest := (told16 (d.enc == 3) (d.rest ++ b)).2 })
  else if d.enc = 6 then ((toldK false d.signs d.fresh (d.rest ++ b)).1, { d with signs := (toldK false d.signs d.fresh (d.rest ++ b)).2.1, fresh := (toldK false d.signs d.fresh (d.rest ++ b)).2.2.1, rest := (toldK false d.signs d.fresh (d.rest ++ b)).2.2.2 })
  else if d.enc = 7 then (if d.stopped = true ∨ d.rest ++ b = [] then ([], d) else ([65533], { d with stopped := true }))
  else (allE d.enc (d.rest ++ b), d)
def endM (d : St) : List Int := if d.rest = [] then [] else if d.enc = 6 then (toldK true d.signs d.fresh d.rest).1 else [65533]
def rawM (d : St) (b : Bs) (last : Bool) : List Int × St := if last = true then ((tellM d b).1 ++ endM (tellM d b).2, opn d.enc) else tellM d b
def restOk (n : Int) (s : Bs) : Bool := decide (s = [] ∨ ((tellM (opn n) s).1 = [] ∧ (tellM (opn n) s).2.rest = s))
def stateOk (d : St) : Bool := !(decide (d.signs < 0 ∨ 2 < d.signs) || (decide (d.enc ≠ 6) && (decide (d.signs ≠ 0) || d.fresh)) || (decide (d.enc ≠ 7) && d.stopped))
def checkM (d : St) : Int := if isEnc d.enc = false then 6 else if 3 < d.rest.length ∨ restOk d.enc d.rest = false then 1 else if stateOk d = false then 4 else 0
def readyE (n : Int) (s : Bs) : Int := if isEnc n = false then 6 else if 3000 < s.length then 2 else 0
def decE (n : Int) (s : Bs) : List Int × Int := if readyE n s = 0 then (allE n s, 0) else ([], readyE n s)
def openE (n : Int) : St × Int := if isEnc n = true then (opn n, 0) else (⟨0, [], 0, false, false⟩, 6)
def feedE (d : St) (b : Bs) (last : Bool) : List Int × St × Int :=
  if checkM d = 0 then (if 3000 < b.length then ([], ⟨0, [], 0, false, false⟩, 2) else ((rawM d b last).1, (rawM d b last).2, 0)) else ([], ⟨0, [], 0, false, false⟩, checkM d)
/-! ## UTF-8 and UTF-16 in pieces -/
theorem go8_app : ∀ (m : Nat) (l b : Bs) (i n lo hi : Int), (go8 m l i n lo hi).2.2 = true → go8 m (l ++ b) i n lo hi = go8 m l i n lo hi
  | 0, l, b, i, n, lo, hi, _ => by rw [go8, go8]
  | m + 1, [], b, i, n, lo, hi, h => by simp [go8] at h
  | m + 1, c :: t, b, i, n, lo, hi, h => by
    rw [List.cons_append, go8]
    rw [go8] at h ⊢
    split
    · rfl
    · rename_i hc
      rw [if_neg hc] at h
      exact go8_app m t b _ _ _ _ h
theorem first8_app (c : UInt8) (t b : Bs) (h : (first8 (c :: t)).2.2 = true) : first8 (c :: t ++ b) = first8 (c :: t) := by
  rw [List.cons_append, first8]
  rw [first8] at h ⊢
  split
  · rfl
  · rename_i hc
    rw [if_neg hc] at h
    exact go8_app _ _ _ _ _ _ _ h
theorem told8_app : ∀ (k : Nat) (s b : Bs), s.length ≤ k → told8 (s ++ b) = ((told8 s).1 ++ (told8 ((told8 s).2 ++ b)).1, (told8 ((told8 s).2 ++ b)).2)
  | _, [], b, _ => by simp [told8_nil]
  | 0, _ :: _, _, h => by simp at h
  | k + 1, c :: t, b, h => by
    simp only [List.length_cons] at h
    cases hb : (first8 (c :: t)).2.2 with
    | false => rw [told8_no c t hb]; simp
    | true =>
      obtain ⟨h1, h2⟩ := first8_bounds c t
      have hf := first8_app c t b hb
      have hd : (c :: t ++ b).drop (first8 (c :: t)).2.1.toNat = (c :: t).drop (first8 (c :: t)).2.1.toNat ++ b := List.drop_append_of_le_length (by omega)
      rw [told8_ok c t hb]
      have e := told8_ok c (t ++ b) (by rw [← List.cons_append, hf]; exact hb)
      rw [← List.cons_append, hf, hd] at e
      rw [e, told8_app k _ b (by rw [List.length_drop]; simp only [List.length_cons] at h2 ⊢; omega)]
      rfl
theorem told8_again : ∀ (k : Nat) (s : Bs), s.length ≤ k → told8 (told8 s).2 = ([], (told8 s).2)
  | _, [], _ => rfl
  | 0, _ :: _, h => by simp at h
  | k + 1, c :: t, h => by
    simp only [List.length_cons] at h
    cases hb : (first8 (c :: t)).2.2 with
    | false => rw [told8_no c t hb]; exact told8_no c t hb
    | true =>
      obtain ⟨h1, h2⟩ := first8_bounds c t
      rw [told8_ok c t hb]
      exact told8_again k _ (by rw [List.length_drop]; simp only [List.length_cons] at h2 ⊢; omega)
theorem told8_rest (s : Bs) : (told8 s).2.length ≤ 3 := by
  obtain ⟨_, _, h, _⟩ := told8_cut _ s (Nat.le_refl _)
  exact h
theorem told16_app (big : Bool) : ∀ (k : Nat) (s b : Bs), s.length ≤ k → told16 big (s ++ b) = ((told16 big s).1 ++ (told16 big ((told16 big s).2 ++ b)).1, (told16 big ((told16 big s).2 ++ b)).2)
  | _, [], b, _ => by simp [told16_nil]
  | _, [a], b, _ => by simp [told16_one]
  | 0, _ :: _ :: _, _, h => by simp at h
  | k + 1, a :: c :: t, b, h => by
    simp only [List.length_cons] at h
    rcases say16 big a c t with ⟨h0, e⟩ | ⟨_, h2, e⟩ | ⟨x, y, u, rfl, h1, h2, e⟩ | ⟨x, y, u, rfl, h1, h2, e⟩
    · rw [e, List.cons_append, List.cons_append, told16_plain big a c (t ++ b) h0, told16_app big k t b (by omega)]; rfl
    · rw [e]; simp
    · simp only [List.length_cons] at h
      rw [e, List.cons_append, List.cons_append, List.cons_append, List.cons_append, told16_two big a c x y (u ++ b) h1 h2, told16_app big k u b (by omega)]; rfl
    · have ih := told16_app big k (x :: y :: u) b (by omega)
      rw [List.cons_append, List.cons_append] at ih
      rw [e, List.cons_append, List.cons_append, List.cons_append, List.cons_append, told16_lone big a c x y (u ++ b) h1 h2, ih]; rfl
theorem told16_again (big : Bool) : ∀ (k : Nat) (s : Bs), s.length ≤ k → told16 big (told16 big s).2 = ([], (told16 big s).2)
  | _, [], _ => by rw [told16_nil]; exact told16_nil big
  | _, [a], _ => by rw [told16_one]; exact told16_one big a
  | 0, _ :: _ :: _, h => by simp at h
  | k + 1, a :: c :: t, h => by
    simp only [List.length_cons] at h
    rcases say16 big a c t with ⟨h0, e⟩ | ⟨_, h2, e⟩ | ⟨x, y, u, rfl, h1, h2, e⟩ | ⟨x, y, u, rfl, h1, h2, e⟩
    · rw [e]; exact told16_again big k t (by omega)
    · rw [e]; exact e
    · simp only [List.length_cons] at h
      rw [e]; exact told16_again big k u (by omega)
    · rw [e]; exact told16_again big k _ (by omega)
/-! ## States that are right -/
theorem enc_cases (n : Int) (h : isEnc n = true) : n = 1 ∨ (n = 2 ∨ n = 3) ∨ (n = 4 ∨ n = 5) ∨ n = 6 ∨ n = 7 := by
  simp only [isEnc, decide_eq_true_eq] at h; omega
theorem toldK_signs (last : Bool) : ∀ (k : Nat) (s : Bs) (g : Int) (f : Bool), s.length ≤ k → 0 ≤ g ∧ g ≤ 2 → 0 ≤ (toldK last g f s).2.1 ∧ (toldK last g f s).2.1 ≤ 2
  | _, [], g, f, _, hg => by rw [toldK_nil]; exact hg
  | 0, _ :: _, _, _, h, _ => by simp at h
  | k + 1, c :: t, g, f, h, hg => by
    simp only [List.length_cons] at h
    rcases sayK last g f c t with ⟨_, e⟩ | ⟨rfl, q, x, u, rfl, hq, _, e⟩ | ⟨rfl, h1, _, h2, e⟩ | ⟨rfl, _, _, e⟩
    · rw [e]; exact toldK_signs last k t g false (by omega) hg
    · simp only [List.length_cons] at h
      rw [e]
      refine toldK_signs last k u q true (by omega) ?_
      unfold escK at hq
      (repeat' split at hq) <;> first | (injection hq with hq; omega) | cases hq
    · rw [e]; exact hg
    · rw [e]; exact toldK_signs last k t g false (by omega) hg
/-- What a right state is. -/
structure Right (d : St) : Prop where
  enc : isEnc d.enc = true
  r8 : d.enc = 1 → told8 d.rest = ([], d.rest)
  r16 : d.enc = 2 ∨ d.enc = 3 → told16 (d.enc == 3) d.rest = ([], d.rest)
  rk : d.enc = 6 → d.rest = [] ∨ d.rest = [27] ∨ d.rest = [27, 40]
  rn : d.enc = 4 ∨ d.enc = 5 ∨ d.enc = 7 → d.rest = []
  len : d.rest.length ≤ 3
  sg : 0 ≤ d.signs ∧ d.signs ≤ 2
  nk : d.enc ≠ 6 → d.signs = 0 ∧ d.fresh = false
  ns : d.enc ≠ 7 → d.stopped = false
theorem decodeS_nil (user : Bool) (s : Bs) : decodeS user s = [] ↔ s = [] := by
  unfold decodeS; simp
theorem tell_opn (n : Int) (s : Bs) :
    (n = 1 → tellM (opn n) s = ((told8 s).1, { opn n with rest := (told8 s).2 })) ∧
    (n = 2 ∨ n = 3 → tellM (opn n) s = ((told16 (n == 3) s).1, { opn n with rest := (told16 (n == 3) s).2 })) ∧
    (n = 4 ∨ n = 5 → tellM (opn n) s = (decodeS (n == 5) s, opn n)) ∧
    (n = 6 → tellM (opn n) s = ((toldK false 0 false s).1, { opn n with signs := (toldK false 0 false s).2.1, fresh := (toldK false 0 false s).2.2.1, rest := (toldK false 0 false s).2.2.2 })) ∧
    (n = 7 → tellM (opn n) s = (if s = [] then ([], opn n) else ([65533], { opn n with stopped := true }))) := by
  refine ⟨fun h => ?_, fun h => ?_, fun h => ?_, fun h => ?_, fun h => ?_⟩
  · rw [tellM, if_pos (by exact h)]; rfl
  · rw [tellM, if_neg (by simp only [opn]; omega), if_pos (by exact h)]; rfl
  · rw [tellM, if_neg (by simp only [opn]; omega), if_neg (by simp only [opn]; omega), if_neg (by simp only [opn]; omega), if_neg (by simp only [opn]; omega)]
    show (allE n s, opn n) = _
    rw [allE, if_neg (by omega), if_neg (by omega), if_pos h]
  · rw [tellM, if_neg (by simp only [opn]; omega), if_neg (by simp only [opn]; omega), if_pos (by exact h)]; rfl
  · rw [tellM, if_neg (by simp only [opn]; omega), if_neg (by simp only [opn]; omega), if_neg (by simp only [opn]; omega), if_pos (by exact h)]; simp [opn]
theorem restOk_iff (n : Int) (h : isEnc n = true) (s : Bs) : restOk n s = true ↔ (n = 1 → told8 s = ([], s)) ∧ (n = 2 ∨ n = 3 → told16 (n == 3) s = ([], s)) ∧ (n = 6 → s = [] ∨ s = [27] ∨ s = [27, 40]) ∧ (n = 4 ∨ n = 5 ∨ n = 7 → s = []) := by
  unfold restOk
  rw [decide_eq_true_eq]
  obtain ⟨t1, t2, t3, t4, t5⟩ := tell_opn n s
  rcases enc_cases n h with h2 | h2 | h2 | h2 | h2
  · rw [t1 h2]
    constructor
    · rintro (rfl | ⟨h3, h4⟩)
      · exact ⟨fun _ => rfl, fun h => by omega, fun h => by omega, fun _ => rfl⟩
      · exact ⟨fun _ => Prod.ext h3 h4, fun h => by omega, fun h => by omega, fun h => by omega⟩
    · rintro ⟨h1, _⟩
      rw [h1 h2]
      exact .inr ⟨rfl, rfl⟩
  · rw [t2 h2]
    constructor
    · rintro (rfl | ⟨h3, h4⟩)
      · exact ⟨fun _ => rfl, fun _ => told16_nil _, fun h => by omega, fun _ => rfl⟩
      · exact ⟨fun h => by omega, fun _ => Prod.ext h3 h4, fun h => by omega, fun h => by omega⟩
    · rintro ⟨_, h1, _⟩
      rw [h1 h2]
      exact .inr ⟨rfl, rfl⟩
  · rw [t3 h2]
    constructor
    · rintro (rfl | ⟨h3, h4⟩)
      · exact ⟨fun h => by omega, fun h => by omega, fun h => by omega, fun _ => rfl⟩
      · exact ⟨fun h => by omega, fun h => by omega, fun h => by omega, fun _ => (decodeS_nil _ _).1 h3⟩
    · rintro ⟨_, _, _, h1⟩
      exact .inl (h1 (by omega))
  · rw [t4 h2]
    constructor
    · rintro (rfl | ⟨h3, h4⟩)
      · exact ⟨fun h => by omega, fun h => by omega, fun h => .inl rfl, fun _ => rfl⟩
      · refine ⟨fun h => by omega, fun h => by omega, fun _ => ?_, fun h => by omega⟩
        simp only at h3 h4
        cases s with
        | nil => exact .inl rfl
        | cons c t =>
          rcases sayK false 0 false c t with ⟨_, e⟩ | ⟨rfl, q, x, u, rfl, _, _, e⟩ | ⟨rfl, h1, _, h2, e⟩ | ⟨rfl, _, _, e⟩
          · rw [e] at h3; cases h3
          · have := (toldK_rest false _ u q true (Nat.le_refl _)).1
            rw [e] at h4
            have h4 := congrArg List.length h4
            simp only [List.length_cons] at h4
            omega
          · simp only [waitK, decide_eq_true_eq] at h1
            rcases h1 with rfl | rfl <;> simp
          · rw [e] at h3; cases h3
    · rintro ⟨_, _, h1, _⟩
      have := (waits_iff s 0 false).2 (h1 h2)
      rw [this]
      exact .inr ⟨rfl, rfl⟩
  · rw [t5 h2]
    constructor
    · rintro (rfl | ⟨h3, h4⟩)
      · exact ⟨fun h => by omega, fun h => by omega, fun h => .inl rfl, fun _ => rfl⟩
      · by_cases hs : s = []
        · subst hs; exact ⟨fun h => by omega, fun h => by omega, fun h => .inl rfl, fun _ => rfl⟩
        · rw [if_neg hs] at h3; cases h3
    · rintro ⟨_, _, _, h1⟩
      exact .inl (h1 (by omega))
theorem check_right (d : St) : checkM d = 0 ↔ Right d := by
  unfold checkM
  constructor
  · intro h
    split at h
    · cases h
    · rename_i h1
      rw [Bool.not_eq_false] at h1
      split at h
      · cases h
      · rename_i h2
        split at h
        · cases h
        · rename_i h3
          have h4 : restOk d.enc d.rest = true := by rw [← Bool.not_eq_false]; exact fun hh => h2 (.inr hh)
          obtain ⟨a1, a2, a3, a4⟩ := (restOk_iff d.enc h1 d.rest).1 h4
          simp only [stateOk, Bool.not_eq_false', Bool.or_eq_true, Bool.and_eq_true, decide_eq_true_eq, not_or, not_and] at h3
          obtain ⟨⟨b1, b2⟩, b3⟩ := h3
          refine ⟨h1, a1, a2, a3, a4, by omega, by omega, fun h6 => ?_, fun h7 => ?_⟩
          · have := b2 h6
            exact ⟨by omega, by simpa using this.2⟩
          · simpa using b3 h7
  · intro h
    rw [if_neg (by rw [h.enc]; decide), if_neg, if_neg]
    · have hk := h.nk
      have hs := h.ns
      have hg := h.sg
      simp only [stateOk, Bool.not_eq_false', Bool.or_eq_true, Bool.and_eq_true, decide_eq_true_eq, not_or, not_and]
      refine ⟨⟨by omega, fun h6 => ?_⟩, fun h7 => by simp [hs h7]⟩
      obtain ⟨h8, h9⟩ := hk h6
      exact ⟨by omega, by simp [h9]⟩
    · rintro (hh | hh)
      · have := h.len; omega
      · rw [(restOk_iff d.enc h.enc d.rest).2 ⟨h.r8, h.r16, h.rk, h.rn⟩] at hh; cases hh
theorem right_opn (n : Int) (h : isEnc n = true) : Right (opn n) :=
  ⟨h, fun _ => rfl, fun _ => told16_nil _, fun _ => .inl rfl, fun _ => rfl, by simp [opn], by simp [opn], fun _ => ⟨rfl, rfl⟩, fun _ => rfl⟩
theorem tell_enc (d : St) (b : Bs) : (tellM d b).2.enc = d.enc := by
  unfold tellM; (repeat' split) <;> rfl
theorem right_tell (d : St) (b : Bs) (h : Right d) : Right (tellM d b).2 := by
  rcases enc_cases d.enc h.enc with h1 | h1 | h1 | h1 | h1
  · have e : tellM d b = ((told8 (d.rest ++ b)).1, { d with rest := (told8 (d.rest ++ b)).2 }) := by rw [tellM, if_pos h1]
    rw [e]
    exact ⟨h.enc, fun _ => told8_again _ _ (Nat.le_refl _), fun h2 => by simp only at h2; omega, fun h2 => by simp only at h2; omega, fun h2 => by simp only at h2; omega, told8_rest _, h.sg, h.nk, h.ns⟩
  · have e : tellM d b = ((told16 (d.enc == 3) (d.rest ++ b)).1, { d with rest := (told16 (d.enc == 3) (d.rest ++ b)).2 }) := by rw [tellM, if_neg (by omega), if_pos h1]
    rw [e]
    exact ⟨h.enc, fun h2 => by simp only at h2; omega, fun _ => told16_again _ _ _ (Nat.le_refl _), fun h2 => by simp only at h2; omega, fun h2 => by simp only at h2; omega, (told16_len _ _ _ (Nat.le_refl _)).2, h.sg, h.nk, h.ns⟩
  · have e : tellM d b = (allE d.enc (d.rest ++ b), d) := by rw [tellM, if_neg (by omega), if_neg (by omega), if_neg (by omega), if_neg (by omega)]
    rw [e]; exact h
  · have e : tellM d b = ((toldK false d.signs d.fresh (d.rest ++ b)).1, { d with signs := (toldK false d.signs d.fresh (d.rest ++ b)).2.1, fresh := (toldK false d.signs d.fresh (d.rest ++ b)).2.2.1, rest := (toldK false d.signs d.fresh (d.rest ++ b)).2.2.2 }) := by rw [tellM, if_neg (by omega), if_neg (by omega), if_pos h1]
    rw [e]
    have hr := (toldK_rest false _ (d.rest ++ b) d.signs d.fresh (Nat.le_refl _)).2
    have hr2 : (toldK false d.signs d.fresh (d.rest ++ b)).2.2.2 = [] ∨ (toldK false d.signs d.fresh (d.rest ++ b)).2.2.2 = [27] ∨ (toldK false d.signs d.fresh (d.rest ++ b)).2.2.2 = [27, 40] := by
      rcases hr with hr | ⟨_, t, ht, hr⟩
      · exact .inl hr
      · simp only [waitK, decide_eq_true_eq] at ht
        rcases ht with rfl | rfl
        · exact .inr (.inl hr)
        · exact .inr (.inr hr)
    refine ⟨h.enc, fun h2 => by simp only at h2; omega, fun h2 => by simp only at h2; omega, fun _ => hr2, fun h2 => by simp only at h2; omega, ?_, toldK_signs false _ _ _ _ (Nat.le_refl _) h.sg, fun h2 => absurd h1 h2, h.ns⟩
    rcases hr2 with hr2 | hr2 | hr2 <;> simp [hr2]
  · have e : tellM d b = (if d.stopped = true ∨ d.rest ++ b = [] then ([], d) else ([65533], { d with stopped := true })) := by rw [tellM, if_neg (by omega), if_neg (by omega), if_neg (by omega), if_pos h1]
    rw [e]
    split
    · exact h
    · exact ⟨h.enc, h.r8, h.r16, h.rk, h.rn, h.len, h.sg, h.nk, fun h2 => absurd h1 h2⟩
/-- Two parts: the second one goes on where the first one stopped. -/
theorem tell_app (d : St) (h : Right d) (a b : Bs) : tellM d (a ++ b) = ((tellM d a).1 ++ (tellM (tellM d a).2 b).1, (tellM (tellM d a).2 b).2) := by
  rcases enc_cases d.enc h.enc with h1 | h1 | h1 | h1 | h1
  · have e : ∀ b, tellM d b = ((told8 (d.rest ++ b)).1, { d with rest := (told8 (d.rest ++ b)).2 }) := fun b => by rw [tellM, if_pos h1]
    rw [e a, e (a ++ b), tellM, if_pos (by exact h1), ← List.append_assoc, told8_app _ (d.rest ++ a) b (Nat.le_refl _)]
  · have e : ∀ b, tellM d b = ((told16 (d.enc == 3) (d.rest ++ b)).1, { d with rest := (told16 (d.enc == 3) (d.rest ++ b)).2 }) := fun b => by rw [tellM, if_neg (by omega), if_pos h1]
    rw [e a, e (a ++ b), tellM, if_neg (by simp only; omega), if_pos (by exact h1), ← List.append_assoc, told16_app _ _ (d.rest ++ a) b (Nat.le_refl _)]
  · have e : ∀ b, tellM d b = (allE d.enc (d.rest ++ b), d) := fun b => by rw [tellM, if_neg (by omega), if_neg (by omega), if_neg (by omega), if_neg (by omega)]
    rw [e a, e (a ++ b)]
    simp only
    rw [e b, h.rn (by omega), List.nil_append, List.nil_append, List.nil_append]
    have e2 : ∀ s, allE d.enc s = decodeS (d.enc == 5) s := fun s => by rw [allE, if_neg (by omega), if_neg (by omega), if_pos h1]
    rw [e2, e2, e2, decodeS, List.map_append]
    rfl
  · have e : ∀ b, tellM d b = ((toldK false d.signs d.fresh (d.rest ++ b)).1, { d with signs := (toldK false d.signs d.fresh (d.rest ++ b)).2.1, fresh := (toldK false d.signs d.fresh (d.rest ++ b)).2.2.1, rest := (toldK false d.signs d.fresh (d.rest ++ b)).2.2.2 }) := fun b => by rw [tellM, if_neg (by omega), if_neg (by omega), if_pos h1]
    rw [e a, e (a ++ b), tellM, if_neg (by simp only; omega), if_neg (by simp only; omega), if_pos (by exact h1), ← List.append_assoc, toldK_app false _ (d.rest ++ a) b _ _ (Nat.le_refl _)]
  · have e : ∀ d : St, d.enc = 7 → ∀ b, tellM d b = (if d.stopped = true ∨ d.rest ++ b = [] then ([], d) else ([65533], { d with stopped := true })) := fun d h1 b => by rw [tellM, if_neg (by omega), if_neg (by omega), if_neg (by omega), if_pos h1]
    have hr := h.rn (by omega)
    by_cases ha : a = []
    · subst ha
      rw [List.nil_append, e d h1 [], if_pos (.inr (by rw [hr]; rfl))]
      rfl
    · by_cases hs : d.stopped = true
      · rw [e d h1 (a ++ b), e d h1 a, if_pos (.inl hs), if_pos (.inl hs), e d h1 b, if_pos (.inl hs)]
        rfl
      · rw [e d h1 (a ++ b), e d h1 a, if_neg (by simp [hs, ha]), if_neg (by simp [hs, ha])]
        simp only
        rw [e { d with stopped := true } h1 b, if_pos (.inl rfl)]
        rfl
theorem endM_nil (d : St) (h : d.rest = []) : endM d = [] := by rw [endM, if_pos h]
theorem endM_one (d : St) (h : d.rest ≠ []) (h2 : d.enc ≠ 6) : endM d = [65533] := by rw [endM, if_neg h, if_neg h2]
theorem endM_k (d : St) (h2 : d.enc = 6) : endM d = (toldK true d.signs d.fresh d.rest).1 := by
  by_cases h : d.rest = []
  · rw [endM_nil d h, h, toldK_nil]
  · rw [endM, if_neg h, if_pos h2]
/-- What is told of all bytes at once. -/
theorem raw_all (n : Int) (h : isEnc n = true) (s : Bs) : (rawM (opn n) s true).1 = allE n s := by
  rw [rawM, if_pos rfl]
  obtain ⟨t1, t2, t3, t4, t5⟩ := tell_opn n s
  rcases enc_cases n h with h1 | h1 | h1 | h1 | h1
  · rw [t1 h1, allE, if_pos h1, all8]
    by_cases hr : (told8 s).2 = []
    · rw [endM_nil _ hr, if_pos hr]; simp
    · rw [endM_one _ hr (by simp only [opn]; omega), if_neg hr]
  · rw [t2 h1, allE, if_neg (by omega), if_pos h1, all16]
    by_cases hr : (told16 (n == 3) s).2 = []
    · rw [endM_nil _ hr, if_pos hr]; simp
    · rw [endM_one _ hr (by simp only [opn]; omega), if_neg hr]
  · rw [t3 h1, allE, if_neg (by omega), if_neg (by omega), if_pos h1, endM_nil _ rfl]
    simp
  · rw [t4 h1, allE, if_neg (by omega), if_neg (by omega), if_neg (by omega), if_pos h1, allK, endM_k _ h1]
    have := toldK_app true _ s [] 0 false (Nat.le_refl _)
    rw [List.append_nil, List.append_nil] at this
    rw [this]
  · have ea : allE n s = if s = [] then [] else [65533] := by rw [allE, if_neg (by omega), if_neg (by omega), if_neg (by omega), if_neg (by omega)]
    rw [t5 h1, ea]
    by_cases hs : s = []
    · rw [if_pos hs, if_pos hs, endM_nil _ rfl]; rfl
    · rw [if_neg hs, if_neg hs, endM_nil _ rfl]; rfl
/-- Pieces. -/
theorem raw_app (d : St) (h : Right d) (a b : Bs) (last : Bool) : rawM d (a ++ b) last = ((rawM d a false).1 ++ (rawM (rawM d a false).2 b last).1, (rawM (rawM d a false).2 b last).2) := by
  have e := tell_app d h a b
  simp only [rawM, if_neg (show ¬ (false = true) by decide)]
  cases last
  · simp only [if_neg (show ¬ (false = true) by decide)]; exact e
  · simp only [if_true, e, tell_enc, List.append_assoc]
theorem right_raw (d : St) (b : Bs) (last : Bool) (h : Right d) : Right (rawM d b last).2 := by
  unfold rawM
  split
  · exact right_opn _ h.enc
  · exact right_tell d b h
theorem raw_enc (d : St) (b : Bs) (last : Bool) : (rawM d b last).2.enc = d.enc := by
  unfold rawM
  split
  · rfl
  · exact tell_enc d b
theorem raw_last (d : St) (b : Bs) : (rawM d b true).2 = opn d.enc := by rw [rawM, if_pos rfl]
/-- The document's way to feed: what is left is told as one Bad. -/
def refM (d : St) (b : Bs) (last : Bool) : List Int × St :=
  let s := d.rest ++ b
  let r : List Int × Int × Bool × Bool × Bs :=
    if d.enc = 1 then ((told8 s).1, d.signs, d.fresh, d.stopped, (told8 s).2)
    else if d.enc = 2 ∨ d.enc = 3 then ((told16 (d.enc == 3) s).1, d.signs, d.fresh, d.stopped, (told16 (d.enc == 3) s).2)
    else if d.enc = 4 ∨ d.enc = 5 then (decodeS (d.enc == 5) s, d.signs, d.fresh, d.stopped, [])
    else if d.enc = 6 then ((toldK last d.signs d.fresh s).1, (toldK last d.signs d.fresh s).2.1, (toldK last d.signs d.fresh s).2.2.1, d.stopped, (toldK last d.signs d.fresh s).2.2.2)
    else if d.enc = 7 ∧ s ≠ [] ∧ d.stopped = false then ([65533], d.signs, d.fresh, true, [])
    else ([], d.signs, d.fresh, d.stopped, [])
  if last = true then (if r.2.2.2.2 = [] then r.1 else r.1 ++ [65533], opn d.enc) else (r.1, ⟨d.enc, r.2.2.2.2, r.2.1, r.2.2.1, r.2.2.2.1⟩)
theorem ref_raw (d : St) (h : Right d) (b : Bs) (last : Bool) : refM d b last = rawM d b last := by
  rcases enc_cases d.enc h.enc with h1 | h1 | h1 | h1 | h1
  · have e : tellM d b = ((told8 (d.rest ++ b)).1, { d with rest := (told8 (d.rest ++ b)).2 }) := by rw [tellM, if_pos h1]
    simp only [refM, if_pos h1, rawM, e]
    cases last
    · rfl
    · simp only [if_true, Prod.mk.injEq, and_true]
      by_cases hr : (told8 (d.rest ++ b)).2 = []
      · rw [endM_nil _ hr, if_pos hr]; simp
      · rw [endM_one _ hr (by simp only; omega), if_neg hr]
  · have e : tellM d b = ((told16 (d.enc == 3) (d.rest ++ b)).1, { d with rest := (told16 (d.enc == 3) (d.rest ++ b)).2 }) := by rw [tellM, if_neg (by omega), if_pos h1]
    simp only [refM, if_neg (show ¬ d.enc = 1 by omega), if_pos h1, rawM, e]
    cases last
    · rfl
    · simp only [if_true, Prod.mk.injEq, and_true]
      by_cases hr : (told16 (d.enc == 3) (d.rest ++ b)).2 = []
      · rw [endM_nil _ hr, if_pos hr]; simp
      · rw [endM_one _ hr (by simp only; omega), if_neg hr]
  · have e : tellM d b = (allE d.enc (d.rest ++ b), d) := by rw [tellM, if_neg (by omega), if_neg (by omega), if_neg (by omega), if_neg (by omega)]
    have e2 : ∀ s, allE d.enc s = decodeS (d.enc == 5) s := fun s => by rw [allE, if_neg (by omega), if_neg (by omega), if_pos h1]
    have hr := h.rn (by omega)
    simp only [refM, if_neg (show ¬ d.enc = 1 by omega), if_neg (show ¬ (d.enc = 2 ∨ d.enc = 3) by omega), if_pos h1, rawM, e, e2]
    cases last
    · obtain ⟨n, r, g, f, s⟩ := d
      simp only at hr
      subst hr
      rfl
    · rw [endM_nil d hr]; simp
  · have e : tellM d b = ((toldK false d.signs d.fresh (d.rest ++ b)).1, { d with signs := (toldK false d.signs d.fresh (d.rest ++ b)).2.1, fresh := (toldK false d.signs d.fresh (d.rest ++ b)).2.2.1, rest := (toldK false d.signs d.fresh (d.rest ++ b)).2.2.2 }) := by rw [tellM, if_neg (by omega), if_neg (by omega), if_pos h1]
    simp only [refM, if_neg (show ¬ d.enc = 1 by omega), if_neg (show ¬ (d.enc = 2 ∨ d.enc = 3) by omega), if_neg (show ¬ (d.enc = 4 ∨ d.enc = 5) by omega), if_pos h1, rawM, e]
    cases last
    · rfl
    · have hl := toldK_app true _ (d.rest ++ b) [] d.signs d.fresh (Nat.le_refl _)
      rw [List.append_nil, List.append_nil] at hl
      have hr : (toldK true d.signs d.fresh (d.rest ++ b)).2.2.2 = [] := by
        rcases (toldK_rest true _ (d.rest ++ b) d.signs d.fresh (Nat.le_refl _)).2 with h2 | ⟨h2, _⟩
        · exact h2
        · cases h2
      simp only [if_true, hr, Prod.mk.injEq, and_true]
      rw [endM_k _ (by exact h1), hl]
  · have e : tellM d b = (if d.stopped = true ∨ d.rest ++ b = [] then ([], d) else ([65533], { d with stopped := true })) := by rw [tellM, if_neg (by omega), if_neg (by omega), if_neg (by omega), if_pos h1]
    have hr := h.rn (by omega)
    simp only [refM, if_neg (show ¬ d.enc = 1 by omega), if_neg (show ¬ (d.enc = 2 ∨ d.enc = 3) by omega), if_neg (show ¬ (d.enc = 4 ∨ d.enc = 5) by omega), if_neg (show ¬ d.enc = 6 by omega), rawM, e]
    obtain ⟨n, r, g, f, s⟩ := d
    simp only at hr h1
    subst hr
    subst h1
    by_cases hb : b = [] <;> cases s <;> cases last <;> simp [hb, endM, opn]
end Go.Proofs.YteingkjdemlhgaaGreatDoor.M

/-
  Plain laws on encodings of a byte a sign.
-/
namespace Go.Proofs.YteingkjdemlhgaaGreatDoor.M
open Go
theorem idx_found (xs : List Int) (n : Int) (k : Nat) (h : xs[k]? = some n) (hno : ∀ j, j < k → xs[j]? ≠ some n) : idx xs n = k := by
  have : xs.findIdx? (fun x => x == n) = some k := by
    rw [List.findIdx?_eq_some_iff_getElem]
    obtain ⟨hk, he⟩ := List.getElem?_eq_some_iff.1 h
    refine ⟨hk, by simp [he], fun j hj => ?_⟩
    have hjl : j < xs.length := by omega
    have := hno j hj
    rw [List.getElem?_eq_getElem hjl] at this
    simpa using this
  rw [idx, this]
theorem idx_none (xs : List Int) (n : Int) (hno : ∀ j, j < xs.length → xs[j]? ≠ some n) : idx xs n = -1 := by
  have : xs.findIdx? (fun x => x == n) = none := by
    rw [List.findIdx?_eq_none_iff]
    intro x hx
    obtain ⟨j, hj, rfl⟩ := List.getElem_of_mem hx
    have := hno j hj
    rw [List.getElem?_eq_getElem hj] at this
    simpa using this
  rw [idx, this]
theorem idx_cases (xs : List Int) (n : Int) : (idx xs n = -1 ∧ ∀ j, j < xs.length → xs[j]? ≠ some n) ∨ ∃ k : Nat, idx xs n = k ∧ xs[k]? = some n ∧ ∀ j, j < k → xs[j]? ≠ some n := by
  by_cases h : ∃ k : Nat, xs[k]? = some n
  · have h2 : ∃ k : Nat, xs[k]? = some n ∧ ∀ j, j < k → xs[j]? ≠ some n := by
      obtain ⟨k, hk⟩ := h
      induction k using Nat.strongRecOn with
      | _ k ih =>
        by_cases h3 : ∃ j : Nat, j < k ∧ xs[j]? = some n
        · obtain ⟨j, hj, hh⟩ := h3
          exact ih j hj hh
        · exact ⟨k, hk, fun j hj hh => h3 ⟨j, hj, hh⟩⟩
    obtain ⟨k, hk, hno⟩ := h2
    exact .inr ⟨k, idx_found xs n k hk hno, hk, hno⟩
  · have hno : ∀ j, j < xs.length → xs[j]? ≠ some n := fun j _ hh => h ⟨j, hh⟩
    exact .inl ⟨idx_none xs n hno, hno⟩
end Go.Proofs.YteingkjdemlhgaaGreatDoor.M

/-
  The map from code points to bytes that an encoder fills.
-/
namespace Go.Proofs.YteingkjdemlhgaaGreatDoor.M
open Go
theorem table_nodup : ∀ user, (tableOf user).Nodup := by decide +kernel
theorem pointOf_inj (user : Bool) (i j : Nat) (hi : i < 256) (hj : j < 256) (h : pointOf user i = pointOf user j) : i = j := by
  have hl : (tableOf user).length = 256 := by simp [tableOf]
  have h1 : (tableOf user)[i]'(by omega) = (tableOf user)[j]'(by omega) := by simpa [tableOf] using h
  exact (List.getElem_inj (table_nodup user)).1 h1
def Dk (user : Bool) : Nat → DataW Unit
  | 0 => .map []
  | k + 1 => (Dk user k).put (.int .i64 (pointOf user k)) (.lit (.int .i64 (k : Int)))
theorem key (n : Int) : WideAt.IsKeyLit (.int .i64 n) := by simp [WideAt.IsKeyLit]
theorem Dk_isMap (user : Bool) (k : Nat) : Maps.IsMap (Dk user k) := by
  cases k with
  | zero => exact Maps.isMap_empty
  | succ k => 
    induction k with
    | zero => exact Maps.isMap_empty.put _ _
    | succ k ih => exact ih.put _ _
theorem Dk_miss (user : Bool) (n : Int) : ∀ k, (∀ j, j < k → pointOf user j ≠ n) → Maps.has (Dk user k) (.int .i64 n) = false
  | 0, _ => rfl
  | k + 1, h => by
    rw [Dk, Maps.has_put_other (by intro e; injection e with _ e; exact h k (by omega) e.symm)]
    exact Dk_miss user n k (fun j hj => h j (by omega))
theorem Dk_hit (user : Bool) (n : Int) (j : Nat) (hn : pointOf user j = n) : ∀ k, k ≤ 256 → j < k → Maps.has (Dk user k) (.int .i64 n) = true ∧ ∀ z, (Dk user k).atKey (.int .i64 n) z = .lit (.int .i64 (j : Int))
  | 0, _, h => by omega
  | k + 1, hk, h => by
    by_cases e : j = k
    · subst e
      subst hn
      rw [Dk]
      exact ⟨Maps.has_put_same (Dk_isMap user _) (key _) _, fun z => Maps.atKey_put_same (Dk_isMap user _) (key _) _ z⟩
    · have hne : (Lit.int .i64 n) ≠ .int .i64 (pointOf user k) := by
        intro e2; injection e2 with _ e2
        exact e (pointOf_inj user j k (by omega) (by omega) (hn.trans e2))
      obtain ⟨h1, h2⟩ := Dk_hit user n j hn k (by omega) (by omega)
      rw [Dk]
      exact ⟨by rw [Maps.has_put_other hne]; exact h1, fun z => by rw [Maps.atKey_put_other hne]; exact h2 z⟩
/-- What a code point's byte is, and that there is one. -/
theorem byteOf_cases (user : Bool) (n : Int) : (byteOf user n = -1 ∧ ∀ j, j < 256 → pointOf user j ≠ n) ∨ ∃ j : Nat, j < 256 ∧ byteOf user n = j ∧ pointOf user j = n := by
  have hl : (tableOf user).length = 256 := by simp [tableOf]
  have ht : ∀ k, k < 256 → (tableOf user)[k]? = some (pointOf user k) := fun k hk => by simp [tableOf, hk]
  rcases idx_cases (tableOf user) n with ⟨h1, h2⟩ | ⟨k, h1, h2, _⟩
  · exact .inl ⟨h1, fun j hj e => h2 j (by omega) (by rw [ht j hj, e])⟩
  · have hk : k < 256 := by
      have := (List.getElem?_eq_some_iff.1 h2).1
      omega
    rw [ht k hk] at h2
    injection h2 with h2
    exact .inr ⟨k, hk, h1, h2⟩
theorem encodeS_append (user : Bool) (l m : List Int) : encodeS user (l ++ m) = match encodeS user l, encodeS user m with | some a, some b => some (a ++ b) | _, _ => none := by
  induction l with
  | nil => simp only [List.nil_append, encodeS]; cases encodeS user m <;> simp
  | cons n l ih =>
    simp only [List.cons_append, encodeS]
    split
    · rfl
    · rw [ih]
      cases encodeS user l <;> cases encodeS user m <;> simp
theorem encodeS_hit (user : Bool) (xs : List Int) (k : Nat) (n : Int) (j : Nat) (l : Bs) (hx : xs[k]? = some n) (hb : byteOf user n = j) (h : encodeS user (xs.take k) = some l) : encodeS user (xs.take (k + 1)) = some (l ++ [UInt8.ofNat j]) := by
  rw [List.take_add_one, hx, encodeS_append, h]
  have : ¬ ((j : Int) < 0) := by omega
  simp [encodeS, hb, this]
theorem encodeS_miss (user : Bool) (xs : List Int) (k : Nat) (n : Int) (hx : xs[k]? = some n) (hb : byteOf user n = -1) : encodeS user xs = none := by
  have hk := (List.getElem?_eq_some_iff.1 hx).1
  have : xs = xs.take k ++ (n :: xs.drop (k + 1)) := by
    have h2 : xs[k] = n := (List.getElem?_eq_some_iff.1 hx).2
    rw [← h2, ← List.drop_eq_getElem_cons hk, List.take_append_drop]
  rw [this, encodeS_append]
  simp [encodeS, hb]
theorem rawS_cases (user : Bool) (xs : List Int) : rawS user xs = ([], 5) ∨ ∃ l, rawS user xs = (l, 0) := by
  unfold rawS
  cases encodeS user xs with
  | none => exact .inl rfl
  | some l => exact .inr ⟨l, rfl⟩
end Go.Proofs.YteingkjdemlhgaaGreatDoor.M

/-
  Code points as bytes, in plain functions and laws.
-/
namespace Go.Proofs.YteingkjdemlhgaaGreatDoor.M
open Go
def outE (n : Int) : Int := if n = 2 ∨ n = 3 ∨ n = 7 then 1 else n
def hasE (e n : Int) : Bool := if e = 4 ∨ e = 5 then decide (0 ≤ byteOf (e == 5) n) else if e = 6 then hasK n else true
def numE (n : Int) : Bs := [38, 35] ++ Lib.itoa n ++ [59]
def toldE (e : Int) (l : List Int) : List Int := l.flatMap (fun n => if hasE e n = true then [n] else (numE n).map (fun c => (c.toNat : Int)))
def writeE (e : Int) (l : List Int) : Bs × Int := if e = 4 ∨ e = 5 then rawS (e == 5) l else if e = 6 then rawK l else (bytes8 l, 0)
def outputE (n : Int) : Int × Int := if isEnc n = true then (outE n, 0) else (0, 6)
def hasEE (e n : Int) : Bool × Int := if isEnc e = false then (false, 6) else if scalar n = false then (false, 3) else (hasE (outE e) n, 0)
def encE (e mode : Int) (l : List Int) : Bs × Int :=
  if isEnc e = false then ([], 6) else if mode ≠ 0 ∧ mode ≠ 1 then ([], 4) else if points l ≠ 0 then ([], points l)
  else writeE (outE e) (if mode = 1 then toldE (outE e) l else l)
def toldR (e mode : Int) (l : List Int) : List Int := l.flatMap (fun n => if mode = 0 ∨ hasE e n = true then [n] else (numE n).map (fun c => (c.toNat : Int)))
theorem hasE_out (e n : Int) (h : isEnc e = true) : hasE (outE e) n = hasE e n := by
  rcases enc_cases e h with h1 | h1 | h1 | h1 | h1
  · subst h1; rfl
  · rw [outE, if_pos (by omega), hasE, if_neg (by omega), if_neg (by omega), hasE, if_neg (by omega), if_neg (by omega)]
  · rw [outE, if_neg (by omega)]
  · rw [outE, if_neg (by omega)]
  · rw [outE, if_pos (by omega), hasE, if_neg (by omega), if_neg (by omega), hasE, if_neg (by omega), if_neg (by omega)]
theorem toldR_eq (e mode : Int) (l : List Int) (h : isEnc e = true) (hm : mode = 0 ∨ mode = 1) : toldR e mode l = if mode = 1 then toldE (outE e) l else l := by
  rcases hm with rfl | rfl
  · rw [if_neg (by decide)]
    unfold toldR
    simp
  · rw [if_pos rfl]
    unfold toldR toldE
    congr 1
    funext n
    rw [hasE_out e n h]
    simp
/-! ## What is told can be written -/
theorem dec_digits (u : Nat) : ∀ c ∈ Lib.decDigits u, 48 ≤ c.toNat ∧ c.toNat ≤ 57 := by
  induction u using Nat.strongRecOn with
  | _ u ih =>
    rw [Lib.decDigits]
    split
    · intro c hc
      simp only [List.mem_singleton] at hc
      subst hc
      rw [UInt8.toNat_ofNat_of_lt' (show 48 + u < 256 by omega)]; omega
    · intro c hc
      rw [List.mem_append] at hc
      rcases hc with hc | hc
      · exact ih (u / 10) (by omega) c hc
      · simp only [List.mem_singleton] at hc
        subst hc
        rw [UInt8.toNat_ofNat_of_lt' (show 48 + u % 10 < 256 by omega)]; omega
theorem numE_plain (n : Int) (h : 0 ≤ n) : ∀ c ∈ numE n, 35 ≤ c.toNat ∧ c.toNat ≤ 59 := by
  intro c hc
  unfold numE at hc
  simp only [List.mem_append, List.mem_cons, List.not_mem_nil, or_false] at hc
  rcases hc with ((rfl | rfl) | hc) | rfl
  · decide
  · decide
  · rw [Lib.itoa, if_neg (by omega)] at hc
    have := dec_digits _ c hc; omega
  · decide
theorem byteOf_plain (user : Bool) (c : Nat) (h : c < 128) : byteOf user (c : Int) = (c : Int) := by
  have hp : pointOf user c = (c : Int) := by rw [pointOf, if_pos h]
  rcases byteOf_cases user (c : Int) with ⟨_, h2⟩ | ⟨j, hj, h1, h2⟩
  · exact absurd hp (h2 c (by omega))
  · rw [h1, pointOf_inj user j c hj (by omega) (h2.trans hp.symm)]
theorem hasE_plain (e : Int) (c : Nat) (h : 35 ≤ c ∧ c ≤ 122 ∧ c ≠ 92) : hasE e (c : Int) = true := by
  unfold hasE
  split
  · rw [byteOf_plain _ c (by omega), decide_eq_true_eq]; omega
  · split
    · rw [hasK, decide_eq_true_eq, findK, if_pos (by rw [byteK_plain c (by omega)]; omega)]; exact Int.le_refl _
    · rfl
theorem toldE_has (e : Int) (l : List Int) (h : ∀ n ∈ l, 0 ≤ n) : ∀ n ∈ toldE e l, hasE e n = true := by
  intro n hn
  unfold toldE at hn
  rw [List.mem_flatMap] at hn
  obtain ⟨m, hm, hn⟩ := hn
  split at hn
  · simp only [List.mem_singleton] at hn; subst hn; assumption
  · rw [List.mem_map] at hn
    obtain ⟨c, hc, rfl⟩ := hn
    have := numE_plain m (h m hm) c hc
    exact hasE_plain e c.toNat (by omega)
theorem encodeS_some (user : Bool) : ∀ l : List Int, (∀ n ∈ l, 0 ≤ byteOf user n) → ∃ b, encodeS user l = some b ∧ b.length = l.length
  | [], _ => ⟨[], rfl, rfl⟩
  | n :: l, h => by
    obtain ⟨b, hb, hl⟩ := encodeS_some user l (fun m hm => h m (by simp [hm]))
    have hn := h n (by simp)
    exact ⟨_, by rw [encodeS, if_neg (by omega), hb]; rfl, by simp [hl]⟩
theorem hasK_find (now n : Int) (h : hasK n = true) (hn : now = 0 ∨ now = 1 ∨ now = 2) : 0 ≤ findK now n := by
  rw [hasK, decide_eq_true_eq] at h
  unfold findK at h ⊢
  (repeat' split at h) <;> (repeat' split) <;> omega
theorem encK_some : ∀ (l : List Int) (now : Int), (now = 0 ∨ now = 1 ∨ now = 2) → (∀ n ∈ l, hasK n = true) → ∃ b, encK now l = some b
  | [], now, _, _ => ⟨_, rfl⟩
  | n :: l, now, hn, h => by
    have h1 := hasK_find now n (h n (by simp)) hn
    rcases findK_cases now n with h2 | ⟨h2, _⟩
    · omega
    · obtain ⟨b, hb⟩ := encK_some l (findK now n) (by omega) (fun m hm => h m (by simp [hm]))
      exact ⟨_, by rw [encK, if_neg (by omega), hb]; rfl⟩
theorem writeE_ok (e : Int) (l : List Int) (h : ∀ n ∈ l, hasE e n = true) : (writeE e l).2 = 0 := by
  unfold writeE
  split
  · rename_i he
    obtain ⟨b, hb, _⟩ := encodeS_some (e == 5) l (fun n hn => by have := h n hn; rw [hasE, if_pos he, decide_eq_true_eq] at this; exact this)
    rw [rawS, hb]
  · split
    · rename_i he2 he
      obtain ⟨b, hb⟩ := encK_some l 0 (.inl rfl) (fun n hn => by have := h n hn; rw [hasE, if_neg he2, if_pos he] at this; exact this)
      rw [rawK, hb]
    · rfl
theorem toldE_all (e : Int) (l : List Int) (h : l.all (hasE e) = true) : toldE e l = l := by
  induction l with
  | nil => rfl
  | cons n l ih =>
    rw [List.all_cons, Bool.and_eq_true] at h
    show (if hasE e n = true then [n] else _) ++ toldE e l = _
    rw [if_pos h.1, ih h.2]; rfl
theorem toldE_app (e : Int) (l m : List Int) : toldE e (l ++ m) = toldE e l ++ toldE e m := by unfold toldE; rw [List.flatMap_append]
/-- What is written is read as it was. -/
theorem decodeS_encode (user : Bool) : ∀ (l : List Int) (b : Bs), encodeS user l = some b → decodeS user b = l
  | [], b, h => by injection h with h; subst h; rfl
  | n :: l, b, h => by
    rw [encodeS] at h
    split at h
    · cases h
    · rename_i hn
      cases hr : encodeS user l with
      | none => rw [hr] at h; cases h
      | some r =>
        rw [hr] at h
        injection h with h
        subst h
        rcases byteOf_cases user n with ⟨h1, _⟩ | ⟨j, hj, h1, h2⟩
        · omega
        · have := decodeS_encode user l r hr
          unfold decodeS at this ⊢
          rw [List.map_cons, this, h1, Int.toNat_natCast, UInt8.toNat_ofNat_of_lt' (show j < 256 by omega), h2]
theorem allE_write (e : Int) (l : List Int) (b : Bs) (he : e = 1 ∨ e = 4 ∨ e = 5 ∨ e = 6) (hl : ∀ n ∈ l, scalar n = true) (h : writeE e l = (b, 0)) : allE e b = l := by
  unfold writeE at h
  rcases he with rfl | he
  · rw [if_neg (by decide), if_neg (by decide)] at h
    simp only [Prod.mk.injEq, and_true] at h
    subst h
    rw [allE, if_pos rfl, all8_bytes l hl]
  · by_cases h1 : e = 4 ∨ e = 5
    · rw [if_pos h1, rawS] at h
      rw [allE, if_neg (by omega), if_neg (by omega), if_pos h1]
      cases hr : encodeS (e == 5) l with
      | none => rw [hr] at h; cases h
      | some r =>
        rw [hr] at h
        simp only [Prod.mk.injEq, and_true] at h
        subst h
        exact decodeS_encode _ l r hr
    · rw [if_neg h1, if_pos (by omega), rawK] at h
      rw [allE, if_neg (by omega), if_neg (by omega), if_neg (by omega), if_pos (by omega)]
      cases hr : encK 0 l with
      | none => rw [hr] at h; cases h
      | some r =>
        rw [hr] at h
        simp only [Prod.mk.injEq, and_true] at h
        subst h
        exact (allK_enc l r hr).1
theorem outE_cases (n : Int) (h : isEnc n = true) : outE n = 1 ∨ outE n = 4 ∨ outE n = 5 ∨ outE n = 6 := by
  unfold outE
  simp only [isEnc, decide_eq_true_eq] at h
  split <;> omega
theorem outE_enc (n : Int) (h : isEnc n = true) : isEnc (outE n) = true := by
  have := outE_cases n h
  simp only [isEnc, decide_eq_true_eq]; omega
end Go.Proofs.YteingkjdemlhgaaGreatDoor.M

/-
  Plain laws on marks.
-/
namespace Go.Proofs.YteingkjdemlhgaaGreatDoor.M
open Go
theorem sniff_app (l m : Bs) (n k : Int) (h : sniff l = (n, k)) (hn : n ≠ 0) : sniff (l ++ m) = (n, k) ∧ may l = false := by
  match l with
  | [] => simp [sniff, Lib.hasPrefix] at h; omega
  | [a] => simp [sniff, Lib.hasPrefix] at h; omega
  | [a, b] =>
    by_cases h2 : 254 = a ∧ 255 = b
    · obtain ⟨rfl, rfl⟩ := h2
      have e : (n, k) = (3, 2) := by rw [← h]; decide
      rw [e]
      exact ⟨by simp [sniff, Lib.hasPrefix, List.isPrefixOf], by decide⟩
    · by_cases h3 : 255 = a ∧ 254 = b
      · obtain ⟨rfl, rfl⟩ := h3
        have e : (n, k) = (2, 2) := by rw [← h]; decide
        rw [e]
        exact ⟨by simp [sniff, Lib.hasPrefix, List.isPrefixOf], by decide⟩
      · simp [sniff, Lib.hasPrefix, List.isPrefixOf, h2, h3] at h
        omega
  | a :: b :: c :: t =>
    simp only [sniff, may, Lib.hasPrefix, List.isPrefixOf, List.cons_append, List.length_cons] at h ⊢
    refine ⟨h, ?_⟩
    simp only [Bool.or_eq_false_iff, Bool.and_eq_false_iff, decide_eq_false_iff_not]
    exact ⟨⟨.inl (by omega), .inl (by omega)⟩, .inl (by omega)⟩
theorem sniff_none (l : Bs) (k : Int) (h : sniff l = (0, k)) : k = 0 := by
  unfold sniff at h
  split at h
  · simp at h
  · split at h
    · simp at h
    · split at h
      · simp at h
      · simp at h; exact h.symm
theorem sniff_more (l m : Bs) (k : Int) (h : sniff l = (0, k)) (hm : may l = false) : sniff (l ++ m) = (0, 0) := by
  have hk := sniff_none l k h
  subst hk
  match l with
  | [] => simp [may, Lib.hasPrefix] at hm
  | [a] =>
    have h1 : ¬ 239 = a := by rintro rfl; revert hm; decide
    have h2 : ¬ 254 = a := by rintro rfl; revert hm; decide
    have h3 : ¬ 255 = a := by rintro rfl; revert hm; decide
    match m with
    | [] => simpa using h
    | [b] => simp [sniff, Lib.hasPrefix, List.isPrefixOf, h2, h3]
    | b :: c :: t => simp [sniff, Lib.hasPrefix, List.isPrefixOf, h1, h2, h3]
  | [a, b] =>
    match m with
    | [] => simpa using h
    | c :: t =>
      have h1 : ¬ (239 = a ∧ 187 = b) := by rintro ⟨rfl, rfl⟩; revert hm; decide
      have h2 : ¬ (254 = a ∧ 255 = b) := by rintro ⟨rfl, rfl⟩; revert h; decide
      have h3 : ¬ (255 = a ∧ 254 = b) := by rintro ⟨rfl, rfl⟩; revert h; decide
      have h4 : ¬ (239 = a ∧ 187 = b ∧ 191 = c) := fun ⟨x, y, _⟩ => h1 ⟨x, y⟩
      simp [sniff, Lib.hasPrefix, List.isPrefixOf, h2, h3, h4]
  | a :: b :: c :: t =>
    simpa [sniff, Lib.hasPrefix] using h
end Go.Proofs.YteingkjdemlhgaaGreatDoor.M

/-
  The right encoding, and the whole, in plain functions and laws.
-/
namespace Go.Proofs.YteingkjdemlhgaaGreatDoor.M
open Go
structure Ft where
  label : Bs
  enc : Int
  why : Int
  wait : Bs
  state : St
def zst : St := ⟨0, [], 0, false, false⟩
def zft : Ft := ⟨[], 0, 0, [], zst⟩
def bgn (name : Bs) : Ft := ⟨name, 0, 0, [], zst⟩
def chosen (name s : Bs) : Int × Int × Int := if (sniff s).1 ≠ 0 then ((sniff s).1, 1, (sniff s).2) else if find name ≠ 0 then (find name, 2, 0) else if scanA s ≠ 0 then (scanA s, 3, 0) else (4, 4, 0)
def enough (name s : Bs) : Bool := decide ((sniff s).1 ≠ 0) || decide ((if find name ≠ 0 then 3 else 256) ≤ s.length)
def chooseE (name s : Bs) : Int × Int × Int × Int := if 3000 < name.length ∨ 3000 < s.length then (0, 0, 0, 2) else ((chosen name s).1, (chosen name s).2.1, (chosen name s).2.2, 0)
def emptySt (d : St) : Bool := decide (d.enc = 0) && decide (d.rest = []) && decide (d.signs = 0) && !d.fresh && !d.stopped
def checkF (f : Ft) : Int :=
  if 3000 < f.label.length ∨ 3000 < f.wait.length then 2
  else if f.enc ≠ 0 ∧ isEnc f.enc = false then 6
  else if f.why < 0 ∨ 4 < f.why ∨ (decide (f.why = 0) != decide (f.enc = 0)) = true then 4
  else if (f.why = 0 ∧ emptySt f.state = false) ∨ (f.why ≠ 0 ∧ (f.wait ≠ [] ∨ f.state.enc ≠ f.enc)) then 1
  else if f.why = 0 then (if enough f.label f.wait = true then 4 else 0)
  else checkM f.state
def rawF (f : Ft) (b : Bs) (last : Bool) : List Int × Ft :=
  if f.why = 0 then
    (if last = false ∧ enough f.label (f.wait ++ b) = false then ([], { f with wait := f.wait ++ b })
     else ((rawM (opn (chosen f.label (f.wait ++ b)).1) ((f.wait ++ b).drop (chosen f.label (f.wait ++ b)).2.2.toNat) last).1,
       { f with enc := (chosen f.label (f.wait ++ b)).1, why := (chosen f.label (f.wait ++ b)).2.1, wait := [], state := (rawM (opn (chosen f.label (f.wait ++ b)).1) ((f.wait ++ b).drop (chosen f.label (f.wait ++ b)).2.2.toNat) last).2 }))
  else ((rawM f.state b last).1, { f with state := (rawM f.state b last).2 })
def feedF (f : Ft) (b : Bs) (last : Bool) : List Int × Ft := ((rawF f b last).1, if last = true then bgn f.label else (rawF f b last).2)
def feedFE (f : Ft) (b : Bs) (last : Bool) : List Int × Ft × Int :=
  if checkF f = 0 then (if 3000 < b.length then ([], zft, 2) else ((feedF f b last).1, (feedF f b last).2, 0)) else ([], zft, checkF f)
def wholeM (name s : Bs) : List Int × Int × Int := (allE (chosen name s).1 (s.drop (chosen name s).2.2.toNat), (chosen name s).1, (chosen name s).2.1)
def decT (name s : Bs) : List Int × Int × Int × Int := if 3000 < name.length ∨ 3000 < s.length then ([], 0, 0, 2) else ((wholeM name s).1, (wholeM name s).2.1, (wholeM name s).2.2, 0)
def recT (name s : Bs) (e : Int) : Bs × Int :=
  if 3000 < name.length ∨ 3000 < s.length then ([], 2)
  else if (encE e 1 (wholeM name s).1).2 ≠ 0 then ([], (encE e 1 (wholeM name s).1).2) else (markOf (outE e) ++ (encE e 1 (wholeM name s).1).1, 0)
def badN (l : List Int) : Nat := (l.filter (fun n => n == 65533)).length
def farN (l : List Int) : Nat := (l.filter (fun n => decide (127 < n))).length
def countE (l : List Int) : Int × Int × Int := if points l ≠ 0 then (0, 0, points l) else ((badN l : Int), (farN l : Int), 0)
theorem sniff_cases (s : Bs) : sniff s = (0, 0) ∨ (sniff s = (1, 3) ∧ 3 ≤ s.length) ∨ (sniff s = (3, 2) ∧ 2 ≤ s.length) ∨ (sniff s = (2, 2) ∧ 2 ≤ s.length) := by
  have key : ∀ (p : Bs), Lib.hasPrefix s p = true → p.length ≤ s.length := fun p h => (List.isPrefixOf_iff_prefix.1 h).length_le
  unfold sniff
  split
  · rename_i h; exact .inr (.inl ⟨rfl, key _ h⟩)
  · split
    · rename_i h; exact .inr (.inr (.inl ⟨rfl, key _ h⟩))
    · split
      · rename_i h; exact .inr (.inr (.inr ⟨rfl, key _ h⟩))
      · exact .inl rfl
theorem scanA_range (s : Bs) : scanA s = 0 ∨ scanA s = 1 ∨ scanA s = 4 ∨ scanA s = 6 ∨ scanA s = 7 := scanF_range _ _
theorem chosen_ok (name s : Bs) : isEnc (chosen name s).1 = true ∧ 1 ≤ (chosen name s).2.1 ∧ (chosen name s).2.1 ≤ 4 ∧ 0 ≤ (chosen name s).2.2 ∧ (chosen name s).2.2 ≤ s.length ∧ (chosen name s).2.2 ≤ 3 := by
  have hf := find_range name
  have hs := scanA_range s
  have hsn := sniff_cases s
  unfold chosen
  split
  · rename_i h
    rcases hsn with e | ⟨e, h2⟩ | ⟨e, h2⟩ | ⟨e, h2⟩
    · rw [e] at h; exact absurd rfl h
    · rw [e]; refine ⟨by decide, ?_⟩; simp only; omega
    · rw [e]; refine ⟨by decide, ?_⟩; simp only; omega
    · rw [e]; refine ⟨by decide, ?_⟩; simp only; omega
  · split
    · refine ⟨by simp only [isEnc, decide_eq_true_eq]; omega, ?_⟩; simp only; omega
    · split
      · refine ⟨by simp only [isEnc, decide_eq_true_eq]; omega, ?_⟩; simp only; omega
      · refine ⟨by decide, ?_⟩; simp only; omega
theorem may_long (s : Bs) (h : 3 ≤ s.length) : may s = false := by
  unfold may
  rw [decide_eq_false (show ¬ s.length < 3 by omega), decide_eq_false (show ¬ s.length < 2 by omega)]
  rfl
/-- What is enough stays enough, and chooses the same. -/
theorem enough_app (name s t : Bs) (h : enough name s = true) : chosen name (s ++ t) = chosen name s ∧ enough name (s ++ t) = true := by
  have hf := find_range name
  by_cases h1 : (sniff s).1 = 0
  · have hl : (if find name ≠ 0 then 3 else 256) ≤ s.length := by
      unfold enough at h
      rw [Bool.or_eq_true, decide_eq_true_eq, decide_eq_true_eq] at h
      rcases h with h | h
      · exact absurd h1 h
      · exact h
    have h3 : 3 ≤ s.length := by split at hl <;> omega
    have hs0 : sniff s = (0, 0) := by
      rcases sniff_cases s with e | ⟨e, _⟩ | ⟨e, _⟩ | ⟨e, _⟩
      · exact e
      all_goals rw [e] at h1; exact absurd h1 (by decide)
    have hs1 := sniff_more s t 0 hs0 (may_long s h3)
    constructor
    · unfold chosen
      rw [hs0, hs1]
      simp only [ne_eq, not_true_eq_false, if_false]
      by_cases hn : find name = 0
      · have hscan : scanA (s ++ t) = scanA s := by
          rw [if_neg (by simp [hn])] at hl
          unfold scanA
          rw [List.take_append_of_le_length hl]
        rw [hscan]
      · rw [if_pos hn, if_pos hn]
    · unfold enough
      rw [Bool.or_eq_true, decide_eq_true_eq, decide_eq_true_eq]
      right
      rw [List.length_append]; omega
  · obtain ⟨e, _⟩ := sniff_app s t (sniff s).1 (sniff s).2 rfl h1
    constructor
    · unfold chosen
      rw [e, if_pos h1, if_pos h1]
    · unfold enough
      rw [e, Bool.or_eq_true, decide_eq_true_eq]
      exact .inl h1
/-- A front on the way: what has come so far is a. -/
def onWay (name a : Bs) : Ft :=
  if enough name a = false then ⟨name, 0, 0, a, zst⟩
  else ⟨name, (chosen name a).1, (chosen name a).2.1, [], (rawM (opn (chosen name a).1) (a.drop (chosen name a).2.2.toNat) false).2⟩
theorem onWay_nil (name : Bs) : onWay name [] = bgn name := by
  have : enough name [] = false := by
    unfold enough
    rw [show sniff [] = (0, 0) from rfl]
    split <;> rfl
  rw [onWay, if_pos this]; rfl
theorem why_ne (name s : Bs) : (chosen name s).2.1 ≠ 0 := by have := (chosen_ok name s).2.1; omega
theorem rawF_way (name a b : Bs) (last : Bool) :
    (rawF (onWay name a) b last).1 = (if enough name a = false then (if last = false ∧ enough name (a ++ b) = false then [] else (rawM (opn (chosen name (a ++ b)).1) ((a ++ b).drop (chosen name (a ++ b)).2.2.toNat) last).1)
      else (rawM (rawM (opn (chosen name a).1) (a.drop (chosen name a).2.2.toNat) false).2 b last).1) ∧ (last = false → (rawF (onWay name a) b last).2 = onWay name (a ++ b)) := by
  cases h : enough name a with
  | false =>
    have e : onWay name a = ⟨name, 0, 0, a, zst⟩ := by rw [onWay, if_pos h]
    rw [e]
    simp only [rawF, if_true]
    refine ⟨?_, fun hl => ?_⟩
    · split <;> rfl
    · subst hl
      cases h2 : enough name (a ++ b) with
      | false => rw [if_pos ⟨rfl, rfl⟩, onWay, if_pos h2]
      | true => rw [if_neg (by simp), onWay, if_neg (by rw [h2]; decide)]
  | true =>
    obtain ⟨e1, e2⟩ := enough_app name a b h
    obtain ⟨c1, _, _, c4, c5, _⟩ := chosen_ok name a
    have e : onWay name a = ⟨name, (chosen name a).1, (chosen name a).2.1, [], (rawM (opn (chosen name a).1) (a.drop (chosen name a).2.2.toNat) false).2⟩ := by rw [onWay, if_neg (by rw [h]; decide)]
    rw [e]
    simp only [rawF, if_neg (why_ne name a)]
    refine ⟨rfl, fun hl => ?_⟩
    subst hl
    rw [onWay, if_neg (by rw [e2]; decide), e1, List.drop_append_of_le_length (by omega), raw_app _ (right_opn _ c1)]
/-- All that is told until now, and what the last piece adds: what Decode tells of all. -/
def sofar (name a : Bs) : List Int := if enough name a = false then [] else (rawM (opn (chosen name a).1) (a.drop (chosen name a).2.2.toNat) false).1
theorem sofar_nil (name : Bs) : sofar name [] = [] := by
  have : enough name [] = false := by
    unfold enough
    rw [show sniff [] = (0, 0) from rfl]
    split <;> rfl
  rw [sofar, if_pos this]
theorem sofar_app (name a b : Bs) : sofar name (a ++ b) = sofar name a ++ (rawF (onWay name a) b false).1 := by
  obtain ⟨h1, _⟩ := rawF_way name a b false
  rw [h1]
  cases h : enough name a with
  | false =>
    rw [sofar, sofar, if_pos h, if_pos rfl, List.nil_append]
    cases h2 : enough name (a ++ b) with
    | false => rw [if_pos rfl, if_pos ⟨rfl, rfl⟩]
    | true => rw [if_neg (by decide), if_neg (by simp)]
  | true =>
    obtain ⟨e1, e2⟩ := enough_app name a b h
    obtain ⟨c1, _, _, c4, c5, _⟩ := chosen_ok name a
    rw [sofar, sofar, if_neg (by rw [e2]; decide), if_neg (by rw [h]; decide), if_neg (by decide), e1, List.drop_append_of_le_length (by omega), raw_app _ (right_opn _ c1)]
theorem last_way (name a b : Bs) : sofar name a ++ (rawF (onWay name a) b true).1 = (wholeM name (a ++ b)).1 := by
  obtain ⟨h1, _⟩ := rawF_way name a b true
  rw [h1, wholeM]
  cases h : enough name a with
  | false =>
    rw [sofar, if_pos h, if_pos rfl, List.nil_append, if_neg (by simp), raw_all _ (chosen_ok name (a ++ b)).1]
  | true =>
    obtain ⟨e1, e2⟩ := enough_app name a b h
    obtain ⟨c1, _, _, c4, c5, _⟩ := chosen_ok name a
    have := raw_all _ c1 ((a ++ b).drop (chosen name a).2.2.toNat)
    rw [List.drop_append_of_le_length (by omega), raw_app _ (right_opn _ c1)] at this
    rw [sofar, if_neg (by rw [h]; decide), if_neg (by decide), e1, List.drop_append_of_le_length (by omega)]
    exact this
/-- A front on the way is right. -/
theorem check_way (name a : Bs) (hn : name.length ≤ 3000) (ha : a.length ≤ 3000) : checkF (onWay name a) = 0 := by
  unfold onWay
  split
  · rename_i h
    unfold checkF
    simp only
    rw [if_neg (by omega), if_neg (by simp), if_neg (by simp), if_neg (by simp [emptySt, zst]), if_pos trivial, if_neg (by rw [h]; decide)]
  · obtain ⟨c1, c2, c3, c4, c5, _⟩ := chosen_ok name a
    have hw := why_ne name a
    have hr := (check_right _).2 (right_raw _ (a.drop (chosen name a).2.2.toNat) false (right_opn _ c1))
    have he : (chosen name a).1 ≠ 0 := by simp only [isEnc, decide_eq_true_eq] at c1; omega
    unfold checkF
    simp only
    rw [if_neg (by simp; omega), if_neg (by rw [c1]; simp), if_neg (by simp [hw, he]; omega), if_neg, if_neg hw, hr]
    rw [raw_enc]
    simp [hw, opn]
theorem way_why (name a b : Bs) : (onWay name a).why = 0 ∨ ((onWay name a).why = (chosen name (a ++ b)).2.1 ∧ (onWay name a).enc = (chosen name (a ++ b)).1) := by
  cases h : enough name a with
  | false => rw [onWay, if_pos h]; exact .inl rfl
  | true =>
    rw [onWay, if_neg (by rw [h]; decide), (enough_app name a b h).1]
    exact .inr ⟨rfl, rfl⟩
/-! ## The document's way -/
/-! ## The whole -/
theorem pointOf_scalar (user : Bool) (c : UInt8) : scalar (pointOf user c.toNat) = true := by
  have key : ∀ user : Bool, ∀ c : Fin 256, scalar (pointOf user c.val) = true := by decide +kernel
  exact key user ⟨c.toNat, c.toNat_lt⟩
theorem allE_scalar (n : Int) (s : Bs) : ∀ m ∈ allE n s, scalar m = true := by
  unfold allE
  split
  · exact (all8_many _ s (Nat.le_refl _)).2.2
  · split
    · exact all16_scalar _ _ s (Nat.le_refl _)
    · split
      · intro m hm
        unfold decodeS at hm
        rw [List.mem_map] at hm
        obtain ⟨c, _, rfl⟩ := hm
        exact pointOf_scalar _ c
      · split
        · exact toldK_scalar true _ s 0 false (Nat.le_refl _)
        · split
          · intro m hm; cases hm
          · intro m hm; simp only [List.mem_singleton] at hm; subst hm; decide
theorem allE_len (n : Int) (s : Bs) : (allE n s).length ≤ s.length := by
  unfold allE
  split
  · exact (all8_many _ s (Nat.le_refl _)).1
  · split
    · exact all16_len _ s
    · split
      · unfold decodeS; rw [List.length_map]; exact Nat.le_refl _
      · split
        · have := (toldK_rest true _ s 0 false (Nat.le_refl _)).1; unfold allK; omega
        · split
          · simp
          · rename_i h
            have : s.length ≠ 0 := fun hh => h (List.eq_nil_of_length_eq_zero hh)
            simp only [List.length_cons, List.length_nil]; omega
theorem whole_points (name s : Bs) (h : s.length ≤ 3000) : points (wholeM name s).1 = 0 := by
  have h1 := allE_len (chosen name s).1 (s.drop (chosen name s).2.2.toNat)
  rw [List.length_drop] at h1
  unfold points wholeM
  rw [if_neg (by simp only; omega), if_pos (List.all_eq_true.2 (allE_scalar _ _))]
theorem sniff_utf8 (l : Bs) : sniff ([239, 187, 191] ++ l) = (1, 3) := rfl
theorem badN_app (l m : List Int) : badN (l ++ m) = badN l + badN m := by unfold badN; rw [List.filter_append, List.length_append]
theorem farN_app (l m : List Int) : farN (l ++ m) = farN l + farN m := by unfold farN; rw [List.filter_append, List.length_append]
theorem bad_far (l : List Int) : badN l ≤ farN l ∧ farN l ≤ l.length := by
  induction l with
  | nil => exact ⟨Nat.le_refl _, Nat.le_refl _⟩
  | cons n l ih =>
    unfold badN farN at ih ⊢
    rw [List.filter_cons, List.filter_cons]
    by_cases h : n = 65533
    · subst h
      simp only [beq_self_eq_true, if_true, show decide ((127 : Int) < 65533) = true from rfl, List.length_cons]; omega
    · rw [if_neg (by simpa using h)]
      split <;> simp only [List.length_cons] <;> omega
end Go.Proofs.YteingkjdemlhgaaGreatDoor.M

/-
  Words for memory that all proofs of this seat share: what a call leaves below its own blocks, a slice that is owned, a slice that is read. No program in sight.
-/
namespace Go.Proofs.YteingkjdemlhgaaGreatDoor
open Go.RowKit
/-- What was there when the call began is as it was. -/
def Bel (w w' : World) : Prop := Below w.heap.size w w'
theorem Bel.refl (w : World) : Bel w w := Below.refl _ _
theorem Bel.trans {a b c : World} (h : Bel a b) (k : Bel b c) : Bel a c := Below.trans h (Below.mono k h.size)
theorem Bel.drew {a w : World} (h : Bel a w) : Bel a w.drew := Below.drew h
theorem Bel.drewN {a w : World} (h : Bel a w) (n : Nat) : Bel a (w.drewN n) := ⟨h.os, h.tape, h.output, h.size, h.block⟩
theorem Bel.alloc {a w : World} (h : Bel a w) (o : Obj) : Bel a (w.alloc o) := Below.alloc h h.size o
theorem Bel.setCell {a w : World} (h : Bel a w) {p : Addr} (hp : a.heap.size ≤ p.block) (u : Value) : Bel a (w.setCell p u) := Below.setCell h hp u
theorem Bel.size {a w : World} (h : Bel a w) : a.heap.size ≤ w.heap.size := Below.size h
theorem Bel.cell {a w : World} (h : Bel a w) {p : Addr} (hp : p.block < a.heap.size) : w.cell? p = a.cell? p := Below.cell h hp
theorem Bel.frozen {a w : World} (h : Bel a w) {p : Addr} (hp : p.block < a.heap.size) : w.frozen? p = a.frozen? p := Below.frozen h hp
theorem Bel.of {a w : World} (h : Below a.heap.size a w) : Bel a w := h
theorem Bel.upto {B : Nat} {a b c : World} (h : Bel a b) (k : Below B b c) (hB : a.heap.size ≤ B) : Bel a c := Below.trans h (Below.mono k hB)
theorem Bel.lt {a w : World} (h : Bel a w) {k : Nat} (hk : k < a.heap.size) : k < w.heap.size := Nat.lt_of_lt_of_le hk h.size
theorem block_of_add (a : Addr) (n : Nat) : (a.add n).block = a.block := by unfold Addr.add; split <;> rfl
theorem add_zero (g k : Nat) : (⟨g, 0, none⟩ : Addr).add k = ⟨g, k, none⟩ := by unfold Addr.add; split <;> simp_all
/-! ## A slice that is owned: its cells lie in one block from B on -/
def Own (B : Nat) (e : TypeId) (w : World) (v : Value) (xs : List Value) : Prop := w.ownsRow B e 1 v xs.length xs
section
variable {B B' : Nat} {e : TypeId} {w w' : World} {v : Value} {xs : List Value}
theorem Own.nil (B : Nat) (e : TypeId) (w : World) : Own B e w (.slice none 0 0) [] := World.ownsRow_nil _ _ _ _
theorem Own.mono (h : Own B e w v xs) (hB : B' ≤ B) : Own B' e w v xs := by
  refine ⟨h.1, ?_⟩
  rcases h.2 with h2 | ⟨g, cap, cur, r0, r1, r2⟩
  · exact .inl h2
  · exact .inr ⟨g, cap, cur, r0, Nat.le_trans hB r1, r2⟩
theorem Own.bel (h : Own B e w v xs) (hb : Bel w w') : Own B e w' v xs := by
  refine ⟨h.1, ?_⟩
  rcases h.2 with h2 | ⟨g, cap, cur, r0, r1, r2, r3⟩
  · exact .inl h2
  · exact .inr ⟨g, cap, cur, r0, r1, (hb.block g (Array.getElem?_eq_some_iff.1 r2).1).trans r2, r3⟩
theorem Own.drew (h : Own B e w v xs) : Own B e w.drew v xs := h
theorem Own.drewN (h : Own B e w v xs) (n : Nat) : Own B e (w.drewN n) v xs := h.bel ((Bel.refl w).drewN n)
theorem Own.alloc (h : Own B e w v xs) (o : Obj) : Own B e (w.alloc o) v xs := h.bel ((Bel.refl w).alloc o)
theorem Own.upto {C : Nat} (h : Own B e w v xs) (hb : Below C w w') (hC : ∀ k, v.ownBlock = some k → k < C) : Own B e w' v xs := by
  refine ⟨h.1, ?_⟩
  rcases h.2 with h2 | ⟨g, cap, cur, r0, r1, r2, r3⟩
  · exact .inl h2
  · exact .inr ⟨g, cap, cur, r0, r1, (hb.block g (hC g (by subst r0; rfl))).trans r2, r3⟩
/-- What it looks like, for the walk. -/
theorem Own.form (h : Own B e w v xs) : ∃ A c, v = .slice A xs.length c ∧ xs.length ≤ c ∧ c ≤ maxLen ∧ (A = none → xs = []) ∧
    ∀ g o p, A = some ⟨g, o, p⟩ → o = 0 ∧ p = none ∧ B ≤ g ∧ g < w.heap.size ∧ (∀ k, w.frozen? ⟨g, k, none⟩ = false) ∧ (∀ k u, xs[k]? = some u → w.cell? ⟨g, k, none⟩ = some u) := by
  rcases h.2 with ⟨rfl, hn⟩ | ⟨g, cap, cur, rfl, r1, r2, r3, r4, r5, r6⟩
  · have hx : xs = [] := List.eq_nil_of_length_eq_zero hn
    subst hx
    exact ⟨none, 0, rfl, Nat.le_refl _, Nat.zero_le _, fun _ => rfl, fun _ _ _ hh => by cases hh⟩
  · refine ⟨some ⟨g, 0, none⟩, cap, rfl, r3, r4, (fun hh => by cases hh), fun g' o p hh => ?_⟩
    injection hh with hh
    injection hh with h1 h2 h3
    subst h1; subst h2; subst h3
    refine ⟨rfl, rfl, r1, (Array.getElem?_eq_some_iff.1 r2).1, fun k => by simp [World.frozen?, r2], fun k u hu => ?_⟩
    have := World.ownsRow.cells h (g := g) rfl k u hu
    rwa [add_zero] at this
theorem Own.lt (h : Own B e w v xs) : ∀ k, v.ownBlock = some k → B ≤ k ∧ k < w.heap.size := World.ownsRow.lt h
/-- A row of cells that has just been laid. -/
theorem Own.made (w : World) (cur : List Value) (hb : B ≤ w.heap.size) (hm : cur.length ≤ maxLen) : Own B e (w.alloc (.cells cur.toArray e)) (.slice (some ⟨w.heap.size, 0, none⟩) cur.length cur.length) cur :=
  ⟨by simp, .inr ⟨w.heap.size, cur.length, cur.toArray, rfl, hb, heap_alloc_new w _, Nat.le_refl _, hm, by simp, by simp⟩⟩
end
/-- The element type's row of the table. -/
def Elem (P : Program) (t e : TypeId) (bytes : Nat) : Prop := P.underlying t = some (.slice e) ∧ ∃ z, (P.info? e).map (fun i => (i.zero, i.size, i.bytes)) = some (some z, 1, bytes) ∧ z.cells.size = 1
/-- 'out = append(out, x)', out the call's own. -/
theorem wpList_app1 {P : Program} (w : World) {ops : Array Oper} {rest : List Oper} {o : Oper} {a : Act} {Q : Exit → Act → World → Prop} (hgd : o.guard = none) (s x : Operand) (t : TypeId)
    (ho : o.op = .call { callee := .builtin .append, args := #[s, x], argTypes := #[t, t] }) {e : TypeId} {bytes : Nat} (he : Elem P t e bytes) (hby : bytes ≤ 1024)
    (B : Nat) (v : Value) (xs : List Value) (hs : a.eval s = v) (hown : Own B e w v xs) (g c : Nat) (u : Value) (hx : a.eval x = .slice (some ⟨g, 0, none⟩) 1 c)
    (hu : w.cell? ⟨g, 0, none⟩ = some u) (h1 : u.oneCell' = true) (hlen : xs.length < 68719476736) (hB : B ≤ w.heap.size)
    (h : ∀ v' w', Own B e w' v' (xs ++ [u]) → Below B w w' → (∀ k, v.ownBlock ≠ some k → k < w.heap.size → w'.heap[k]? = w.heap[k]?) → wpList P ops Q rest (a.put o.dst v') w') : wpList P ops Q (o :: rest) a w := by
  obtain ⟨ht, z, hi, hz⟩ := he
  obtain ⟨i, hi, hz0, hz1, hz2⟩ := info_parts hi
  refine wpList_append_own w hgd s x t ho B e i z 1 bytes ht hi hz0 hz1 hz2 hz (by decide) v xs.length xs hs hown ⟨g, 0, none⟩ 1 c [u] hx rfl ?_ ?_ (by simp only [maxLen]; omega) ?_ hB ?_
  · intro j u' hj
    match j, hj with
    | 0, hj =>
      simp only [List.getElem?_cons_zero, Option.some.injEq] at hj
      subst hj
      rw [add_zero]
      exact hu
    | j + 1, hj => simp at hj
  · intro u' hu'
    simp only [List.mem_singleton] at hu'
    subst hu'
    exact h1
  · have : (xs.length + 1) * bytes ≤ 68719476736 * 1024 := Nat.mul_le_mul (by omega) hby
    omega
  · intro v' w' ho' hg' _
    refine h v' w' ?_ ?_ ?_
    · show w'.ownsRow B e 1 v' (xs ++ [u]).length (xs ++ [u])
      rw [List.length_append]
      exact ho'
    · exact (Below.refl B w).grown hg' hB (fun k hk => (hown.lt k hk).1)
    · exact fun k hne hk => hg'.block k hk (fun e => hne e.symm)
/-- The same, where the one cell has just been laid: what is known of the world ahead of it is asked. -/
theorem wpList_app {P : Program} {w0 : World} {ops : Array Oper} {rest : List Oper} {o : Oper} {a : Act} {Q : Exit → Act → World → Prop} (hgd : o.guard = none) (s x : Operand) (t : TypeId)
    (ho : o.op = .call { callee := .builtin .append, args := #[s, x], argTypes := #[t, t] }) {e : TypeId} {bytes : Nat} (he : Elem P t e bytes) (hby : bytes ≤ 1024)
    (B : Nat) (u : Value) (v : Value) (xs : List Value) (hs : a.eval s = v) (hx : a.eval x = .slice (some ⟨w0.heap.size, 0, none⟩) 1 1) (hown : Own B e w0 v xs)
    (h1 : u.oneCell' = true) (hlen : xs.length < 68719476736) (hB : B ≤ w0.heap.size)
    (h : ∀ v' w', Own B e w' v' (xs ++ [u]) → Below B w0 w' → wpList P ops Q rest (a.put o.dst v') w') : wpList P ops Q (o :: rest) a (w0.alloc (.cells #[u] e)) := by
  refine wpList_app1 (w0.alloc (.cells #[u] e)) hgd s x t ho he hby B v xs hs (hown.alloc _) _ 1 u hx ?_ h1 hlen (by simp; omega) ?_
  · rw [World.cell?_alloc_new]; rfl
  · intro v' w' ho' hb' _
    exact h v' w' ho' (((Below.refl B w0).alloc hB _).trans hb')
/-! ## A slice of integers that is read: it came in, or is the call's own -/
def IntSl (w : World) (v : Value) (xs : List Int) : Prop :=
  ∃ a c, v = .slice a xs.length c ∧ xs.length ≤ c ∧ c ≤ maxLen ∧ (a = none → xs = []) ∧ (∀ x, a = some x → ∀ i n, xs[i]? = some n → w.cell? (x.add i) = some (.int .i64 n))
theorem IntSl.bel {w w' : World} {v : Value} {xs : List Int} (h : IntSl w v xs) (hb : Bel w w') : IntSl w' v xs := by
  obtain ⟨a, c, h1, h2, h3, h4, h5⟩ := h
  refine ⟨a, c, h1, h2, h3, h4, fun x hx i n hn => ?_⟩
  have := h5 x hx i n hn
  exact (hb.cell (World.block_lt_of_cell? w _ this)).trans this
theorem Own.ints {B : Nat} {e : TypeId} {w : World} {v : Value} {xs : List Int} (h : Own B e w v (xs.map (Value.int .i64))) : IntSl w v xs := by
  obtain ⟨A, c, h1, h2, h3, h4, h5⟩ := h.form
  rw [List.length_map] at h1 h2
  refine ⟨A, c, h1, h2, h3, fun ha => by simpa using h4 ha, fun x hx i n hn => ?_⟩
  obtain ⟨g, o, p⟩ := x
  obtain ⟨rfl, rfl, _, _, _, h6⟩ := h5 g o p hx
  rw [add_zero]
  exact h6 i _ (by rw [List.getElem?_map, hn]; rfl)
/-- What the row's reading of a slice of integers gives. -/
theorem IntSl.of_row {w : World} {x : Addr} {l c : Nat} {zs : List Int} (hl : l ≤ c) (hm : c ≤ maxLen) (hz : zs.length = c) (hcell : ∀ i, i < zs.length → w.cell? (x.add i) = some (.int .i64 (zs.getD i 0))) : IntSl w (.slice (some x) l c) (zs.take l) := by
  have e : (zs.take l).length = l := by rw [List.length_take]; omega
  refine ⟨some x, c, by rw [e], by omega, hm, (fun h => by cases h), fun y hy i n hn => ?_⟩
  injection hy with hy
  subst hy
  rw [List.getElem?_take] at hn
  split at hn
  · rw [hcell i (by rw [List.getElem?_eq_some_iff] at hn; exact hn.1), List.getD_eq_getElem?_getD, hn]
    rfl
  · cases hn
theorem IntSl.nil_ (w : World) : IntSl w (.slice none 0 0) [] := ⟨.none, 0, rfl, Nat.le_refl _, Nat.zero_le _, fun _ => rfl, fun _ h => by cases h⟩
/-! ## Bytes -/
theorem byte_at (s : ByteArray) (k : Nat) (h : k < s.size) : s.data.toList[k]? = some s[k] := by
  rw [Lib.size_eq] at h
  rw [List.getElem?_eq_getElem h]
  rfl
theorem str_eq (s : ByteArray) : (⟨s.data.toList.toArray⟩ : ByteArray) = s := Lib.mk_data s
theorem data_append (s t : ByteArray) : (s ++ t).data.toList = s.data.toList ++ t.data.toList := by simp
theorem append_str (s t : ByteArray) : s ++ t = ⟨(s.data.toList ++ t.data.toList).toArray⟩ := by
  rw [← data_append, Lib.mk_data]
theorem str_append (l : List UInt8) (t : ByteArray) : (⟨l.toArray⟩ : ByteArray) ++ t = ⟨(l ++ t.data.toList).toArray⟩ := by rw [append_str]
theorem size_str (l : List UInt8) : (⟨l.toArray⟩ : ByteArray).size = l.length := by rw [Lib.size_eq]
theorem ret_two {a b c d : Value} (h : a = c) (k : b = d) : Ending.returned (.tuple #[a, b]) = .returned (.tuple #[c, d]) := by rw [h, k]
theorem ret_one {a c : Value} (h : a = c) : Ending.returned a = .returned c := by rw [h]
theorem ret_bool {a b : Bool} (h : a = b) : Ending.returned (.bool a) = .returned (.bool b) := by rw [h]
end Go.Proofs.YteingkjdemlhgaaGreatDoor

/-
  More words that all proofs share: the types' rows, lists that grow by one.
-/
namespace Go.Proofs.YteingkjdemlhgaaGreatDoor
open Go.RowKit
theorem elemInt : Elem Tryz.prog 30 3 8 := ⟨Tryz.underlying30, .int .i64 0, by kernel_rfl, rfl⟩
theorem elemByte : Elem Tryz.prog 120 5 1 := ⟨Tryz.underlying120, .int .u8 0, by kernel_rfl, rfl⟩
theorem take_snoc {α β : Type} (f : α → β) (xs : List α) (k : Nat) (x : α) (h : xs[k]? = some x) : (xs.take (k + 1)).map f = (xs.take k).map f ++ [f x] := by
  rw [List.take_add_one, h]; simp
theorem cell_new (w : World) (u : Value) (t : TypeId) : (w.alloc (.cells #[u] t)).cell? ⟨w.heap.size, 0, none⟩ = some u := by
  rw [World.cell?_alloc_new]; rfl
end Go.Proofs.YteingkjdemlhgaaGreatDoor

/-
  Laws on conversions between strings and bytes, as steps of a walk.
-/
namespace Go.Proofs.YteingkjdemlhgaaGreatDoor
open Go.RowKit
def byteVal (c : UInt8) : Value := .int .u8 (c.toNat : Int)
theorem wpList_toBytes {P : Program} {w : World} {ops : Array Oper} {rest : List Oper} {o : Oper} {a : Act} {Q : Exit → Act → World → Prop} (hgd : o.guard = none) (x : Operand) (src dst e : TypeId)
    (ho : o.op = .convert src dst x) (hs : P.underlying src = some .string) (hd : P.underlying dst = some (.slice e)) (he : P.underlying e = some (.int .u8)) (s : ByteArray) (hx : a.eval x = .string s) (hsz : s.size ≤ 9223372036854775807)
    (h : ∀ c w', Bel w w' → w.heap.size < w'.heap.size → s.size ≤ c → c ≤ 9223372036854775807 → (∀ k b, s.data.toList[k]? = some b → w'.cell? ⟨w.heap.size, k, none⟩ = some (byteVal b)) → (∀ k, k < s.size → w'.frozen? ⟨w.heap.size, k, none⟩ = false) →
      wpList P ops Q rest (a.put o.dst (.slice (some ⟨w.heap.size, 0, none⟩) s.size c)) w') : wpList P ops Q (o :: rest) a w := by
  refine wpList_plain hgd fun K hK => ?_
  have hr := run_bytes_of_string (P := P) w src dst e s hs hd he
  unfold Oper.wp execOp
  simp only [ho, Sem.run_bind, Sem.run_pure, Result.andThen_ok, hx, hr]
  refine hK _ _ (h _ _ ?_ ?_ ?_ ?_ ?_ ?_)
  · exact (Bel.refl w).drew.alloc _
  · simp
  · exact grownCap_ge _ _ _ _
  · exact grownCap_le_maxLen _ _ _ _ (by simp only [maxLen]; omega)
  · intro k b hb
    have hk : k < s.data.size := by
      have := (List.getElem?_eq_some_iff.1 hb).1
      simpa using this
    have := World.cell?_alloc_mark w.drew (bytesRow s (grownCap w s.size 0 e)) e ((bytesRow s (grownCap w s.size 0 e)).size, (bytesRow s (grownCap w s.size 0 e)).size + 1) k
    rw [show w.drew.heap.size = w.heap.size from rfl] at this
    rw [this, bytesRow_at s _ k hk]
    have e2 : s.data.toList[k]? = some s.data[k] := by rw [Array.getElem?_toList]; exact Array.getElem?_eq_getElem hk
    rw [e2] at hb
    injection hb with hb
    rw [hb]; rfl
  · intro k hk
    have := World.frozen?_alloc_mark w.drew (bytesRow s (grownCap w s.size 0 e)) e (bytesRow s (grownCap w s.size 0 e)).size ((bytesRow s (grownCap w s.size 0 e)).size + 1) k
    rw [show w.drew.heap.size = w.heap.size from rfl] at this
    rw [this]
    have hsz : k < (bytesRow s (grownCap w s.size 0 e)).size := by
      have : s.data.size = s.size := rfl
      simp [bytesRow]; omega
    simp; omega
/-- 'string(b)' where b owns the bytes l. -/
theorem wpList_toString {P : Program} {w : World} {ops : Array Oper} {rest : List Oper} {o : Oper} {a : Act} {Q : Exit → Act → World → Prop} (hgd : o.guard = none) (x : Operand) (src dst e : TypeId)
    (ho : o.op = .convert src dst x) (hs : P.underlying src = some (.slice e)) (he : P.underlying e = some (.int .u8)) (hd : P.underlying dst = some .string) (B : Nat) (v : Value) (l : List UInt8) (hx : a.eval x = v) (hown : Own B e w v (l.map byteVal))
    (h : wpList P ops Q rest (a.put o.dst (.string ⟨l.toArray⟩)) w) : wpList P ops Q (o :: rest) a w := by
  refine wpList_plain hgd fun K hK => ?_
  have hr : (convert src dst v).run P w = .ok (.string ⟨l.toArray⟩) w := by
    obtain ⟨A, c, hv, h1, h2, h3, h4⟩ := hown.form
    rw [List.length_map] at hv
    subst hv
    cases A with
    | none =>
      have : l = [] := by simpa using h3 rfl
      subst this
      rw [run_convert_bytes_string w src dst e none _ c hs he hd]
      rfl
    | some y =>
      obtain ⟨g, o, p⟩ := y
      obtain ⟨rfl, rfl, _, _, _, h6⟩ := h4 g o p rfl
      exact run_convert_bytes_back w src dst e ⟨g, 0, none⟩ c l hs he hd (fun j hj => by
        rw [add_zero]
        exact h6 j _ (by rw [List.getElem?_map, List.getElem?_eq_getElem hj]; rfl))
  unfold Oper.wp execOp
  simp only [ho, Sem.run_bind, Sem.run_pure, Result.andThen_ok, hx, hr]
  exact hK _ _ h
/-- A literal list of numbers that has just been laid. -/
theorem IntSl.lit (w : World) (t : TypeId) (ys : List Int) (h : ys.length ≤ 1000000) : IntSl (w.alloc (.cells (ys.map (Value.int .i64)).toArray t)) (.slice (some ⟨w.heap.size, 0, none⟩) ys.length ys.length) ys := by
  refine ⟨some ⟨w.heap.size, 0, none⟩, ys.length, rfl, Nat.le_refl _, by unfold maxLen; omega, (fun h => by cases h), fun x hx i n hn => ?_⟩
  injection hx with hx
  subst hx
  rw [add_zero, World.cell?_alloc_new, List.getElem?_toArray, List.getElem?_map, hn]
  rfl
theorem drop_str (s : ByteArray) (k : Nat) : (s.extract k s.size).data.toList = s.data.toList.drop k := by
  rw [Lib.extract_data, List.take_of_length_le (by rw [List.length_drop, ← Lib.size_eq]; exact Nat.le_refl _)]
theorem drop_size (s : ByteArray) (k : Nat) : (s.extract k s.size).size = s.size - k := by
  rw [Lib.size_eq, drop_str, List.length_drop, ← Lib.size_eq]
theorem cons_of_pos (s : ByteArray) (h : 0 < s.size) : ∃ c t, s.data.toList = c :: t := by
  cases hl : s.data.toList with
  | nil => rw [Lib.size_eq, hl] at h; simp at h
  | cons c t => exact ⟨c, t, rfl⟩
def strLen : Value → Nat | .string s => s.size | _ => 0
theorem own_row {e : TypeId} (w : World) (l : List UInt8) (vs : List Value) (h : l.map byteVal = vs) (h2 : l.length ≤ 4) : Own w.heap.size e (w.alloc (.cells vs.toArray e)) (.slice (some ⟨w.heap.size, 0, none⟩) vs.length vs.length) (l.map byteVal) := by
  subst h
  exact Own.made w _ (Nat.le_refl _) (by rw [List.length_map]; unfold maxLen; omega)
end Go.Proofs.YteingkjdemlhgaaGreatDoor

/-
  Append of a whole list of numbers, as a step of a walk (guarded or not).
-/
namespace Go.Proofs.YteingkjdemlhgaaGreatDoor
open Go.RowKit
theorem wpList_wanted {P : Program} {w : World} {ops : Array Oper} {rest : List Oper} {o : Oper} {a : Act} {Q : Exit → Act → World → Prop} (hw : Region.wanted o (yielded ops a.tmps) = true)
    (h : ∀ K : Act → World → Prop, (∀ a w, wpList P ops Q rest a w → K a w) → o.wp P a w K Q) : wpList P ops Q (o :: rest) a w :=
  wpList_step fun K hK => by rw [if_pos hw]; exact h K hK
theorem run_append_nil_src {P : Program} {w : World} {B : Nat} {t e : TypeId} {bytes : Nat} (ty : TypeId) (he : Elem P t e bytes) {v : Value} {xs : List Value} (hown : Own B e w v xs) (c : Nat) :
    (Builtin.append_ #[t, t] ty #[v, .slice none 0 c]).run P w = .ok v w := by
  obtain ⟨ht, z, hi, hz⟩ := he
  obtain ⟨i, hi, hz0, hz1, hz2⟩ := info_parts hi
  rcases hown.2 with ⟨rfl, h0⟩ | ⟨g, cap, cur, rfl, _, _, hnc, _⟩
  · simp [Builtin.append_, run_underlying ht, sizeOf, typeInfo, hi, Builtin.lenOf, Builtin.firstCells]
  · simp [Builtin.append_, run_underlying ht, sizeOf, typeInfo, hi, Builtin.lenOf, Builtin.firstCells, hnc, storeCells]
theorem wpList_appInts {P : Program} {w : World} {ops : Array Oper} {rest : List Oper} {o : Oper} {a : Act} {Q : Exit → Act → World → Prop} (s x : Operand) (t : TypeId)
    (ho : o.op = .call { callee := .builtin .append, args := #[s, x], argTypes := #[t, t] }) {e : TypeId} {bytes : Nat} (he : Elem P t e bytes) (hby : bytes ≤ 1024)
    (B : Nat) (v : Value) (xs : List Value) (hown : Own B e w v xs) (y : Value) (ys : List Int) (hy : IntSl w y ys) (hlen : xs.length + ys.length < 68719476736) (hB : B ≤ w.heap.size)
    (hs : a.eval s = v) (hx : a.eval x = y) (hw : Region.wanted o (yielded ops a.tmps) = true)
    (h : ∀ v' w', Own B e w' v' (xs ++ ys.map (Value.int .i64)) → Below B w w' → wpList P ops Q rest (a.put o.dst v') w') : wpList P ops Q (o :: rest) a w := by
  refine wpList_wanted hw fun K hK => ?_
  obtain ⟨A, c, rfl, h1, h2, h3, h4⟩ := hy
  cases A with
  | none =>
    have hn := h3 rfl
    subst hn
    have hr := run_append_nil_src o.type he hown c
    unfold Oper.wp execOp
    simp only [ho, resolve, invoke, builtin, Sem.run_bind, Sem.run_pure, Result.andThen_ok, List.map_toArray, List.map_cons, List.map_nil, hs, hx, List.length_nil, hr]
    exact hK _ _ (h _ _ (by simpa using hown) (Below.refl _ _))
  | some ad =>
    obtain ⟨ht, z, hi, hz⟩ := he
    obtain ⟨i, hi, hz0, hz1, hz2⟩ := info_parts hi
    refine wp_append_own w s x t ho B e i z 1 bytes ht hi hz0 hz1 hz2 hz (by decide) v xs.length xs hs hown ad ys.length c (ys.map (Value.int .i64)) hx (by simp) ?_ ?_ (by simp only [maxLen]; omega) ?_ hB ?_
    · intro j u hj
      rw [List.getElem?_map] at hj
      cases hq : ys[j]? with
      | none => rw [hq] at hj; cases hj
      | some n =>
        rw [hq] at hj
        injection hj with hj
        rw [← hj]
        exact h4 ad rfl j n hq
    · intro u hu
      rw [List.mem_map] at hu
      obtain ⟨n, _, rfl⟩ := hu
      rfl
    · have : (xs.length + ys.length) * bytes ≤ 68719476736 * 1024 := Nat.mul_le_mul (by omega) hby
      omega
    · intro v' w' ho' hg' _
      refine hK _ _ (h v' w' ?_ ?_)
      · show w'.ownsRow B e 1 v' (xs ++ ys.map (Value.int .i64)).length (xs ++ ys.map (Value.int .i64))
        rw [List.length_append, List.length_map]
        exact ho'
      · exact (Below.refl B w).grown hg' hB (fun k hk => (hown.lt k hk).1)
/-- '[]int{}'. -/
theorem Own.empty {B : Nat} (w : World) (e : TypeId) (hB : B ≤ w.heap.size) : Own B e (w.alloc (.cells #[] e)) (.slice (some ⟨w.heap.size, 0, none⟩) 0 0) [] :=
  Own.made w [] hB (Nat.zero_le _)
/-- 'out = append(out, x, y, ..)': the cells have just been laid. -/
theorem wpList_apps {P : Program} {w0 : World} {ops : Array Oper} {rest : List Oper} {o : Oper} {a : Act} {Q : Exit → Act → World → Prop} (s x : Operand) (t : TypeId)
    (ho : o.op = .call { callee := .builtin .append, args := #[s, x], argTypes := #[t, t] }) {e : TypeId} {bytes : Nat} (he : Elem P t e bytes) (hby : bytes ≤ 1024)
    (B : Nat) (v : Value) (xs us : List Value) (hown : Own B e w0 v xs) (h1 : ∀ u ∈ us, u.oneCell' = true) (hlen : xs.length + us.length < 68719476736) (hB : B ≤ w0.heap.size)
    (hs : a.eval s = v) (hx : a.eval x = .slice (some ⟨w0.heap.size, 0, none⟩) us.length us.length) (hw : Region.wanted o (yielded ops a.tmps) = true)
    (h : ∀ v' w', Own B e w' v' (xs ++ us) → Below B w0 w' → wpList P ops Q rest (a.put o.dst v') w') : wpList P ops Q (o :: rest) a (w0.alloc (.cells us.toArray e)) := by
  refine wpList_wanted hw fun K hK => ?_
  obtain ⟨ht, z, hi, hz⟩ := he
  obtain ⟨i, hi, hz0, hz1, hz2⟩ := info_parts hi
  refine wp_append_own _ s x t ho B e i z 1 bytes ht hi hz0 hz1 hz2 hz (by decide) v xs.length xs hs (hown.alloc _) ⟨w0.heap.size, 0, none⟩ us.length us.length us hx (by simp) ?_ h1 (by simp only [maxLen]; omega) ?_ (by simp; omega) ?_
  · intro j u hj
    rw [add_zero, World.cell?_alloc_new, List.getElem?_toArray]
    exact hj
  · have : (xs.length + us.length) * bytes ≤ 68719476736 * 1024 := Nat.mul_le_mul (by omega) hby
    omega
  · intro v' w' ho' hg' _
    refine hK _ _ (h v' w' ?_ ?_)
    · show w'.ownsRow B e 1 v' (xs ++ us).length (xs ++ us)
      rw [List.length_append]
      exact ho'
    · exact ((Below.refl B w0).alloc hB _).trans ((Below.refl B _).grown hg' (by simp; omega) (fun k hk => (hown.lt k hk).1))
end Go.Proofs.YteingkjdemlhgaaGreatDoor

/-
  A block that is known whole: a struct behind a pointer, a variable that a closure holds.
-/
namespace Go.Proofs.YteingkjdemlhgaaGreatDoor
open Go.RowKit
/-- Block g holds just these cells, and none is frozen. -/
def Box (w : World) (g : Nat) (t : TypeId) (cs : List Value) : Prop := w.heap[g]? = some (.cells cs.toArray t (0, 0))
section
variable {w w' : World} {g B : Nat} {t : TypeId} {cs : List Value}
theorem Box.lt (h : Box w g t cs) : g < w.heap.size := by
  unfold Box at h
  exact (Array.getElem?_eq_some_iff.1 h).1
theorem Box.cell (h : Box w g t cs) (i : Nat) (v : Value) (hv : cs[i]? = some v) : w.cell? ⟨g, i, none⟩ = some v := by
  unfold Box at h
  simp [World.cell?, h, hv]
theorem Box.frozen (h : Box w g t cs) (i : Nat) : w.frozen? ⟨g, i, none⟩ = false := by
  unfold Box at h
  simp [World.frozen?, h]
theorem Box.bel (h : Box w g t cs) (hb : Bel w w') : Box w' g t cs := (hb.block g h.lt).trans h
theorem Box.upto (h : Box w g t cs) (hb : Below B w w') (hg : g < B) : Box w' g t cs := (hb.block g hg).trans h
theorem Box.new (w : World) (t : TypeId) (cs : List Value) : Box (w.alloc (.cells cs.toArray t)) w.heap.size t cs := heap_alloc_new w _
theorem Box.drewN (h : Box w g t cs) (n : Nat) : Box (w.drewN n) g t cs := h
theorem Box.set (h : Box w g t cs) (i : Nat) (u : Value) : Box (w.setCell ⟨g, i, none⟩ u) g t (cs.set i u) := by
  unfold Box at h ⊢
  simp [World.setCell, Array.getElem?_modify, h]
theorem Box.far (h : Box w g t cs) {p : Addr} (hp : g ≠ p.block) (u : Value) : Box (w.setCell p u) g t cs := (Below.heap_setCell w p u g hp).trans h
theorem Box.set0 {u v : Value} (h : Box w g t [v]) : Box (w.setCell ⟨g, 0, none⟩ u) g t [u] := h.set 0 u
end
theorem Own.setCell {B : Nat} {e : TypeId} {w : World} {v : Value} {xs : List Value} (h : Own B e w v xs) {p : Addr} (hp : p.block < B) (u : Value) : Own B e (w.setCell p u) v xs := by
  refine ⟨h.1, ?_⟩
  rcases h.2 with h2 | ⟨g, cap, cur, r0, r1, r2, r3⟩
  · exact .inl h2
  · exact .inr ⟨g, cap, cur, r0, r1, (Below.heap_setCell w p u g (by omega)).trans r2, r3⟩
theorem bel_store {w wr w1 : World} {B g i : Nat} (h : Bel w wr) (k : Below B wr w1) (hB : w.heap.size ≤ B) (hg : w.heap.size ≤ g) (u : Value) : Bel w (w1.setCell ⟨g, i, none⟩ u) :=
  (Bel.upto h k hB).setCell hg u
end Go.Proofs.YteingkjdemlhgaaGreatDoor

/-
  Append inside a region that draws its order.
-/
namespace Go.Proofs.YteingkjdemlhgaaGreatDoor
open Go.RowKit
theorem step_app {P : Program} {w0 : World} {ops : Array Oper} {o : Oper} {a : Act} {K : Act → World → Prop} {Q : Exit → Act → World → Prop} {E : Prop} (hgd : o.guard = none) (s x : Operand) (t : TypeId)
    (ho : o.op = .call { callee := .builtin .append, args := #[s, x], argTypes := #[t, t] }) {e : TypeId} {bytes : Nat} (he : Elem P t e bytes) (hby : bytes ≤ 1024)
    (B : Nat) (v : Value) (xs : List Value) (u : Value) (hs : a.eval s = v) (hown : Own B e w0 v xs) (hx : a.eval x = .slice (some ⟨w0.heap.size, 0, none⟩) 1 1) (h1 : u.oneCell' = true) (hlen : xs.length < 68719476736) (hB : B ≤ w0.heap.size)
    (h : ∀ v' w', Own B e w' v' (xs ++ [u]) → Below B w0 w' → K (a.put o.dst v') w') :
    if Region.wanted o (yielded ops a.tmps) = true then Oper.wp P o a (w0.alloc (.cells #[u] e)) K Q else E := by
  have hw : Region.wanted o (yielded ops a.tmps) = true := by simp [Region.wanted, hgd]
  rw [if_pos hw]
  obtain ⟨ht, z, hi, hz⟩ := he
  obtain ⟨i, hi, hz0, hz1, hz2⟩ := info_parts hi
  refine wp_append_own _ s x t ho B e i z 1 bytes ht hi hz0 hz1 hz2 hz (by decide) v xs.length xs hs (hown.alloc _) ⟨w0.heap.size, 0, none⟩ 1 1 [u] hx (by simp) ?_ (by simpa using h1) (by simp only [maxLen]; omega) ?_ (by simp; omega) ?_
  · intro j u' hj
    rw [add_zero, World.cell?_alloc_new]
    simpa using hj
  · have : (xs.length + 1) * bytes ≤ 68719476736 * 1024 := Nat.mul_le_mul (by omega) hby
    omega
  · intro v' w' ho' hg' _
    refine h v' w' ?_ ?_
    · show w'.ownsRow B e 1 v' (xs ++ [u]).length (xs ++ [u])
      rw [List.length_append]
      exact ho'
    · exact ((Below.refl B w0).alloc hB _).trans ((Below.refl B _).grown hg' (by simp; omega) (fun k hk => (hown.lt k hk).1))
end Go.Proofs.YteingkjdemlhgaaGreatDoor

/-
  Append, and what lies in other blocks.
-/
namespace Go.Proofs.YteingkjdemlhgaaGreatDoor
open Go.RowKit
theorem Own.keep {B : Nat} {e : TypeId} {w w' : World} {v : Value} {xs : List Value} (h : Own B e w v xs) (hk : ∀ k, v.ownBlock = some k → w'.heap[k]? = w.heap[k]?) : Own B e w' v xs := by
  refine ⟨h.1, ?_⟩
  rcases h.2 with h2 | ⟨k, cap, cur, r0, r1, r2, r3⟩
  · exact .inl h2
  · exact .inr ⟨k, cap, cur, r0, r1, (hk k (by subst r0; rfl)).trans r2, r3⟩
theorem Box.keep {w w' : World} {g : Nat} {t : TypeId} {cs : List Value} (h : Box w g t cs) (hk : w'.heap[g]? = w.heap[g]?) : Box w' g t cs := hk.trans h
end Go.Proofs.YteingkjdemlhgaaGreatDoor

/-
  Is a byte white: the package's word and the document's.
-/
namespace Go.Proofs.YteingkjdemlhgaaGreatDoor
open Go.RowKit
set_option maxRecDepth 1000000
theorem white_int (c : UInt8) : M.white c = (((c.toNat : Int) == 32) || ((c.toNat : Int) == 9) || ((c.toNat : Int) == 10) || ((c.toNat : Int) == 12) || ((c.toNat : Int) == 13)) := by
  rw [M.white_nat, Bool.eq_iff_iff]
  simp only [decide_eq_true_eq, Bool.or_eq_true, beq_iff_eq]
  omega
theorem isWhite_any (c : UInt8) (w : World) : Calls Tryz.prog 122 #[.int .u8 (c.toNat : Int)] w fun e w' => e = .returned (.bool (M.white c)) ∧ w = w' := by
  have H := Lib.hid (white_int c)
  have hc : c.toNat < 256 := c.toNat_lt
  generalize hn : (c.toNat : Int) = n at *
  have hn0 : 0 ≤ n ∧ n < 256 := by omega
  clear hn hc
  by_cases h1 : n = 32 <;> by_cases h2 : n = 9 <;> by_cases h3 : n = 10 <;> by_cases h4 : n = 12 <;> by_cases h5 : n = 13
  all_goals
    first
    | (exfalso; omega)
    | (go_enter Tryz.func122, Tryz.ntmps122
       go_wp2
       go_ret
       refine ⟨?_, rfl⟩
       rw [H.out]
       first
       | (simp [*]; done)
       | exact ret_bool (by cases (n == 9) <;> cases (n == 10) <;> cases (n == 12) <;> cases (n == 13) <;> cases (n == 32) <;> rfl))
theorem white_any (c : UInt8) (w : World) : Calls Tryz.prog 106 #[.int .u8 (c.toNat : Int)] w fun e w' => e = .returned (.bool (M.white c)) ∧ w = w' := by
  have H := Lib.hid (white_int c)
  have hc : c.toNat < 256 := c.toNat_lt
  generalize hn : (c.toNat : Int) = n at *
  have hn0 : 0 ≤ n ∧ n < 256 := by omega
  clear hn hc
  by_cases h1 : n = 32 <;> by_cases h2 : n = 9 <;> by_cases h3 : n = 10 <;> by_cases h4 : n = 12 <;> by_cases h5 : n = 13
  all_goals
    first
    | (exfalso; omega)
    | (go_enter Tryz.func106, Tryz.ntmps106
       go_wp2
       go_ret
       refine ⟨?_, rfl⟩
       rw [H.out]
       first
       | (simp [*]; done)
       | exact ret_bool (by cases (n == 9) <;> cases (n == 10) <;> cases (n == 12) <;> cases (n == 13) <;> cases (n == 32) <;> rfl))
end Go.Proofs.YteingkjdemlhgaaGreatDoor

/-
  Package label: Is.
-/
namespace Go.Proofs.YteingkjdemlhgaaGreatDoor
open Go.RowKit
theorem isEnc_any (n : Int) (w : World) : Calls Tryz.prog 54 #[.int .i64 n] w fun e w' => e = .returned (.bool (M.isEnc n)) ∧ w = w' := by
  by_cases h : 1 ≤ n <;> by_cases h2 : n ≤ 7
  all_goals
    go_enter Tryz.func54, Tryz.ntmps54
    go_wp2
    go_ret
    refine ⟨?_, rfl⟩
    simp [M.isEnc]
    omega
end Go.Proofs.YteingkjdemlhgaaGreatDoor

/-
  slices.IndexFunc at structs of two cells, whatever the predicate; a string out of cells that are known one by one.
-/
namespace Go.Proofs.YteingkjdemlhgaaGreatDoor
open Go.RowKit
set_option maxRecDepth 1000000
/-- The first place at which p holds; -1: none does. -/
def FirstAt (n : Nat) (p : Nat → Bool) (r : Int) : Prop := (r = -1 ∧ ∀ j, j < n → p j = false) ∨ ∃ k : Nat, k < n ∧ r = k ∧ p k = true ∧ ∀ j, j < k → p j = false
theorem ixLabel (b off n c : Nat) (zs : Nat → Value × Value) (p : Nat → Bool) (g : Nat) (lb : Array Value) (eg : ∀ args w, (callFunc g args).run Tryz.prog w = .ok (.enter g args) w) (w : World)
    (hp : ∀ (W : World) (j : Nat), j < n → Below w.heap.size w W → Calls Tryz.prog g (#[.agg #[(zs j).1, (zs j).2]] ++ lb) W fun e w' => e = .returned (.bool (p j)) ∧ Below w.heap.size w w')
    (hbig : n ≤ 9223372036854775807) (hb : b < w.heap.size) (hc : ∀ j, j < n → w.cell? ⟨b, off + j * 2, none⟩ = some (zs j).1 ∧ w.cell? ⟨b, off + j * 2 + 1, none⟩ = some (zs j).2) :
    Calls Tryz.prog 140 #[.slice (some ⟨b, off, none⟩) n c, .func (.func g) #[] lb] w fun e w' => (∃ r : Int, e = .returned (.int .i64 r) ∧ FirstAt n p r) ∧ Below w.heap.size w w' := by
  have hrow : ∀ (W : World), Below w.heap.size w W → ∀ j, j < n → W.cell? ⟨b, off + j * 2, none⟩ = some (zs j).1 ∧ W.cell? ⟨b, off + j * 2 + 1, none⟩ = some (zs j).2 := fun W hW j hj => by
    have h1 := hc j hj
    exact ⟨(hW.cell (p := ⟨b, off + j * 2, none⟩) hb).trans h1.1, (hW.cell (p := ⟨b, off + j * 2 + 1, none⟩) hb).trans h1.2⟩
  clear hc
  go_enter Tryz.func140, Tryz.ntmps140
  go_wp2
  go_loopg [5, 8] n (fun gg _ s8 wr => ∃ kk : Nat, kk ≤ n ∧ n - kk ≤ gg ∧ s8 = .int .i64 kk ∧ Aside (Below w.heap.size w wr) ∧ Aside (∀ j, j < kk → p j = false))
  case atStart => exact ⟨0, Nat.zero_le _, by omega, rfl, Below.refl _ w, fun j hj => absurd hj (Nat.not_lt_zero _)⟩
  case round =>
    obtain ⟨kk, hkk, hg, rfl, BW, A⟩ := hrel
    by_cases hlt : kk < n
    · have hltz : (kk : Int) < (n : Int) := by omega
      obtain ⟨l1, l2⟩ := hrow wr BW.out kk (by omega)
      have hcall := hp wr kk hlt BW.out
      clear hrow hp
      generalize (zs kk) = y at l1 l2 hcall
      obtain ⟨y1, y2⟩ := y
      simp only at l1 l2 hcall
      cases hq : p kk with
      | true =>
        rw [hq] at hcall
        have HQ := Lib.hid hq
        clear hq
        go_wp2_with (go_at_fn g; refine hcall.mono ?_; rintro e w' ⟨rfl, hb'⟩)
        go_ret
        exact ⟨⟨kk, rfl, .inr ⟨kk, hlt, rfl, HQ.out, A.out⟩⟩, hb'⟩
      | false =>
        rw [hq] at hcall
        have HQ := Lib.hid hq
        clear hq
        go_wp2_with (go_at_fn g; refine hcall.mono ?_; rintro e w' ⟨rfl, hb'⟩)
        go_roundg (n - (kk + 1))
        case measure => omega
        case rel =>
          refine ⟨kk + 1, by omega, by omega, by go_num, hb', (show Aside _ from fun j hj => ?_)⟩
          by_cases e : j = kk
          · subst e
            exact HQ.out
          · exact A.out j (by omega)
    · have hltz : ¬ (kk : Int) < (n : Int) := by omega
      have : kk = n := by omega
      subst this
      go_wp2
      go_ret
      exact ⟨⟨-1, rfl, .inl ⟨rfl, A.out⟩⟩, BW.out⟩
/-- 'string(b)' where the cells of b are known one by one. -/
theorem wpList_toStringC {P : Program} {w : World} {ops : Array Oper} {rest : List Oper} {o : Oper} {a : Act} {Q : Exit → Act → World → Prop} (hgd : o.guard = none) (x : Operand) (src dst e : TypeId)
    (ho : o.op = .convert src dst x) (hs : P.underlying src = some (.slice e)) (he : P.underlying e = some (.int .u8)) (hd : P.underlying dst = some .string) (g c : Nat) (l : List UInt8) (hx : a.eval x = .slice (some ⟨g, 0, none⟩) l.length c)
    (hc : ∀ j b, l[j]? = some b → w.cell? ⟨g, j, none⟩ = some (byteVal b))
    (h : wpList P ops Q rest (a.put o.dst (.string ⟨l.toArray⟩)) w) : wpList P ops Q (o :: rest) a w := by
  refine wpList_plain hgd fun K hK => ?_
  have hr : (convert src dst (.slice (some ⟨g, 0, none⟩) l.length c)).run P w = .ok (.string ⟨l.toArray⟩) w :=
    run_convert_bytes_back w src dst e ⟨g, 0, none⟩ c l hs he hd (fun j hj => by
      rw [add_zero]
      exact hc j _ (List.getElem?_eq_getElem hj))
  unfold Oper.wp execOp
  simp only [ho, Sem.run_bind, Sem.run_pure, Result.andThen_ok, hx, hr]
  exact hK _ _ h
end Go.Proofs.YteingkjdemlhgaaGreatDoor

/-
  Package label: Trimmed, Folded, Trim, Fold, Of, Find, Name.
-/
namespace Go.Proofs.YteingkjdemlhgaaGreatDoor
open Go.RowKit Go.Shelf Go.Lib
set_option maxRecDepth 1000000
theorem white_contains (c : UInt8) : [9, 10, 12, 13, 32].contains c = M.white c := by
  unfold M.white
  rw [Bool.eq_iff_iff]
  simp
  constructor <;> (rintro (h | h | h | h | h) <;> simp [h])
theorem trimS_eq (l : List UInt8) : Lib.trimS l [9, 10, 12, 13, 32] = M.trim l := by
  have e : (fun c : UInt8 => [9, 10, 12, 13, 32].contains c) = M.white := funext white_contains
  rw [M.trim_rev]
  unfold Lib.trimS Lib.trimLeftS Lib.trimRightS M.trimL M.trimR
  rw [e]
theorem trimmed_any (s : ByteArray) (w : World) (hs : s.size ≤ 9223372036854775807) : Calls Tryz.prog 139 #[.string s] w fun e w' => e = .returned (.string ⟨(M.trim s.data.toList).toArray⟩) ∧ Bel w w' := by
  have hcon : Calls Tryz.prog 165 #[.string s, .string ⟨#[9, 10, 12, 13, 32]⟩] w fun e w' => e = .returned (.string ⟨(Lib.trimS s.data.toList [9, 10, 12, 13, 32]).toArray⟩) ∧ Below w.heap.size w w' :=
    Any.strings_Trim_laid Tryz.lays160 (by kernel_rfl) s ⟨#[9, 10, 12, 13, 32]⟩ w hs (by decide) (ascii_of_all (by decide))
  rw [trimS_eq] at hcon
  generalize (⟨(M.trim s.data.toList).toArray⟩ : ByteArray) = r at hcon ⊢
  go_enter Tryz.func139, Tryz.ntmps139
  go_wp2_with (go_at_call 165; refine (hcon).mono ?_; rintro e w' ⟨rfl, hb⟩)
  go_ret
  exact ⟨rfl, hb⟩
theorem fold_at (l : List UInt8) (j : Nat) : (M.fold l)[j]? = l[j]?.map M.fold1 := by unfold M.fold; rw [List.getElem?_map]
theorem folded_any (s : ByteArray) (w : World) (hs : s.size ≤ 68719476735) : Calls Tryz.prog 111 #[.string s] w fun e w' => e = .returned (.string ⟨(M.fold s.data.toList).toArray⟩) ∧ Bel w w' := by
  have HS := Lib.hid (Lib.size_eq s)
  have HL := Lib.hid (show (M.fold s.data.toList).length = s.size by rw [M.fold_len, ← Lib.size_eq])
  go_enter Tryz.func111, Tryz.ntmps111
  go_wp2_with (first | ((with_reducible show wpList _ _ _ _ _ _); refine wpList_toBytes rfl (.tmp 6) _ _ 5 rfl Tryz.underlying9 Tryz.underlying120 Tryz.underlying5 s rfl (by omega) ?_; intro cb w2 hb2 hg2 hcb1 hcb2 hcellb hfrz))
  go_loopw [10] (fun i wr => ∃ k : Nat, k ≤ s.size ∧ i = .int .i64 k ∧ Below w.heap.size w2 wr ∧ Hid (∀ j b, s.data.toList[j]? = some b → wr.cell? ⟨w.heap.size, j, none⟩ = some (byteVal (if j < k then M.fold1 b else b))) ∧ (∀ j, j < s.size → wr.frozen? ⟨w.heap.size, j, none⟩ = false)) (fun i _ => s.size - (RowKit.intOf i).toNat)
  case atStart => exact ⟨0, by omega, rfl, Below.refl _ _, Lib.hid (fun j b hj => by rw [if_neg (by omega)]; exact hcellb j b hj), hfrz⟩
  case round =>
    obtain ⟨k, hk, rfl, hb, HC, hf⟩ := hrel
    by_cases hlt : k < s.size
    · have hbyte := byte_at s k hlt
      have hcell := HC.out k _ hbyte
      rw [if_neg (Nat.lt_irrefl k)] at hcell
      have hfz := hf k hlt
      have Hf := Lib.hid hf
      have HB := Lib.hid hbyte
      unfold byteVal at hcell
      clear hf hcellb hfrz hbyte
      generalize s[k] = c at *
      have hc0 : c.toNat < 256 := c.toNat_lt
      by_cases h1 : 65 ≤ c.toNat ∧ c.toNat ≤ 90
      · obtain ⟨h1, h2⟩ := h1
        have HN := Lib.hid (M.add32 c ⟨h1, h2⟩)
        go_wp2_with fail
        go_roundw
        case rel =>
          refine ⟨k + 1, by omega, by go_num, hb.setCell (Nat.le_refl _) _, Lib.hid (fun j b hj => ?_), fun j hj => by rw [World.frozen?_setCell]; exact Hf.out j hj⟩
          by_cases hjk : j = k
          · subst hjk
            rw [HB.out] at hj
            injection hj with hj
            subst hj
            rw [World.cell?_setCell_same _ _ _ hcell, if_pos (by omega), byteVal, M.fold1, if_pos ⟨h1, h2⟩, HN.out]
            rfl
          · rw [World.cell?_setCell_other _ _ _ _ (fun h => hjk (by injection h with _ h; exact h.symm)), HC.out j b hj]
            congr 2
            by_cases hjk2 : j < k
            · rw [if_pos hjk2, if_pos (by omega)]
            · rw [if_neg hjk2, if_neg (by omega)]
        case measure => simp [RowKit.intOf]; omega
      · have HF := Lib.hid (show M.fold1 c = c by rw [M.fold1, if_neg h1])
        have HR := Lib.hid (show ∀ j b, s.data.toList[j]? = some b → wr.cell? ⟨w.heap.size, j, none⟩ = some (byteVal (if j < k + 1 then M.fold1 b else b)) by
          intro j b hj
          rw [HC.out j b hj]
          congr 2
          by_cases hjk : j = k
          · subst hjk
            rw [HB.out] at hj
            injection hj with hj
            subst hj
            rw [if_neg (Nat.lt_irrefl _), if_pos (by omega), HF.out]
          · by_cases hjk2 : j < k
            · rw [if_pos hjk2, if_pos (by omega)]
            · rw [if_neg hjk2, if_neg (by omega)])
        by_cases h2 : 65 ≤ c.toNat
        · have h3 : ¬ c.toNat ≤ 90 := fun h => h1 ⟨h2, h⟩
          clear h1
          go_wp2_with fail
          go_roundw
          case rel => exact ⟨k + 1, by omega, by go_num, hb, HR, Hf.out⟩
          case measure => simp [RowKit.intOf]; omega
        · clear h1
          go_wp2_with fail
          go_roundw
          case rel => exact ⟨k + 1, by omega, by go_num, hb, HR, Hf.out⟩
          case measure => simp [RowKit.intOf]; omega
    · obtain rfl : k = s.size := by omega
      have HR := Lib.hid (show ∀ j b, (M.fold s.data.toList)[j]? = some b → wr.cell? ⟨w.heap.size, j, none⟩ = some (byteVal b) by
        intro j b hj
        rw [fold_at] at hj
        cases hq : s.data.toList[j]? with
        | none => rw [hq] at hj; cases hj
        | some c =>
          rw [hq] at hj
          injection hj with hj
          rw [HC.out j c hq, if_pos (by rw [Lib.size_eq]; exact (List.getElem?_eq_some_iff.1 hq).1), hj])
      clear hf hcellb hfrz HC
      go_wp2_with ((with_reducible show wpList _ _ _ _ _ _); refine wpList_toStringC rfl (.tmp 27) _ _ 5 rfl Tryz.underlying120 Tryz.underlying5 Tryz.underlying9 w.heap.size cb (M.fold s.data.toList) (by rw [HL.out]; rfl) HR.out ?_)
      go_ret
      exact ⟨rfl, hb2.upto hb (Nat.le_refl _)⟩
end Go.Proofs.YteingkjdemlhgaaGreatDoor

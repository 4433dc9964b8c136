/-
  Texts of the proof, laid together: PlainKana, PlainStream, PlainSingle, PlainMap, PlainEnc, PlainMark, PlainFront, Base, Base2, Base3. No condition of its own.
-/
import Derived.Test.YtcgdecpjlggekaaGreatDoorG1
import Derived.Maps.Views
import Derived.Lib.ItoaNum
import Derived.WalkKit
import Derived.Lib.Hide
import Derived.Lib.Strings
import Derived.Deep.AppendLies
import Derived.Deep.Draws
import Derived.Laws.OwnMore
import Derived.Test.YtcgdecpjlggekaaGreatDoorProg
import Derived.WalkLawsBesides
import Derived.WalkSpells
import Derived.Deep.QuietTactic
import Derived.BigQuiet
import Derived.Laws.IdiomStrings

/-
  Signs that are shifted, in plain functions and laws.
-/
namespace Go.Proofs.YtcgdecpjlggekaaGreatDoor.M
open Go

def signK (g : Int) (c : Nat) : Int :=
  if g = 2 ∧ 33 ≤ c ∧ c ≤ 95 then 65344 + (c : Int) else if g = 2 ∨ 128 ≤ c ∨ c = 14 ∨ c = 15 ∨ c = 27 then 65533 else if g = 1 ∧ c = 92 then 165 else if g = 1 ∧ c = 126 then 8254 else (c : Int)
def escK (x : UInt8) : Option Int := if x = 66 then some 0 else if x = 74 then some 1 else if x = 73 then some 2 else none
def headK : Bs → Option Int
  | d :: x :: _ => if d = 40 then escK x else none
  | _ => none
def waitK (t : Bs) : Bool := decide (t = [] ∨ t = [40])
def toldK (last : Bool) (g : Int) (f : Bool) : Bs → List Int × Int × Bool × Bs
  | [] => ([], g, f, [])
  | [c] => if c = 27 then (if last = true then ([65533], g, false, []) else ([], g, f, [c])) else ([signK g c.toNat], g, false, [])
  | [c, d] => if c = 27 then (if d = 40 ∧ last = false then ([], g, f, [c, d]) else (65533 :: (toldK last g false [d]).1, (toldK last g false [d]).2)) else (signK g c.toNat :: (toldK last g false [d]).1, (toldK last g false [d]).2)
  | c :: d :: x :: u => if c = 27 then
      (match (if d = 40 then escK x else none) with
        | some k => ((if f = true then [65533] else []) ++ (toldK last k true u).1, (toldK last k true u).2)
        | none => (65533 :: (toldK last g false (d :: x :: u)).1, (toldK last g false (d :: x :: u)).2))
      else (signK g c.toNat :: (toldK last g false (d :: x :: u)).1, (toldK last g false (d :: x :: u)).2)
def allK (s : Bs) : List Int := (toldK true 0 false s).1
def decK (s : Bs) : List Int × Int := if 3000 < s.length then ([], 2) else (allK s, 0)

theorem toldK_nil (last : Bool) (g : Int) (f : Bool) : toldK last g f [] = ([], g, f, []) := by rw [toldK]
theorem toldK_sign (last : Bool) (g : Int) (f : Bool) (c : UInt8) (t : Bs) (h : c ≠ 27) : toldK last g f (c :: t) = (signK g c.toNat :: (toldK last g false t).1, (toldK last g false t).2) := by
  match t with
  | [] => rw [toldK_nil, toldK, if_neg h]
  | [d] => conv => lhs; rw [toldK, if_neg h]
  | d :: x :: u => conv => lhs; rw [toldK, if_neg h]
theorem toldK_esc (last : Bool) (g k : Int) (f : Bool) (t : Bs) (h : headK t = some k) : toldK last g f (27 :: t) = ((if f = true then [65533] else []) ++ (toldK last k true (t.drop 2)).1, (toldK last k true (t.drop 2)).2) := by
  match t, h with
  | [], h => cases h
  | [d], h => cases h
  | d :: x :: u, h =>
    rw [headK] at h
    rw [toldK, if_pos rfl, h]
    rfl
theorem toldK_wait (g : Int) (f : Bool) (t : Bs) (h : waitK t = true) : toldK false g f (27 :: t) = ([], g, f, 27 :: t) := by
  simp only [waitK, decide_eq_true_eq] at h
  rcases h with rfl | rfl
  · rw [toldK, if_pos rfl]; simp
  · rw [toldK, if_pos rfl]; simp
theorem toldK_bad (last : Bool) (g : Int) (f : Bool) (t : Bs) (h : headK t = none) (h2 : waitK t = false ∨ last = true) : toldK last g f (27 :: t) = (65533 :: (toldK last g false t).1, (toldK last g false t).2) := by
  simp only [waitK, decide_eq_false_iff_not] at h2
  match t, h, h2 with
  | [], h, h2 =>
    have : last = true := by simpa using h2
    subst this
    rw [toldK_nil, toldK, if_pos rfl]; simp
  | [d], h, h2 =>
    conv => lhs; rw [toldK, if_pos rfl]
    rw [if_neg]
    rintro ⟨rfl, rfl⟩
    simp at h2
  | d :: x :: u, h, _ =>
    rw [headK] at h
    conv => lhs; rw [toldK, if_pos rfl, h]
theorem headK_wait (t : Bs) (h : waitK t = true) : headK t = none := by
  simp only [waitK, decide_eq_true_eq] at h
  rcases h with rfl | rfl <;> rfl
/-- The four ways. -/
theorem sayK (last : Bool) (g : Int) (f : Bool) (c : UInt8) (t : Bs) :
    (c ≠ 27 ∧ toldK last g f (c :: t) = (signK g c.toNat :: (toldK last g false t).1, (toldK last g false t).2)) ∨
    (c = 27 ∧ ∃ k x u, t = 40 :: x :: u ∧ escK x = some k ∧ headK t = some k ∧ toldK last g f (c :: t) = ((if f = true then [65533] else []) ++ (toldK last k true u).1, (toldK last k true u).2)) ∨
    (c = 27 ∧ waitK t = true ∧ headK t = none ∧ last = false ∧ toldK last g f (c :: t) = ([], g, f, c :: t)) ∨
    (c = 27 ∧ headK t = none ∧ (waitK t = false ∨ last = true) ∧ toldK last g f (c :: t) = (65533 :: (toldK last g false t).1, (toldK last g false t).2)) := by
  by_cases hc : c = 27
  · subst hc
    cases h : headK t with
    | some k =>
      have he := toldK_esc last g k f t h
      match t, h with
      | [], h => cases h
      | [d], h => cases h
      | d :: x :: u, h =>
        have h0 := h
        rw [headK] at h
        split at h
        · rename_i hd
          subst hd
          exact .inr (.inl ⟨rfl, k, x, u, rfl, h, rfl, he⟩)
        · cases h
    | none =>
      by_cases hw : waitK t = true ∧ last = false
      · obtain ⟨hw, rfl⟩ := hw
        exact .inr (.inr (.inl ⟨rfl, hw, rfl, rfl, toldK_wait g f t hw⟩))
      · have h2 : waitK t = false ∨ last = true := by
          cases hq : waitK t <;> cases last <;> simp_all
        exact .inr (.inr (.inr ⟨rfl, rfl, h2, toldK_bad last g f t h h2⟩))
  · exact .inl ⟨hc, toldK_sign last g f c t hc⟩
/-- What is left. -/
theorem toldK_rest (last : Bool) : ∀ (k : Nat) (s : Bs) (g : Int) (f : Bool), s.length ≤ k → (toldK last g f s).1.length + (toldK last g f s).2.2.2.length ≤ s.length ∧ ((toldK last g f s).2.2.2 = [] ∨ last = false ∧ ∃ t, waitK t = true ∧ (toldK last g f s).2.2.2 = 27 :: t)
  | _, [], g, f, _ => by simp [toldK_nil]
  | 0, _ :: _, _, _, h => by simp at h
  | k + 1, c :: t, g, f, h => by
    simp only [List.length_cons] at h
    rcases sayK last g f c t with ⟨_, e⟩ | ⟨rfl, q, x, u, rfl, _, _, e⟩ | ⟨rfl, h1, _, h2, e⟩ | ⟨rfl, _, _, e⟩
    · obtain ⟨i1, i2⟩ := toldK_rest last k t g false (by omega)
      rw [e]; exact ⟨by simp only [List.length_cons]; omega, i2⟩
    · simp only [List.length_cons] at h
      obtain ⟨i1, i2⟩ := toldK_rest last k u q true (by omega)
      rw [e]
      refine ⟨?_, i2⟩
      rw [List.length_append]
      have : (if f = true then [(65533 : Int)] else []).length ≤ 1 := by split <;> simp
      simp only [List.length_cons]; omega
    · rw [e]; exact ⟨by simp, .inr ⟨h2, t, h1, rfl⟩⟩
    · obtain ⟨i1, i2⟩ := toldK_rest last k t g false (by omega)
      rw [e]; exact ⟨by simp only [List.length_cons]; omega, i2⟩
theorem headK_app (t b : Bs) (h : waitK t = false) : headK (t ++ b) = headK t ∧ waitK (t ++ b) = false := by
  simp only [waitK, decide_eq_false_iff_not] at h ⊢
  match t, h with
  | [], h => simp at h
  | [d], h =>
    have hd : d ≠ 40 := by simpa using h
    constructor
    · cases b with
      | nil => rfl
      | cons x y => show (if d = 40 then escK x else none) = none; rw [if_neg hd]
    · simp [hd]
  | d :: x :: u, h => exact ⟨rfl, by simp⟩
/-- Two parts: the second one goes on where the first one stopped. -/
theorem toldK_app (last : Bool) : ∀ (k : Nat) (a b : Bs) (g : Int) (f : Bool), a.length ≤ k → toldK last g f (a ++ b) = ((toldK false g f a).1 ++ (toldK last (toldK false g f a).2.1 (toldK false g f a).2.2.1 ((toldK false g f a).2.2.2 ++ b)).1, (toldK last (toldK false g f a).2.1 (toldK false g f a).2.2.1 ((toldK false g f a).2.2.2 ++ b)).2)
  | _, [], b, g, f, _ => by simp [toldK_nil]
  | 0, _ :: _, _, _, _, h => by simp at h
  | k + 1, c :: t, b, g, f, h => by
    simp only [List.length_cons] at h
    rw [List.cons_append]
    rcases sayK false g f c t with ⟨h0, e⟩ | ⟨rfl, q, x, u, rfl, h1, _, e⟩ | ⟨rfl, h1, _, h2, e⟩ | ⟨rfl, h1, h2, e⟩
    · rw [toldK_sign last g f c _ h0, toldK_app last k t b g false (by omega), e]
      rfl
    · simp only [List.length_cons] at h
      rw [e, List.cons_append, List.cons_append, toldK_esc last g q f (40 :: x :: (u ++ b)) (by rw [headK, if_pos rfl, h1])]
      rw [show (40 :: x :: (u ++ b)).drop 2 = u ++ b from rfl, toldK_app last k u b q true (by omega)]
      simp
    · rw [e]; simp
    · have hw : waitK t = false := by simpa using h2
      obtain ⟨e1, e2⟩ := headK_app t b hw
      rw [toldK_bad last g f _ (by rw [e1]; exact h1) (.inl e2), toldK_app last k t b g false (by omega), e]
      rfl
theorem toldK_again (k : Nat) (s : Bs) (g : Int) (f : Bool) (h : s.length ≤ k) : toldK false (toldK false g f s).2.1 (toldK false g f s).2.2.1 (toldK false g f s).2.2.2 = ([], (toldK false g f s).2) := by
  rcases (toldK_rest false k s g f h).2 with h | ⟨_, t, h1, h2⟩
  · rw [h, toldK_nil]
    exact Prod.ext rfl (Prod.ext rfl (Prod.ext rfl h.symm))
  · rw [h2, toldK_wait _ _ t h1]
    exact Prod.ext rfl (Prod.ext rfl (Prod.ext rfl h2.symm))
/-- Which texts wait. -/
theorem waits_iff (s : Bs) (g : Int) (f : Bool) : toldK false g f s = ([], g, f, s) ↔ s = [] ∨ s = [27] ∨ s = [27, 40] := by
  constructor
  · intro h
    cases s with
    | nil => exact .inl rfl
    | cons c t =>
      rcases sayK false g f c t with ⟨_, e⟩ | ⟨rfl, q, x, u, rfl, _, _, e⟩ | ⟨rfl, h1, _, h2, e⟩ | ⟨rfl, _, _, e⟩
      · rw [h] at e; cases e
      · have := (toldK_rest false _ u q true (Nat.le_refl _)).1
        rw [h] at e
        have e4 := congrArg (fun r => r.2.2.2.length) e
        simp only [List.length_cons] at e4
        omega
      · simp only [waitK, decide_eq_true_eq] at h1
        rcases h1 with rfl | rfl <;> simp
      · rw [h] at e; cases e
  · rintro (rfl | rfl | rfl)
    · rw [toldK_nil]
    · exact toldK_wait g f [] rfl
    · exact toldK_wait g f [40] rfl
theorem signK_scalar (g : Int) (c : Nat) : scalar (signK g c) = true := by
  unfold signK
  (repeat' split) <;> simp only [scalar, decide_eq_true_eq] <;> omega
theorem toldK_scalar (last : Bool) : ∀ (k : Nat) (s : Bs) (g : Int) (f : Bool), s.length ≤ k → ∀ n ∈ (toldK last g f s).1, scalar n = true
  | _, [], g, f, _ => by simp [toldK_nil]
  | 0, _ :: _, _, _, h => by simp at h
  | k + 1, c :: t, g, f, h => by
    simp only [List.length_cons] at h
    rcases sayK last g f c t with ⟨_, e⟩ | ⟨rfl, q, x, u, rfl, _, _, e⟩ | ⟨rfl, h1, _, h2, e⟩ | ⟨rfl, _, _, e⟩
    · rw [e]; simp only [List.mem_cons, forall_eq_or_imp]; exact ⟨signK_scalar _ _, toldK_scalar last k t g false (by omega)⟩
    · simp only [List.length_cons] at h
      rw [e]
      intro n hn
      rw [List.mem_append] at hn
      rcases hn with hn | hn
      · split at hn
        · simp at hn; subst hn; decide
        · cases hn
      · exact toldK_scalar last k u q true (by omega) n hn
    · rw [e]; simp
    · rw [e]; simp only [List.mem_cons, forall_eq_or_imp]; exact ⟨by decide, toldK_scalar last k t g false (by omega)⟩
/-! ## The other way -/
def byteK (g n : Int) : Int := if n = 65533 then -1 else match (List.range 128).find? (fun c => signK g c == n) with | some c => (c : Int) | none => -1
def findK (now n : Int) : Int := if 0 ≤ byteK now n then now else if 0 ≤ byteK 0 n then 0 else if 0 ≤ byteK 1 n then 1 else if 0 ≤ byteK 2 n then 2 else -1
def escB (g : Int) : UInt8 := if g = 0 then 66 else if g = 1 then 74 else 73
def shiftB (now g : Int) : Bs := if g = now then [] else [27, 40, escB g]
def encK (now : Int) : List Int → Option Bs
  | [] => some (shiftB now 0)
  | n :: l => if findK now n < 0 then none else (encK (findK now n) l).map (shiftB now (findK now n) ++ UInt8.ofNat (byteK (findK now n) n).toNat :: ·)
def rawK (l : List Int) : Bs × Int := match encK 0 l with | some b => (b, 0) | none => ([], 5)
def encodeK (l : List Int) : Bs × Int := if 3000 < l.length then ([], 2) else rawK l
def hasK (n : Int) : Bool := decide (0 ≤ findK 0 n)

theorem byteK_cases (g n : Int) : (byteK g n = -1 ∧ ∀ c, c < 128 → n = 65533 ∨ signK g c ≠ n) ∨ ∃ c : Nat, c < 128 ∧ byteK g n = (c : Int) ∧ signK g c = n ∧ n ≠ 65533 ∧ c ≠ 27 ∧ ∀ j, j < c → signK g j ≠ n := by
  unfold byteK
  split
  · exact .inl ⟨rfl, fun c _ => .inl (by assumption)⟩
  · rename_i hn
    split
    · rename_i c hc
      obtain ⟨h1, as1, bs, h2, h3⟩ := List.find?_eq_some_iff_append.1 hc
      have hlt : c < 128 := by
        have := List.mem_of_find?_eq_some hc
        simpa using this
      have hs : signK g c = n := by simpa using h1
      refine .inr ⟨c, hlt, rfl, hs, hn, ?_, fun j hj => ?_⟩
      · rintro rfl
        apply hn
        rw [← hs]
        unfold signK
        rw [if_neg (by omega), if_pos (by simp)]
      · have hlen : as1.length = c := by
          have h4 : (List.range 128)[as1.length]? = some c := by rw [h2]; simp
          rw [List.getElem?_range (by
            have := congrArg List.length h2
            simp at this; omega)] at h4
          injection h4
        have h5 : (List.range 128)[j]? = some j := List.getElem?_range (by omega)
        rw [h2, List.getElem?_append_left (by omega)] at h5
        have := h3 j (List.mem_of_getElem? h5)
        simpa using this
    · rename_i hc
      refine .inl ⟨rfl, fun c hlt => .inr ?_⟩
      rw [List.find?_eq_none] at hc
      simpa using hc c (by simpa using hlt)
theorem findK_cases (now n : Int) : findK now n = -1 ∨ ((findK now n = now ∨ findK now n = 0 ∨ findK now n = 1 ∨ findK now n = 2) ∧ 0 ≤ byteK (findK now n) n) := by
  unfold findK
  (repeat' split) <;> simp [*]
theorem escB_esc (g : Int) (h : g = 0 ∨ g = 1 ∨ g = 2) : escK (escB g) = some g := by
  rcases h with rfl | rfl | rfl <;> rfl
theorem toldK_shift (last : Bool) (now g : Int) (u : Bs) (hg : g = 0 ∨ g = 1 ∨ g = 2) : ∃ f, toldK last now false (shiftB now g ++ u) = toldK last g f u := by
  unfold shiftB
  split
  · rename_i h
    subst h
    exact ⟨false, rfl⟩
  · refine ⟨true, ?_⟩
    rw [show ([27, 40, escB g] ++ u : Bs) = 27 :: (40 :: escB g :: u) from rfl, toldK_esc last now g false _ (by rw [headK, if_pos rfl, escB_esc g hg])]
    simp
theorem toldK_enc (last : Bool) : ∀ (l : List Int) (now : Int) (b : Bs), (now = 0 ∨ now = 1 ∨ now = 2) → encK now l = some b → ∃ f, ∀ u, toldK last now false (b ++ u) = (l ++ (toldK last 0 f u).1, (toldK last 0 f u).2)
  | [], now, b, h, hb => by
    rw [encK] at hb
    injection hb with hb
    subst hb
    unfold shiftB
    split
    · rename_i h0
      subst h0
      exact ⟨false, fun u => by simp⟩
    · refine ⟨true, fun u => ?_⟩
      rw [show ([27, 40, escB 0] ++ u : Bs) = 27 :: (40 :: escB 0 :: u) from rfl, toldK_esc last now 0 false _ (by rw [headK, if_pos rfl, escB_esc 0 (.inl rfl)])]
      simp
  | n :: l, now, b, h, hb => by
    rw [encK] at hb
    split at hb
    · cases hb
    · rename_i hf
      rcases findK_cases now n with h1 | ⟨h1, h2⟩
      · omega
      · have hg : findK now n = 0 ∨ findK now n = 1 ∨ findK now n = 2 := by omega
        generalize findK now n = g at hb hf h1 h2 hg
        cases hr : encK g l with
        | none => rw [hr] at hb; cases hb
        | some r =>
          rw [hr] at hb
          injection hb with hb
          subst hb
          rcases byteK_cases g n with ⟨h3, _⟩ | ⟨c, hc, h3, h4, h5, h6, _⟩
          · omega
          · rw [h3, Int.toNat_natCast]
            have hcn : (UInt8.ofNat c).toNat = c := UInt8.toNat_ofNat_of_lt' (show c < 256 by omega)
            obtain ⟨f, hf2⟩ := toldK_enc last l g r hg hr
            refine ⟨f, fun u => ?_⟩
            obtain ⟨f1, e⟩ := toldK_shift last now g (UInt8.ofNat c :: (r ++ u)) hg
            rw [List.append_assoc, List.cons_append, e, toldK_sign last g f1 _ _ (by intro hh; apply h6; rw [← hcn, hh]; rfl), hf2 u, hcn, h4]
            rfl
theorem allK_enc (l : List Int) (b : Bs) (h : encK 0 l = some b) : allK b = l ∧ allK (b ++ [92]) = l ++ [92] := by
  obtain ⟨f, hf⟩ := toldK_enc true l 0 b (.inl rfl) h
  constructor
  · have := hf []
    rw [List.append_nil] at this
    rw [allK, this, toldK_nil]
    simp
  · rw [allK, hf [92], toldK_sign true 0 f 92 [] (by decide), toldK_nil]
    rfl
def plainK (c : UInt8) : Bool := decide (c.toNat < 128 ∧ c.toNat ≠ 14 ∧ c.toNat ≠ 15 ∧ c.toNat ≠ 27)
theorem signK_plain (c : Nat) (h : c < 128 ∧ c ≠ 14 ∧ c ≠ 15 ∧ c ≠ 27) : signK 0 c = (c : Int) := by
  unfold signK
  rw [if_neg (by omega), if_neg (by omega), if_neg (by omega), if_neg (by omega)]
theorem byteK_plain (c : Nat) (h : c < 128 ∧ c ≠ 14 ∧ c ≠ 15 ∧ c ≠ 27) : byteK 0 (c : Int) = (c : Int) := by
  rcases byteK_cases 0 (c : Int) with ⟨_, h2⟩ | ⟨d, hd, h1, h2, h3, h4, h5⟩
  · rcases h2 c h.1 with h3 | h3
    · omega
    · exact absurd (signK_plain c h) h3
  · rw [h1]
    have : signK 0 d = (d : Int) ∨ signK 0 d = 65533 := by
      unfold signK
      rw [if_neg (by omega)]
      split
      · exact .inr rfl
      · rw [if_neg (by omega), if_neg (by omega)]; exact .inl rfl
    omega
theorem toldK_plain (last : Bool) : ∀ (s : Bs) (f : Bool), s.all plainK = true → (toldK last 0 f s).1 = s.map (fun c => (c.toNat : Int))
  | [], f, _ => by rw [toldK_nil]; rfl
  | c :: t, f, h => by
    rw [List.all_cons, Bool.and_eq_true] at h
    have hc := h.1
    simp only [plainK, decide_eq_true_eq] at hc
    rw [toldK_sign last 0 f c t (by rintro rfl; exact hc.2.2.2 rfl), signK_plain _ hc]
    simp only [toldK_plain last t false h.2, List.map_cons]
theorem encK_plain : ∀ (s : Bs), s.all plainK = true → encK 0 (s.map (fun c => (c.toNat : Int))) = some s
  | [], _ => rfl
  | c :: t, h => by
    rw [List.all_cons, Bool.and_eq_true] at h
    have hc := h.1
    simp only [plainK, decide_eq_true_eq] at hc
    have hb := byteK_plain _ hc
    have hf : findK 0 (c.toNat : Int) = 0 := by unfold findK; rw [if_pos (by rw [hb]; omega)]
    rw [List.map_cons, encK, hf, if_neg (by decide), encK_plain t h.2, hb]
    simp [shiftB]
/-! ## Escapes -/
def escsK (gs : List Int) : Bs := gs.flatMap (fun g => [27, 40, escB g])
def badsK : Bool → List Int → List Int
  | _, [] => []
  | f, _ :: gs => (if f = true then [65533] else []) ++ badsK true gs
def lastK (now : Int) : List Int → Int
  | [] => now
  | g :: gs => lastK g gs
def freshK (f : Bool) : List Int → Bool
  | [] => f
  | _ :: _ => true
theorem toldK_escs (last : Bool) : ∀ (gs : List Int) (now : Int) (f : Bool) (u : Bs), (∀ g ∈ gs, g = 0 ∨ g = 1 ∨ g = 2) → toldK last now f (escsK gs ++ u) = (badsK f gs ++ (toldK last (lastK now gs) (freshK f gs) u).1, (toldK last (lastK now gs) (freshK f gs) u).2)
  | [], now, f, u, _ => by simp [escsK, badsK, lastK, freshK]
  | g :: gs, now, f, u, h => by
    have e : escsK (g :: gs) ++ u = 27 :: (40 :: escB g :: (escsK gs ++ u)) := rfl
    have hg := h g (by simp)
    rw [e, toldK_esc last now g f _ (by rw [headK, if_pos rfl, escB_esc g hg])]
    rw [show (40 :: escB g :: (escsK gs ++ u)).drop 2 = escsK gs ++ u from rfl, toldK_escs last gs g true u (fun x hx => h x (by simp [hx]))]
    have hfr : freshK true gs = true := by cases gs <;> rfl
    rw [show freshK f (g :: gs) = true from rfl, hfr]
    simp [badsK, lastK]
/-! ## Steps of the walks -/
theorem byteK_hit (g n : Int) (k : Nat) (h : ∀ j, j < k → n = 65533 ∨ signK g j ≠ n) (hk : k < 128) (hs : signK g k = n) (hn : n ≠ 65533) : byteK g n = (k : Int) := by
  rcases byteK_cases g n with ⟨_, h2⟩ | ⟨c, hc, h1, h2, _, _, h5⟩
  · rcases h2 k hk with h3 | h3
    · exact absurd h3 hn
    · exact absurd hs h3
  · rw [h1]
    have h6 : ¬ c < k := fun hck => by
      rcases h c hck with h7 | h7
      · exact hn h7
      · exact h7 h2
    have h7 : ¬ k < c := fun hkc => h5 k hkc hs
    omega
theorem byteK_miss (g n : Int) (h : ∀ j, j < 128 → n = 65533 ∨ signK g j ≠ n) : byteK g n = -1 := by
  rcases byteK_cases g n with ⟨h1, _⟩ | ⟨c, hc, h1, h2, h3, _, h5⟩
  · exact h1
  · rcases h c hc with h4 | h4
    · exact absurd h4 h3
    · exact absurd h2 h4
theorem byteK_or (g n : Int) : byteK g n = -1 ∨ ∃ c : Nat, c < 128 ∧ byteK g n = (c : Int) ∧ c ≠ 27 := by
  rcases byteK_cases g n with ⟨h1, _⟩ | ⟨c, hc, h1, _, _, h4, _⟩
  · exact .inl h1
  · exact .inr ⟨c, hc, h1, h4⟩
theorem findK_or (now n : Int) : (findK now n = -1 ∧ byteK now n = -1 ∧ byteK 0 n = -1 ∧ byteK 1 n = -1 ∧ byteK 2 n = -1) ∨
    (∃ g c, findK now n = g ∧ (g = now ∨ g = 0 ∨ g = 1 ∨ g = 2) ∧ byteK g n = ((c : Nat) : Int) ∧ c < 128 ∧ c ≠ 27) := by
  have key : ∀ g, 0 ≤ byteK g n → ∃ c : Nat, byteK g n = (c : Int) ∧ c < 128 ∧ c ≠ 27 := fun g h => by
    rcases byteK_or g n with h1 | ⟨c, h1, h2, h3⟩
    · omega
    · exact ⟨c, h2, h1, h3⟩
  have neg : ∀ g, ¬ 0 ≤ byteK g n → byteK g n = -1 := fun g h => by
    rcases byteK_or g n with h1 | ⟨c, _, h2, _⟩
    · exact h1
    · omega
  unfold findK
  split
  · rename_i h
    obtain ⟨c, h1, h2, h3⟩ := key _ h
    exact .inr ⟨now, c, rfl, .inl rfl, h1, h2, h3⟩
  · rename_i h0
    split
    · rename_i h
      obtain ⟨c, h1, h2, h3⟩ := key _ h
      exact .inr ⟨0, c, rfl, .inr (.inl rfl), h1, h2, h3⟩
    · rename_i h1
      split
      · rename_i h
        obtain ⟨c, h1, h2, h3⟩ := key _ h
        exact .inr ⟨1, c, rfl, .inr (.inr (.inl rfl)), h1, h2, h3⟩
      · rename_i h2
        split
        · rename_i h
          obtain ⟨c, h1, h2, h3⟩ := key _ h
          exact .inr ⟨2, c, rfl, .inr (.inr (.inr rfl)), h1, h2, h3⟩
        · rename_i h3
          exact .inl ⟨rfl, neg _ h0, neg _ h1, neg _ h2, neg _ h3⟩
theorem encK_step (now g n : Int) (c : Nat) (l : List Int) (acc : Bs) (hf : findK now n = g) (hg : 0 ≤ g) (hb : byteK g n = (c : Int)) : (encK now (n :: l)).map (acc ++ ·) = (encK g l).map ((acc ++ shiftB now g ++ [UInt8.ofNat c]) ++ ·) := by
  rw [encK, hf, if_neg (by omega), hb, Int.toNat_natCast]
  cases encK g l <;> simp
theorem shiftB_len (now g : Int) : (shiftB now g).length ≤ 3 := by unfold shiftB; split <;> simp
end Go.Proofs.YtcgdecpjlggekaaGreatDoor.M

/-
  Bytes that come in pieces, in plain functions and laws.
-/
namespace Go.Proofs.YtcgdecpjlggekaaGreatDoor.M
open Go

structure St where
  enc : Int
  rest : Bs
  signs : Int
  fresh : Bool
  stopped : Bool
  deriving DecidableEq
def opn (n : Int) : St := ⟨n, [], 0, false, false⟩
def allE (n : Int) (s : Bs) : List Int :=
  if n = 1 then all8 s else if n = 2 ∨ n = 3 then all16 (n == 3) s else if n = 4 ∨ n = 5 then decodeS (n == 5) s else if n = 6 then allK s else if s = [] then [] else [65533]
def tellM (d : St) (b : Bs) : List Int × St :=
  if d.enc = 1 then ((told8 (d.rest ++ b)).1, { d with rest := (told8 (d.rest ++ b)).2 })
  else if d.enc = 2 ∨ d.enc = 3 then ((told16 (d.enc == 3) (d.rest ++ b)).1, { d with rest := (told16 (d.enc == 3) (d.rest ++ b)).2 })
  else if d.enc = 6 then ((toldK false d.signs d.fresh (d.rest ++ b)).1, { d with signs := (toldK false d.signs d.fresh (d.rest ++ b)).2.1, fresh := (toldK false d.signs d.fresh (d.rest ++ b)).2.2.1, rest := (toldK false d.signs d.fresh (d.rest ++ b)).2.2.2 })
  else if d.enc = 7 then (if d.stopped = true ∨ d.rest ++ b = [] then ([], d) else ([65533], { d with stopped := true }))
  else (allE d.enc (d.rest ++ b), d)
def endM (d : St) : List Int := if d.rest = [] then [] else if d.enc = 6 then (toldK true d.signs d.fresh d.rest).1 else [65533]
def rawM (d : St) (b : Bs) (last : Bool) : List Int × St := if last = true then ((tellM d b).1 ++ endM (tellM d b).2, opn d.enc) else tellM d b
def restOk (n : Int) (s : Bs) : Bool := decide (s = [] ∨ ((tellM (opn n) s).1 = [] ∧ (tellM (opn n) s).2.rest = s))
def stateOk (d : St) : Bool := !(decide (d.signs < 0 ∨ 2 < d.signs) || (decide (d.enc ≠ 6) && (decide (d.signs ≠ 0) || d.fresh)) || (decide (d.enc ≠ 7) && d.stopped))
def checkM (d : St) : Int := if isEnc d.enc = false then 6 else if 3 < d.rest.length ∨ restOk d.enc d.rest = false then 1 else if stateOk d = false then 4 else 0
def readyE (n : Int) (s : Bs) : Int := if isEnc n = false then 6 else if 3000 < s.length then 2 else 0
def decE (n : Int) (s : Bs) : List Int × Int := if readyE n s = 0 then (allE n s, 0) else ([], readyE n s)
def openE (n : Int) : St × Int := if isEnc n = true then (opn n, 0) else (⟨0, [], 0, false, false⟩, 6)
def feedE (d : St) (b : Bs) (last : Bool) : List Int × St × Int :=
  if checkM d = 0 then (if 3000 < b.length then ([], ⟨0, [], 0, false, false⟩, 2) else ((rawM d b last).1, (rawM d b last).2, 0)) else ([], ⟨0, [], 0, false, false⟩, checkM d)

/-! ## UTF-8 and UTF-16 in pieces -/
theorem go8_app : ∀ (m : Nat) (l b : Bs) (i n lo hi : Int), (go8 m l i n lo hi).2.2 = true → go8 m (l ++ b) i n lo hi = go8 m l i n lo hi
  | 0, l, b, i, n, lo, hi, _ => by rw [go8, go8]
  | m + 1, [], b, i, n, lo, hi, h => by simp [go8] at h
  | m + 1, c :: t, b, i, n, lo, hi, h => by
    rw [List.cons_append, go8]
    rw [go8] at h ⊢
    split
    · rfl
    · rename_i hc
      rw [if_neg hc] at h
      exact go8_app m t b _ _ _ _ h
theorem first8_app (c : UInt8) (t b : Bs) (h : (first8 (c :: t)).2.2 = true) : first8 (c :: t ++ b) = first8 (c :: t) := by
  rw [List.cons_append, first8]
  rw [first8] at h ⊢
  split
  · rfl
  · rename_i hc
    rw [if_neg hc] at h
    exact go8_app _ _ _ _ _ _ _ h
theorem told8_app : ∀ (k : Nat) (s b : Bs), s.length ≤ k → told8 (s ++ b) = ((told8 s).1 ++ (told8 ((told8 s).2 ++ b)).1, (told8 ((told8 s).2 ++ b)).2)
  | _, [], b, _ => by simp [told8_nil]
  | 0, _ :: _, _, h => by simp at h
  | k + 1, c :: t, b, h => by
    simp only [List.length_cons] at h
    cases hb : (first8 (c :: t)).2.2 with
    | false => rw [told8_no c t hb]; simp
    | true =>
      obtain ⟨h1, h2⟩ := first8_bounds c t
      have hf := first8_app c t b hb
      have hd : (c :: t ++ b).drop (first8 (c :: t)).2.1.toNat = (c :: t).drop (first8 (c :: t)).2.1.toNat ++ b := List.drop_append_of_le_length (by omega)
      rw [told8_ok c t hb]
      have e := told8_ok c (t ++ b) (by rw [← List.cons_append, hf]; exact hb)
      rw [← List.cons_append, hf, hd] at e
      rw [e, told8_app k _ b (by rw [List.length_drop]; simp only [List.length_cons] at h2 ⊢; omega)]
      rfl
theorem told8_again : ∀ (k : Nat) (s : Bs), s.length ≤ k → told8 (told8 s).2 = ([], (told8 s).2)
  | _, [], _ => rfl
  | 0, _ :: _, h => by simp at h
  | k + 1, c :: t, h => by
    simp only [List.length_cons] at h
    cases hb : (first8 (c :: t)).2.2 with
    | false => rw [told8_no c t hb]; exact told8_no c t hb
    | true =>
      obtain ⟨h1, h2⟩ := first8_bounds c t
      rw [told8_ok c t hb]
      exact told8_again k _ (by rw [List.length_drop]; simp only [List.length_cons] at h2 ⊢; omega)
theorem told8_rest (s : Bs) : (told8 s).2.length ≤ 3 := by
  obtain ⟨_, _, h, _⟩ := told8_cut _ s (Nat.le_refl _)
  exact h
theorem told16_app (big : Bool) : ∀ (k : Nat) (s b : Bs), s.length ≤ k → told16 big (s ++ b) = ((told16 big s).1 ++ (told16 big ((told16 big s).2 ++ b)).1, (told16 big ((told16 big s).2 ++ b)).2)
  | _, [], b, _ => by simp [told16_nil]
  | _, [a], b, _ => by simp [told16_one]
  | 0, _ :: _ :: _, _, h => by simp at h
  | k + 1, a :: c :: t, b, h => by
    simp only [List.length_cons] at h
    rcases say16 big a c t with ⟨h0, e⟩ | ⟨_, h2, e⟩ | ⟨x, y, u, rfl, h1, h2, e⟩ | ⟨x, y, u, rfl, h1, h2, e⟩
    · rw [e, List.cons_append, List.cons_append, told16_plain big a c (t ++ b) h0, told16_app big k t b (by omega)]; rfl
    · rw [e]; simp
    · simp only [List.length_cons] at h
      rw [e, List.cons_append, List.cons_append, List.cons_append, List.cons_append, told16_two big a c x y (u ++ b) h1 h2, told16_app big k u b (by omega)]; rfl
    · have ih := told16_app big k (x :: y :: u) b (by omega)
      rw [List.cons_append, List.cons_append] at ih
      rw [e, List.cons_append, List.cons_append, List.cons_append, List.cons_append, told16_lone big a c x y (u ++ b) h1 h2, ih]; rfl
theorem told16_again (big : Bool) : ∀ (k : Nat) (s : Bs), s.length ≤ k → told16 big (told16 big s).2 = ([], (told16 big s).2)
  | _, [], _ => by rw [told16_nil]; exact told16_nil big
  | _, [a], _ => by rw [told16_one]; exact told16_one big a
  | 0, _ :: _ :: _, h => by simp at h
  | k + 1, a :: c :: t, h => by
    simp only [List.length_cons] at h
    rcases say16 big a c t with ⟨h0, e⟩ | ⟨_, h2, e⟩ | ⟨x, y, u, rfl, h1, h2, e⟩ | ⟨x, y, u, rfl, h1, h2, e⟩
    · rw [e]; exact told16_again big k t (by omega)
    · rw [e]; exact e
    · simp only [List.length_cons] at h
      rw [e]; exact told16_again big k u (by omega)
    · rw [e]; exact told16_again big k _ (by omega)
/-! ## States that are right -/
theorem enc_cases (n : Int) (h : isEnc n = true) : n = 1 ∨ (n = 2 ∨ n = 3) ∨ (n = 4 ∨ n = 5) ∨ n = 6 ∨ n = 7 := by
  simp only [isEnc, decide_eq_true_eq] at h; omega
theorem toldK_signs (last : Bool) : ∀ (k : Nat) (s : Bs) (g : Int) (f : Bool), s.length ≤ k → 0 ≤ g ∧ g ≤ 2 → 0 ≤ (toldK last g f s).2.1 ∧ (toldK last g f s).2.1 ≤ 2
  | _, [], g, f, _, hg => by rw [toldK_nil]; exact hg
  | 0, _ :: _, _, _, h, _ => by simp at h
  | k + 1, c :: t, g, f, h, hg => by
    simp only [List.length_cons] at h
    rcases sayK last g f c t with ⟨_, e⟩ | ⟨rfl, q, x, u, rfl, hq, _, e⟩ | ⟨rfl, h1, _, h2, e⟩ | ⟨rfl, _, _, e⟩
    · rw [e]; exact toldK_signs last k t g false (by omega) hg
    · simp only [List.length_cons] at h
      rw [e]
      refine toldK_signs last k u q true (by omega) ?_
      unfold escK at hq
      (repeat' split at hq) <;> first | (injection hq with hq; omega) | cases hq
    · rw [e]; exact hg
    · rw [e]; exact toldK_signs last k t g false (by omega) hg
/-- What a right state is. -/
structure Right (d : St) : Prop where
  enc : isEnc d.enc = true
  r8 : d.enc = 1 → told8 d.rest = ([], d.rest)
  r16 : d.enc = 2 ∨ d.enc = 3 → told16 (d.enc == 3) d.rest = ([], d.rest)
  rk : d.enc = 6 → d.rest = [] ∨ d.rest = [27] ∨ d.rest = [27, 40]
  rn : d.enc = 4 ∨ d.enc = 5 ∨ d.enc = 7 → d.rest = []
  len : d.rest.length ≤ 3
  sg : 0 ≤ d.signs ∧ d.signs ≤ 2
  nk : d.enc ≠ 6 → d.signs = 0 ∧ d.fresh = false
  ns : d.enc ≠ 7 → d.stopped = false
theorem decodeS_nil (user : Bool) (s : Bs) : decodeS user s = [] ↔ s = [] := by
  unfold decodeS; simp
theorem tell_opn (n : Int) (s : Bs) :
    (n = 1 → tellM (opn n) s = ((told8 s).1, { opn n with rest := (told8 s).2 })) ∧
    (n = 2 ∨ n = 3 → tellM (opn n) s = ((told16 (n == 3) s).1, { opn n with rest := (told16 (n == 3) s).2 })) ∧
    (n = 4 ∨ n = 5 → tellM (opn n) s = (decodeS (n == 5) s, opn n)) ∧
    (n = 6 → tellM (opn n) s = ((toldK false 0 false s).1, { opn n with signs := (toldK false 0 false s).2.1, fresh := (toldK false 0 false s).2.2.1, rest := (toldK false 0 false s).2.2.2 })) ∧
    (n = 7 → tellM (opn n) s = (if s = [] then ([], opn n) else ([65533], { opn n with stopped := true }))) := by
  refine ⟨fun h => ?_, fun h => ?_, fun h => ?_, fun h => ?_, fun h => ?_⟩
  · rw [tellM, if_pos (by exact h)]; rfl
  · rw [tellM, if_neg (by simp only [opn]; omega), if_pos (by exact h)]; rfl
  · rw [tellM, if_neg (by simp only [opn]; omega), if_neg (by simp only [opn]; omega), if_neg (by simp only [opn]; omega), if_neg (by simp only [opn]; omega)]
    show (allE n s, opn n) = _
    rw [allE, if_neg (by omega), if_neg (by omega), if_pos h]
  · rw [tellM, if_neg (by simp only [opn]; omega), if_neg (by simp only [opn]; omega), if_pos (by exact h)]; rfl
  · rw [tellM, if_neg (by simp only [opn]; omega), if_neg (by simp only [opn]; omega), if_neg (by simp only [opn]; omega), if_pos (by exact h)]; simp [opn]
theorem restOk_iff (n : Int) (h : isEnc n = true) (s : Bs) : restOk n s = true ↔ (n = 1 → told8 s = ([], s)) ∧ (n = 2 ∨ n = 3 → told16 (n == 3) s = ([], s)) ∧ (n = 6 → s = [] ∨ s = [27] ∨ s = [27, 40]) ∧ (n = 4 ∨ n = 5 ∨ n = 7 → s = []) := by
  unfold restOk
  rw [decide_eq_true_eq]
  obtain ⟨t1, t2, t3, t4, t5⟩ := tell_opn n s
  rcases enc_cases n h with h2 | h2 | h2 | h2 | h2
  · rw [t1 h2]
    constructor
    · rintro (rfl | ⟨h3, h4⟩)
      · exact ⟨fun _ => rfl, fun h => by omega, fun h => by omega, fun _ => rfl⟩
      · exact ⟨fun _ => Prod.ext h3 h4, fun h => by omega, fun h => by omega, fun h => by omega⟩
    · rintro ⟨h1, _⟩
      rw [h1 h2]
      exact .inr ⟨rfl, rfl⟩
  · rw [t2 h2]
    constructor
    · rintro (rfl | ⟨h3, h4⟩)
      · exact ⟨fun _ => rfl, fun _ => told16_nil _, fun h => by omega, fun _ => rfl⟩
      · exact ⟨fun h => by omega, fun _ => Prod.ext h3 h4, fun h => by omega, fun h => by omega⟩
    · rintro ⟨_, h1, _⟩
      rw [h1 h2]
      exact .inr ⟨rfl, rfl⟩
  · rw [t3 h2]
    constructor
    · rintro (rfl | ⟨h3, h4⟩)
      · exact ⟨fun h => by omega, fun h => by omega, fun h => by omega, fun _ => rfl⟩
      · exact ⟨fun h => by omega, fun h => by omega, fun h => by omega, fun _ => (decodeS_nil _ _).1 h3⟩
    · rintro ⟨_, _, _, h1⟩
      exact .inl (h1 (by omega))
  · rw [t4 h2]
    constructor
    · rintro (rfl | ⟨h3, h4⟩)
      · exact ⟨fun h => by omega, fun h => by omega, fun h => .inl rfl, fun _ => rfl⟩
      · refine ⟨fun h => by omega, fun h => by omega, fun _ => ?_, fun h => by omega⟩
        simp only at h3 h4
        cases s with
        | nil => exact .inl rfl
        | cons c t =>
          rcases sayK false 0 false c t with ⟨_, e⟩ | ⟨rfl, q, x, u, rfl, _, _, e⟩ | ⟨rfl, h1, _, h2, e⟩ | ⟨rfl, _, _, e⟩
          · rw [e] at h3; cases h3
          · have := (toldK_rest false _ u q true (Nat.le_refl _)).1
            rw [e] at h4
            have h4 := congrArg List.length h4
            simp only [List.length_cons] at h4
            omega
          · simp only [waitK, decide_eq_true_eq] at h1
            rcases h1 with rfl | rfl <;> simp
          · rw [e] at h3; cases h3
    · rintro ⟨_, _, h1, _⟩
      have := (waits_iff s 0 false).2 (h1 h2)
      rw [this]
      exact .inr ⟨rfl, rfl⟩
  · rw [t5 h2]
    constructor
    · rintro (rfl | ⟨h3, h4⟩)
      · exact ⟨fun h => by omega, fun h => by omega, fun h => .inl rfl, fun _ => rfl⟩
      · by_cases hs : s = []
        · subst hs; exact ⟨fun h => by omega, fun h => by omega, fun h => .inl rfl, fun _ => rfl⟩
        · rw [if_neg hs] at h3; cases h3
    · rintro ⟨_, _, _, h1⟩
      exact .inl (h1 (by omega))
theorem check_right (d : St) : checkM d = 0 ↔ Right d := by
  unfold checkM
  constructor
  · intro h
    split at h
    · cases h
    · rename_i h1
      rw [Bool.not_eq_false] at h1
      split at h
      · cases h
      · rename_i h2
        split at h
        · cases h
        · rename_i h3
          have h4 : restOk d.enc d.rest = true := by rw [← Bool.not_eq_false]; exact fun hh => h2 (.inr hh)
          obtain ⟨a1, a2, a3, a4⟩ := (restOk_iff d.enc h1 d.rest).1 h4
          simp only [stateOk, Bool.not_eq_false', Bool.or_eq_true, Bool.and_eq_true, decide_eq_true_eq, not_or, not_and] at h3
          obtain ⟨⟨b1, b2⟩, b3⟩ := h3
          refine ⟨h1, a1, a2, a3, a4, by omega, by omega, fun h6 => ?_, fun h7 => ?_⟩
          · have := b2 h6
            exact ⟨by omega, by simpa using this.2⟩
          · simpa using b3 h7
  · intro h
    rw [if_neg (by rw [h.enc]; decide), if_neg, if_neg]
    · have hk := h.nk
      have hs := h.ns
      have hg := h.sg
      simp only [stateOk, Bool.not_eq_false', Bool.or_eq_true, Bool.and_eq_true, decide_eq_true_eq, not_or, not_and]
      refine ⟨⟨by omega, fun h6 => ?_⟩, fun h7 => by simp [hs h7]⟩
      obtain ⟨h8, h9⟩ := hk h6
      exact ⟨by omega, by simp [h9]⟩
    · rintro (hh | hh)
      · have := h.len; omega
      · rw [(restOk_iff d.enc h.enc d.rest).2 ⟨h.r8, h.r16, h.rk, h.rn⟩] at hh; cases hh
theorem right_opn (n : Int) (h : isEnc n = true) : Right (opn n) :=
  ⟨h, fun _ => rfl, fun _ => told16_nil _, fun _ => .inl rfl, fun _ => rfl, by simp [opn], by simp [opn], fun _ => ⟨rfl, rfl⟩, fun _ => rfl⟩
theorem tell_enc (d : St) (b : Bs) : (tellM d b).2.enc = d.enc := by
  unfold tellM; (repeat' split) <;> rfl
theorem right_tell (d : St) (b : Bs) (h : Right d) : Right (tellM d b).2 := by
  rcases enc_cases d.enc h.enc with h1 | h1 | h1 | h1 | h1
  · have e : tellM d b = ((told8 (d.rest ++ b)).1, { d with rest := (told8 (d.rest ++ b)).2 }) := by rw [tellM, if_pos h1]
    rw [e]
    exact ⟨h.enc, fun _ => told8_again _ _ (Nat.le_refl _), fun h2 => by simp only at h2; omega, fun h2 => by simp only at h2; omega, fun h2 => by simp only at h2; omega, told8_rest _, h.sg, h.nk, h.ns⟩
  · have e : tellM d b = ((told16 (d.enc == 3) (d.rest ++ b)).1, { d with rest := (told16 (d.enc == 3) (d.rest ++ b)).2 }) := by rw [tellM, if_neg (by omega), if_pos h1]
    rw [e]
    exact ⟨h.enc, fun h2 => by simp only at h2; omega, fun _ => told16_again _ _ _ (Nat.le_refl _), fun h2 => by simp only at h2; omega, fun h2 => by simp only at h2; omega, (told16_len _ _ _ (Nat.le_refl _)).2, h.sg, h.nk, h.ns⟩
  · have e : tellM d b = (allE d.enc (d.rest ++ b), d) := by rw [tellM, if_neg (by omega), if_neg (by omega), if_neg (by omega), if_neg (by omega)]
    rw [e]; exact h
  · have e : tellM d b = ((toldK false d.signs d.fresh (d.rest ++ b)).1, { d with signs := (toldK false d.signs d.fresh (d.rest ++ b)).2.1, fresh := (toldK false d.signs d.fresh (d.rest ++ b)).2.2.1, rest := (toldK false d.signs d.fresh (d.rest ++ b)).2.2.2 }) := by rw [tellM, if_neg (by omega), if_neg (by omega), if_pos h1]
    rw [e]
    have hr := (toldK_rest false _ (d.rest ++ b) d.signs d.fresh (Nat.le_refl _)).2
    have hr2 : (toldK false d.signs d.fresh (d.rest ++ b)).2.2.2 = [] ∨ (toldK false d.signs d.fresh (d.rest ++ b)).2.2.2 = [27] ∨ (toldK false d.signs d.fresh (d.rest ++ b)).2.2.2 = [27, 40] := by
      rcases hr with hr | ⟨_, t, ht, hr⟩
      · exact .inl hr
      · simp only [waitK, decide_eq_true_eq] at ht
        rcases ht with rfl | rfl
        · exact .inr (.inl hr)
        · exact .inr (.inr hr)
    refine ⟨h.enc, fun h2 => by simp only at h2; omega, fun h2 => by simp only at h2; omega, fun _ => hr2, fun h2 => by simp only at h2; omega, ?_, toldK_signs false _ _ _ _ (Nat.le_refl _) h.sg, fun h2 => absurd h1 h2, h.ns⟩
    rcases hr2 with hr2 | hr2 | hr2 <;> simp [hr2]
  · have e : tellM d b = (if d.stopped = true ∨ d.rest ++ b = [] then ([], d) else ([65533], { d with stopped := true })) := by rw [tellM, if_neg (by omega), if_neg (by omega), if_neg (by omega), if_pos h1]
    rw [e]
    split
    · exact h
    · exact ⟨h.enc, h.r8, h.r16, h.rk, h.rn, h.len, h.sg, h.nk, fun h2 => absurd h1 h2⟩
/-- Two parts: the second one goes on where the first one stopped. -/
theorem tell_app (d : St) (h : Right d) (a b : Bs) : tellM d (a ++ b) = ((tellM d a).1 ++ (tellM (tellM d a).2 b).1, (tellM (tellM d a).2 b).2) := by
  rcases enc_cases d.enc h.enc with h1 | h1 | h1 | h1 | h1
  · have e : ∀ b, tellM d b = ((told8 (d.rest ++ b)).1, { d with rest := (told8 (d.rest ++ b)).2 }) := fun b => by rw [tellM, if_pos h1]
    rw [e a, e (a ++ b), tellM, if_pos (by exact h1), ← List.append_assoc, told8_app _ (d.rest ++ a) b (Nat.le_refl _)]
  · have e : ∀ b, tellM d b = ((told16 (d.enc == 3) (d.rest ++ b)).1, { d with rest := (told16 (d.enc == 3) (d.rest ++ b)).2 }) := fun b => by rw [tellM, if_neg (by omega), if_pos h1]
    rw [e a, e (a ++ b), tellM, if_neg (by simp only; omega), if_pos (by exact h1), ← List.append_assoc, told16_app _ _ (d.rest ++ a) b (Nat.le_refl _)]
  · have e : ∀ b, tellM d b = (allE d.enc (d.rest ++ b), d) := fun b => by rw [tellM, if_neg (by omega), if_neg (by omega), if_neg (by omega), if_neg (by omega)]
    rw [e a, e (a ++ b)]
    simp only
    rw [e b, h.rn (by omega), List.nil_append, List.nil_append, List.nil_append]
    have e2 : ∀ s, allE d.enc s = decodeS (d.enc == 5) s := fun s => by rw [allE, if_neg (by omega), if_neg (by omega), if_pos h1]
    rw [e2, e2, e2, decodeS, List.map_append]
    rfl
  · have e : ∀ b, tellM d b = ((toldK false d.signs d.fresh (d.rest ++ b)).1, { d with signs := (toldK false d.signs d.fresh (d.rest ++ b)).2.1, fresh := (toldK false d.signs d.fresh (d.rest ++ b)).2.2.1, rest := (toldK false d.signs d.fresh (d.rest ++ b)).2.2.2 }) := fun b => by rw [tellM, if_neg (by omega), if_neg (by omega), if_pos h1]
    rw [e a, e (a ++ b), tellM, if_neg (by simp only; omega), if_neg (by simp only; omega), if_pos (by exact h1), ← List.append_assoc, toldK_app false _ (d.rest ++ a) b _ _ (Nat.le_refl _)]
  · have e : ∀ d : St, d.enc = 7 → ∀ b, tellM d b = (if d.stopped = true ∨ d.rest ++ b = [] then ([], d) else ([65533], { d with stopped := true })) := fun d h1 b => by rw [tellM, if_neg (by omega), if_neg (by omega), if_neg (by omega), if_pos h1]
    have hr := h.rn (by omega)
    by_cases ha : a = []
    · subst ha
      rw [List.nil_append, e d h1 [], if_pos (.inr (by rw [hr]; rfl))]
      rfl
    · by_cases hs : d.stopped = true
      · rw [e d h1 (a ++ b), e d h1 a, if_pos (.inl hs), if_pos (.inl hs), e d h1 b, if_pos (.inl hs)]
        rfl
      · rw [e d h1 (a ++ b), e d h1 a, if_neg (by simp [hs, ha]), if_neg (by simp [hs, ha])]
        simp only
        rw [e { d with stopped := true } h1 b, if_pos (.inl rfl)]
        rfl
theorem endM_nil (d : St) (h : d.rest = []) : endM d = [] := by rw [endM, if_pos h]
theorem endM_one (d : St) (h : d.rest ≠ []) (h2 : d.enc ≠ 6) : endM d = [65533] := by rw [endM, if_neg h, if_neg h2]
theorem endM_k (d : St) (h2 : d.enc = 6) : endM d = (toldK true d.signs d.fresh d.rest).1 := by
  by_cases h : d.rest = []
  · rw [endM_nil d h, h, toldK_nil]
  · rw [endM, if_neg h, if_pos h2]
/-- What is told of all bytes at once. -/
theorem raw_all (n : Int) (h : isEnc n = true) (s : Bs) : (rawM (opn n) s true).1 = allE n s := by
  rw [rawM, if_pos rfl]
  obtain ⟨t1, t2, t3, t4, t5⟩ := tell_opn n s
  rcases enc_cases n h with h1 | h1 | h1 | h1 | h1
  · rw [t1 h1, allE, if_pos h1, all8]
    by_cases hr : (told8 s).2 = []
    · rw [endM_nil _ hr, if_pos hr]; simp
    · rw [endM_one _ hr (by simp only [opn]; omega), if_neg hr]
  · rw [t2 h1, allE, if_neg (by omega), if_pos h1, all16]
    by_cases hr : (told16 (n == 3) s).2 = []
    · rw [endM_nil _ hr, if_pos hr]; simp
    · rw [endM_one _ hr (by simp only [opn]; omega), if_neg hr]
  · rw [t3 h1, allE, if_neg (by omega), if_neg (by omega), if_pos h1, endM_nil _ rfl]
    simp
  · rw [t4 h1, allE, if_neg (by omega), if_neg (by omega), if_neg (by omega), if_pos h1, allK, endM_k _ h1]
    have := toldK_app true _ s [] 0 false (Nat.le_refl _)
    rw [List.append_nil, List.append_nil] at this
    rw [this]
  · have ea : allE n s = if s = [] then [] else [65533] := by rw [allE, if_neg (by omega), if_neg (by omega), if_neg (by omega), if_neg (by omega)]
    rw [t5 h1, ea]
    by_cases hs : s = []
    · rw [if_pos hs, if_pos hs, endM_nil _ rfl]; rfl
    · rw [if_neg hs, if_neg hs, endM_nil _ rfl]; rfl
/-- Pieces. -/
theorem raw_app (d : St) (h : Right d) (a b : Bs) (last : Bool) : rawM d (a ++ b) last = ((rawM d a false).1 ++ (rawM (rawM d a false).2 b last).1, (rawM (rawM d a false).2 b last).2) := by
  have e := tell_app d h a b
  simp only [rawM, if_neg (show ¬ (false = true) by decide)]
  cases last
  · simp only [if_neg (show ¬ (false = true) by decide)]; exact e
  · simp only [if_true, e, tell_enc, List.append_assoc]
theorem right_raw (d : St) (b : Bs) (last : Bool) (h : Right d) : Right (rawM d b last).2 := by
  unfold rawM
  split
  · exact right_opn _ h.enc
  · exact right_tell d b h
theorem raw_enc (d : St) (b : Bs) (last : Bool) : (rawM d b last).2.enc = d.enc := by
  unfold rawM
  split
  · rfl
  · exact tell_enc d b
theorem raw_last (d : St) (b : Bs) : (rawM d b true).2 = opn d.enc := by rw [rawM, if_pos rfl]
/-- The document's way to feed: what is left is told as one Bad. -/
def refM (d : St) (b : Bs) (last : Bool) : List Int × St :=
  let s := d.rest ++ b
  let r : List Int × Int × Bool × Bool × Bs :=
    if d.enc = 1 then ((told8 s).1, d.signs, d.fresh, d.stopped, (told8 s).2)
    else if d.enc = 2 ∨ d.enc = 3 then ((told16 (d.enc == 3) s).1, d.signs, d.fresh, d.stopped, (told16 (d.enc == 3) s).2)
    else if d.enc = 4 ∨ d.enc = 5 then (decodeS (d.enc == 5) s, d.signs, d.fresh, d.stopped, [])
    else if d.enc = 6 then ((toldK last d.signs d.fresh s).1, (toldK last d.signs d.fresh s).2.1, (toldK last d.signs d.fresh s).2.2.1, d.stopped, (toldK last d.signs d.fresh s).2.2.2)
    else if d.enc = 7 ∧ s ≠ [] ∧ d.stopped = false then ([65533], d.signs, d.fresh, true, [])
    else ([], d.signs, d.fresh, d.stopped, [])
  if last = true then (if r.2.2.2.2 = [] then r.1 else r.1 ++ [65533], opn d.enc) else (r.1, ⟨d.enc, r.2.2.2.2, r.2.1, r.2.2.1, r.2.2.2.1⟩)
theorem ref_raw (d : St) (h : Right d) (b : Bs) (last : Bool) : refM d b last = rawM d b last := by
  rcases enc_cases d.enc h.enc with h1 | h1 | h1 | h1 | h1
  · have e : tellM d b = ((told8 (d.rest ++ b)).1, { d with rest := (told8 (d.rest ++ b)).2 }) := by rw [tellM, if_pos h1]
    simp only [refM, if_pos h1, rawM, e]
    cases last
    · rfl
    · simp only [if_true, Prod.mk.injEq, and_true]
      by_cases hr : (told8 (d.rest ++ b)).2 = []
      · rw [endM_nil _ hr, if_pos hr]; simp
      · rw [endM_one _ hr (by simp only; omega), if_neg hr]
  · have e : tellM d b = ((told16 (d.enc == 3) (d.rest ++ b)).1, { d with rest := (told16 (d.enc == 3) (d.rest ++ b)).2 }) := by rw [tellM, if_neg (by omega), if_pos h1]
    simp only [refM, if_neg (show ¬ d.enc = 1 by omega), if_pos h1, rawM, e]
    cases last
    · rfl
    · simp only [if_true, Prod.mk.injEq, and_true]
      by_cases hr : (told16 (d.enc == 3) (d.rest ++ b)).2 = []
      · rw [endM_nil _ hr, if_pos hr]; simp
      · rw [endM_one _ hr (by simp only; omega), if_neg hr]
  · have e : tellM d b = (allE d.enc (d.rest ++ b), d) := by rw [tellM, if_neg (by omega), if_neg (by omega), if_neg (by omega), if_neg (by omega)]
    have e2 : ∀ s, allE d.enc s = decodeS (d.enc == 5) s := fun s => by rw [allE, if_neg (by omega), if_neg (by omega), if_pos h1]
    have hr := h.rn (by omega)
    simp only [refM, if_neg (show ¬ d.enc = 1 by omega), if_neg (show ¬ (d.enc = 2 ∨ d.enc = 3) by omega), if_pos h1, rawM, e, e2]
    cases last
    · obtain ⟨n, r, g, f, s⟩ := d
      simp only at hr
      subst hr
      rfl
    · rw [endM_nil d hr]; simp
  · have e : tellM d b = ((toldK false d.signs d.fresh (d.rest ++ b)).1, { d with signs := (toldK false d.signs d.fresh (d.rest ++ b)).2.1, fresh := (toldK false d.signs d.fresh (d.rest ++ b)).2.2.1, rest := (toldK false d.signs d.fresh (d.rest ++ b)).2.2.2 }) := by rw [tellM, if_neg (by omega), if_neg (by omega), if_pos h1]
    simp only [refM, if_neg (show ¬ d.enc = 1 by omega), if_neg (show ¬ (d.enc = 2 ∨ d.enc = 3) by omega), if_neg (show ¬ (d.enc = 4 ∨ d.enc = 5) by omega), if_pos h1, rawM, e]
    cases last
    · rfl
    · have hl := toldK_app true _ (d.rest ++ b) [] d.signs d.fresh (Nat.le_refl _)
      rw [List.append_nil, List.append_nil] at hl
      have hr : (toldK true d.signs d.fresh (d.rest ++ b)).2.2.2 = [] := by
        rcases (toldK_rest true _ (d.rest ++ b) d.signs d.fresh (Nat.le_refl _)).2 with h2 | ⟨h2, _⟩
        · exact h2
        · cases h2
      simp only [if_true, hr, Prod.mk.injEq, and_true]
      rw [endM_k _ (by exact h1), hl]
  · have e : tellM d b = (if d.stopped = true ∨ d.rest ++ b = [] then ([], d) else ([65533], { d with stopped := true })) := by rw [tellM, if_neg (by omega), if_neg (by omega), if_neg (by omega), if_pos h1]
    have hr := h.rn (by omega)
    simp only [refM, if_neg (show ¬ d.enc = 1 by omega), if_neg (show ¬ (d.enc = 2 ∨ d.enc = 3) by omega), if_neg (show ¬ (d.enc = 4 ∨ d.enc = 5) by omega), if_neg (show ¬ d.enc = 6 by omega), rawM, e]
    obtain ⟨n, r, g, f, s⟩ := d
    simp only at hr h1
    subst hr
    subst h1
    by_cases hb : b = [] <;> cases s <;> cases last <;> simp [hb, endM, opn]
end Go.Proofs.YtcgdecpjlggekaaGreatDoor.M

/-
  Plain laws on encodings of a byte a sign.
-/
namespace Go.Proofs.YtcgdecpjlggekaaGreatDoor.M
open Go
theorem idx_found (xs : List Int) (n : Int) (k : Nat) (h : xs[k]? = some n) (hno : ∀ j, j < k → xs[j]? ≠ some n) : idx xs n = k := by
  have : xs.findIdx? (fun x => x == n) = some k := by
    rw [List.findIdx?_eq_some_iff_getElem]
    obtain ⟨hk, he⟩ := List.getElem?_eq_some_iff.1 h
    refine ⟨hk, by simp [he], fun j hj => ?_⟩
    have hjl : j < xs.length := by omega
    have := hno j hj
    rw [List.getElem?_eq_getElem hjl] at this
    simpa using this
  rw [idx, this]
theorem idx_none (xs : List Int) (n : Int) (hno : ∀ j, j < xs.length → xs[j]? ≠ some n) : idx xs n = -1 := by
  have : xs.findIdx? (fun x => x == n) = none := by
    rw [List.findIdx?_eq_none_iff]
    intro x hx
    obtain ⟨j, hj, rfl⟩ := List.getElem_of_mem hx
    have := hno j hj
    rw [List.getElem?_eq_getElem hj] at this
    simpa using this
  rw [idx, this]
theorem idx_cases (xs : List Int) (n : Int) : (idx xs n = -1 ∧ ∀ j, j < xs.length → xs[j]? ≠ some n) ∨ ∃ k : Nat, idx xs n = k ∧ xs[k]? = some n ∧ ∀ j, j < k → xs[j]? ≠ some n := by
  by_cases h : ∃ k : Nat, xs[k]? = some n
  · have h2 : ∃ k : Nat, xs[k]? = some n ∧ ∀ j, j < k → xs[j]? ≠ some n := by
      obtain ⟨k, hk⟩ := h
      induction k using Nat.strongRecOn with
      | _ k ih =>
        by_cases h3 : ∃ j : Nat, j < k ∧ xs[j]? = some n
        · obtain ⟨j, hj, hh⟩ := h3
          exact ih j hj hh
        · exact ⟨k, hk, fun j hj hh => h3 ⟨j, hj, hh⟩⟩
    obtain ⟨k, hk, hno⟩ := h2
    exact .inr ⟨k, idx_found xs n k hk hno, hk, hno⟩
  · have hno : ∀ j, j < xs.length → xs[j]? ≠ some n := fun j _ hh => h ⟨j, hh⟩
    exact .inl ⟨idx_none xs n hno, hno⟩
end Go.Proofs.YtcgdecpjlggekaaGreatDoor.M

/-
  The map from code points to bytes that an encoder fills.
-/
namespace Go.Proofs.YtcgdecpjlggekaaGreatDoor.M
open Go
theorem table_nodup : ∀ user, (tableOf user).Nodup := by decide +kernel
theorem pointOf_inj (user : Bool) (i j : Nat) (hi : i < 256) (hj : j < 256) (h : pointOf user i = pointOf user j) : i = j := by
  have hl : (tableOf user).length = 256 := by simp [tableOf]
  have h1 : (tableOf user)[i]'(by omega) = (tableOf user)[j]'(by omega) := by simpa [tableOf] using h
  exact (List.getElem_inj (table_nodup user)).1 h1
def Dk (user : Bool) : Nat → DataW Unit
  | 0 => .map []
  | k + 1 => (Dk user k).put (.int .i64 (pointOf user k)) (.lit (.int .i64 (k : Int)))
theorem key (n : Int) : WideAt.IsKeyLit (.int .i64 n) := by simp [WideAt.IsKeyLit]
theorem Dk_isMap (user : Bool) (k : Nat) : Maps.IsMap (Dk user k) := by
  cases k with
  | zero => exact Maps.isMap_empty
  | succ k => 
    induction k with
    | zero => exact Maps.isMap_empty.put _ _
    | succ k ih => exact ih.put _ _
theorem Dk_miss (user : Bool) (n : Int) : ∀ k, (∀ j, j < k → pointOf user j ≠ n) → Maps.has (Dk user k) (.int .i64 n) = false
  | 0, _ => rfl
  | k + 1, h => by
    rw [Dk, Maps.has_put_other (by intro e; injection e with _ e; exact h k (by omega) e.symm)]
    exact Dk_miss user n k (fun j hj => h j (by omega))
theorem Dk_hit (user : Bool) (n : Int) (j : Nat) (hn : pointOf user j = n) : ∀ k, k ≤ 256 → j < k → Maps.has (Dk user k) (.int .i64 n) = true ∧ ∀ z, (Dk user k).atKey (.int .i64 n) z = .lit (.int .i64 (j : Int))
  | 0, _, h => by omega
  | k + 1, hk, h => by
    by_cases e : j = k
    · subst e
      subst hn
      rw [Dk]
      exact ⟨Maps.has_put_same (Dk_isMap user _) (key _) _, fun z => Maps.atKey_put_same (Dk_isMap user _) (key _) _ z⟩
    · have hne : (Lit.int .i64 n) ≠ .int .i64 (pointOf user k) := by
        intro e2; injection e2 with _ e2
        exact e (pointOf_inj user j k (by omega) (by omega) (hn.trans e2))
      obtain ⟨h1, h2⟩ := Dk_hit user n j hn k (by omega) (by omega)
      rw [Dk]
      exact ⟨by rw [Maps.has_put_other hne]; exact h1, fun z => by rw [Maps.atKey_put_other hne]; exact h2 z⟩
/-- What a code point's byte is, and that there is one. -/
theorem byteOf_cases (user : Bool) (n : Int) : (byteOf user n = -1 ∧ ∀ j, j < 256 → pointOf user j ≠ n) ∨ ∃ j : Nat, j < 256 ∧ byteOf user n = j ∧ pointOf user j = n := by
  have hl : (tableOf user).length = 256 := by simp [tableOf]
  have ht : ∀ k, k < 256 → (tableOf user)[k]? = some (pointOf user k) := fun k hk => by simp [tableOf, hk]
  rcases idx_cases (tableOf user) n with ⟨h1, h2⟩ | ⟨k, h1, h2, _⟩
  · exact .inl ⟨h1, fun j hj e => h2 j (by omega) (by rw [ht j hj, e])⟩
  · have hk : k < 256 := by
      have := (List.getElem?_eq_some_iff.1 h2).1
      omega
    rw [ht k hk] at h2
    injection h2 with h2
    exact .inr ⟨k, hk, h1, h2⟩
theorem encodeS_append (user : Bool) (l m : List Int) : encodeS user (l ++ m) = match encodeS user l, encodeS user m with | some a, some b => some (a ++ b) | _, _ => none := by
  induction l with
  | nil => simp only [List.nil_append, encodeS]; cases encodeS user m <;> simp
  | cons n l ih =>
    simp only [List.cons_append, encodeS]
    split
    · rfl
    · rw [ih]
      cases encodeS user l <;> cases encodeS user m <;> simp
theorem encodeS_hit (user : Bool) (xs : List Int) (k : Nat) (n : Int) (j : Nat) (l : Bs) (hx : xs[k]? = some n) (hb : byteOf user n = j) (h : encodeS user (xs.take k) = some l) : encodeS user (xs.take (k + 1)) = some (l ++ [UInt8.ofNat j]) := by
  rw [List.take_add_one, hx, encodeS_append, h]
  have : ¬ ((j : Int) < 0) := by omega
  simp [encodeS, hb, this]
theorem encodeS_miss (user : Bool) (xs : List Int) (k : Nat) (n : Int) (hx : xs[k]? = some n) (hb : byteOf user n = -1) : encodeS user xs = none := by
  have hk := (List.getElem?_eq_some_iff.1 hx).1
  have : xs = xs.take k ++ (n :: xs.drop (k + 1)) := by
    have h2 : xs[k] = n := (List.getElem?_eq_some_iff.1 hx).2
    rw [← h2, ← List.drop_eq_getElem_cons hk, List.take_append_drop]
  rw [this, encodeS_append]
  simp [encodeS, hb]
theorem rawS_cases (user : Bool) (xs : List Int) : rawS user xs = ([], 5) ∨ ∃ l, rawS user xs = (l, 0) := by
  unfold rawS
  cases encodeS user xs with
  | none => exact .inl rfl
  | some l => exact .inr ⟨l, rfl⟩
theorem byteOf_point (user : Bool) (k : Nat) (hk : k < 256) : byteOf user (pointOf user k) = k := by
  rcases byteOf_cases user (pointOf user k) with ⟨_, h⟩ | ⟨j, hj, h, hp⟩
  · exact absurd rfl (h k hk)
  · rw [h, pointOf_inj user j k hj hk hp]
theorem encodeS_decodeS (user : Bool) (l : Bs) : encodeS user (decodeS user l) = some l := by
  induction l with
  | nil => rfl
  | cons c t ih =>
    have hc : c.toNat < 256 := c.toNat_lt
    show encodeS user (pointOf user c.toNat :: decodeS user t) = _
    rw [encodeS, byteOf_point user c.toNat hc, if_neg (by omega), ih]
    simp
theorem encode_decode (user : Bool) (l : Bs) (h : l.length ≤ 3000) : encS user (decodeS user l) = (l, 0) := by
  rw [encS, if_neg (by rw [decodeS, List.length_map]; omega), rawS, encodeS_decodeS]
end Go.Proofs.YtcgdecpjlggekaaGreatDoor.M

/-
  Code points as bytes, in plain functions and laws.
-/
namespace Go.Proofs.YtcgdecpjlggekaaGreatDoor.M
open Go

def outE (n : Int) : Int := if n = 2 ∨ n = 3 ∨ n = 7 then 1 else n
def hasE (e n : Int) : Bool := if e = 4 ∨ e = 5 then decide (0 ≤ byteOf (e == 5) n) else if e = 6 then hasK n else true
def numE (n : Int) : Bs := [38, 35] ++ Lib.itoa n ++ [59]
def toldE (e : Int) (l : List Int) : List Int := l.flatMap (fun n => if hasE e n = true then [n] else (numE n).map (fun c => (c.toNat : Int)))
def writeE (e : Int) (l : List Int) : Bs × Int := if e = 4 ∨ e = 5 then rawS (e == 5) l else if e = 6 then rawK l else (bytes8 l, 0)
def outputE (n : Int) : Int × Int := if isEnc n = true then (outE n, 0) else (0, 6)
def hasEE (e n : Int) : Bool × Int := if isEnc e = false then (false, 6) else if scalar n = false then (false, 3) else (hasE (outE e) n, 0)
def encE (e mode : Int) (l : List Int) : Bs × Int :=
  if isEnc e = false then ([], 6) else if mode ≠ 0 ∧ mode ≠ 1 then ([], 4) else if points l ≠ 0 then ([], points l)
  else writeE (outE e) (if mode = 1 then toldE (outE e) l else l)
def toldR (e mode : Int) (l : List Int) : List Int := l.flatMap (fun n => if mode = 0 ∨ hasE e n = true then [n] else (numE n).map (fun c => (c.toNat : Int)))
theorem hasE_out (e n : Int) (h : isEnc e = true) : hasE (outE e) n = hasE e n := by
  rcases enc_cases e h with h1 | h1 | h1 | h1 | h1
  · subst h1; rfl
  · rw [outE, if_pos (by omega), hasE, if_neg (by omega), if_neg (by omega), hasE, if_neg (by omega), if_neg (by omega)]
  · rw [outE, if_neg (by omega)]
  · rw [outE, if_neg (by omega)]
  · rw [outE, if_pos (by omega), hasE, if_neg (by omega), if_neg (by omega), hasE, if_neg (by omega), if_neg (by omega)]
theorem toldR_eq (e mode : Int) (l : List Int) (h : isEnc e = true) (hm : mode = 0 ∨ mode = 1) : toldR e mode l = if mode = 1 then toldE (outE e) l else l := by
  rcases hm with rfl | rfl
  · rw [if_neg (by decide)]
    unfold toldR
    simp
  · rw [if_pos rfl]
    unfold toldR toldE
    congr 1
    funext n
    rw [hasE_out e n h]
    simp
/-! ## What is told can be written -/
theorem dec_digits (u : Nat) : ∀ c ∈ Lib.decDigits u, 48 ≤ c.toNat ∧ c.toNat ≤ 57 := by
  induction u using Nat.strongRecOn with
  | _ u ih =>
    rw [Lib.decDigits]
    split
    · intro c hc
      simp only [List.mem_singleton] at hc
      subst hc
      rw [UInt8.toNat_ofNat_of_lt' (show 48 + u < 256 by omega)]; omega
    · intro c hc
      rw [List.mem_append] at hc
      rcases hc with hc | hc
      · exact ih (u / 10) (by omega) c hc
      · simp only [List.mem_singleton] at hc
        subst hc
        rw [UInt8.toNat_ofNat_of_lt' (show 48 + u % 10 < 256 by omega)]; omega
theorem numE_plain (n : Int) (h : 0 ≤ n) : ∀ c ∈ numE n, 35 ≤ c.toNat ∧ c.toNat ≤ 59 := by
  intro c hc
  unfold numE at hc
  simp only [List.mem_append, List.mem_cons, List.not_mem_nil, or_false] at hc
  rcases hc with ((rfl | rfl) | hc) | rfl
  · decide
  · decide
  · rw [Lib.itoa, if_neg (by omega)] at hc
    have := dec_digits _ c hc; omega
  · decide
theorem byteOf_plain (user : Bool) (c : Nat) (h : c < 128) : byteOf user (c : Int) = (c : Int) := by
  have hp : pointOf user c = (c : Int) := by rw [pointOf, if_pos h]
  rcases byteOf_cases user (c : Int) with ⟨_, h2⟩ | ⟨j, hj, h1, h2⟩
  · exact absurd hp (h2 c (by omega))
  · rw [h1, pointOf_inj user j c hj (by omega) (h2.trans hp.symm)]
theorem hasE_plain (e : Int) (c : Nat) (h : 35 ≤ c ∧ c ≤ 122 ∧ c ≠ 92) : hasE e (c : Int) = true := by
  unfold hasE
  split
  · rw [byteOf_plain _ c (by omega), decide_eq_true_eq]; omega
  · split
    · rw [hasK, decide_eq_true_eq, findK, if_pos (by rw [byteK_plain c (by omega)]; omega)]; exact Int.le_refl _
    · rfl
theorem toldE_has (e : Int) (l : List Int) (h : ∀ n ∈ l, 0 ≤ n) : ∀ n ∈ toldE e l, hasE e n = true := by
  intro n hn
  unfold toldE at hn
  rw [List.mem_flatMap] at hn
  obtain ⟨m, hm, hn⟩ := hn
  split at hn
  · simp only [List.mem_singleton] at hn; subst hn; assumption
  · rw [List.mem_map] at hn
    obtain ⟨c, hc, rfl⟩ := hn
    have := numE_plain m (h m hm) c hc
    exact hasE_plain e c.toNat (by omega)
theorem encodeS_some (user : Bool) : ∀ l : List Int, (∀ n ∈ l, 0 ≤ byteOf user n) → ∃ b, encodeS user l = some b ∧ b.length = l.length
  | [], _ => ⟨[], rfl, rfl⟩
  | n :: l, h => by
    obtain ⟨b, hb, hl⟩ := encodeS_some user l (fun m hm => h m (by simp [hm]))
    have hn := h n (by simp)
    exact ⟨_, by rw [encodeS, if_neg (by omega), hb]; rfl, by simp [hl]⟩
theorem hasK_find (now n : Int) (h : hasK n = true) (hn : now = 0 ∨ now = 1 ∨ now = 2) : 0 ≤ findK now n := by
  rw [hasK, decide_eq_true_eq] at h
  unfold findK at h ⊢
  (repeat' split at h) <;> (repeat' split) <;> omega
theorem encK_some : ∀ (l : List Int) (now : Int), (now = 0 ∨ now = 1 ∨ now = 2) → (∀ n ∈ l, hasK n = true) → ∃ b, encK now l = some b
  | [], now, _, _ => ⟨_, rfl⟩
  | n :: l, now, hn, h => by
    have h1 := hasK_find now n (h n (by simp)) hn
    rcases findK_cases now n with h2 | ⟨h2, _⟩
    · omega
    · obtain ⟨b, hb⟩ := encK_some l (findK now n) (by omega) (fun m hm => h m (by simp [hm]))
      exact ⟨_, by rw [encK, if_neg (by omega), hb]; rfl⟩
theorem writeE_ok (e : Int) (l : List Int) (h : ∀ n ∈ l, hasE e n = true) : (writeE e l).2 = 0 := by
  unfold writeE
  split
  · rename_i he
    obtain ⟨b, hb, _⟩ := encodeS_some (e == 5) l (fun n hn => by have := h n hn; rw [hasE, if_pos he, decide_eq_true_eq] at this; exact this)
    rw [rawS, hb]
  · split
    · rename_i he2 he
      obtain ⟨b, hb⟩ := encK_some l 0 (.inl rfl) (fun n hn => by have := h n hn; rw [hasE, if_neg he2, if_pos he] at this; exact this)
      rw [rawK, hb]
    · rfl
theorem encodeS_none (user : Bool) : ∀ l : List Int, (∃ n ∈ l, byteOf user n < 0) → encodeS user l = none
  | [], h => by obtain ⟨n, hn, _⟩ := h; cases hn
  | m :: l, h => by
    rw [encodeS]
    split
    · rfl
    · obtain ⟨n, hn, h2⟩ := h
      rcases List.mem_cons.1 hn with rfl | hn
      · omega
      · rw [encodeS_none user l ⟨n, hn, h2⟩]; rfl
theorem hasK_none (now n : Int) (h : hasK n = false) (hn : now = 0 ∨ now = 1 ∨ now = 2) : findK now n < 0 := by
  rw [hasK, decide_eq_false_iff_not] at h
  have hb := fun g => byteK_cases g n
  unfold findK at h ⊢
  (repeat' split at h) <;> (repeat' split) <;> first | omega | (rcases hn with rfl | rfl | rfl <;> omega)
theorem encK_none : ∀ (l : List Int) (now : Int), (now = 0 ∨ now = 1 ∨ now = 2) → (∃ n ∈ l, hasK n = false) → encK now l = none
  | [], _, _, h => by obtain ⟨n, hn, _⟩ := h; cases hn
  | m :: l, now, hnow, h => by
    rw [encK]
    split
    · rfl
    · rename_i hf
      obtain ⟨n, hn, h2⟩ := h
      rcases List.mem_cons.1 hn with rfl | hn
      · exact absurd (hasK_none now n h2 hnow) hf
      · rcases findK_cases now m with h3 | ⟨h3, _⟩
        · omega
        · rw [encK_none l (findK now m) (by omega) ⟨n, hn, h2⟩]; rfl
/-- It is written just if each code point can be. -/
theorem writeE_cases (e : Int) (l : List Int) : (l.all (hasE e) = true ∧ ∃ b, writeE e l = (b, 0)) ∨ (l.all (hasE e) = false ∧ writeE e l = ([], 5)) := by
  cases hq : l.all (hasE e) with
  | true =>
    refine .inl ⟨rfl, (writeE e l).1, ?_⟩
    rw [← writeE_ok e l (List.all_eq_true.1 hq)]
  | false =>
    refine .inr ⟨rfl, ?_⟩
    rw [List.all_eq_false] at hq
    obtain ⟨n, hn, h⟩ := hq
    rw [Bool.not_eq_true] at h
    unfold hasE at h
    unfold writeE
    split at h
    · rename_i he
      rw [if_pos he, rawS, encodeS_none _ l ⟨n, hn, by simpa using h⟩]
    · rename_i he
      split at h
      · rename_i he2
        rw [if_neg he, if_pos he2, rawK, encK_none l 0 (.inl rfl) ⟨n, hn, h⟩]
      · cases h
theorem toldE_all (e : Int) (l : List Int) (h : l.all (hasE e) = true) : toldE e l = l := by
  induction l with
  | nil => rfl
  | cons n l ih =>
    rw [List.all_cons, Bool.and_eq_true] at h
    show (if hasE e n = true then [n] else _) ++ toldE e l = _
    rw [if_pos h.1, ih h.2]; rfl
theorem toldE_app (e : Int) (l m : List Int) : toldE e (l ++ m) = toldE e l ++ toldE e m := by unfold toldE; rw [List.flatMap_append]
theorem writeE_app (e : Int) (l m : List Int) (a b : Bs) (he : e ≠ 6) (h1 : writeE e l = (a, 0)) (h2 : writeE e m = (b, 0)) : writeE e (l ++ m) = (a ++ b, 0) := by
  unfold writeE at h1 h2 ⊢
  split at h1
  · rename_i h
    rw [if_pos h] at h2 ⊢
    unfold rawS at h1 h2 ⊢
    rw [encodeS_append]
    cases h3 : encodeS (e == 5) l with
    | none => rw [h3] at h1; cases h1
    | some x =>
      cases h4 : encodeS (e == 5) m with
      | none => rw [h4] at h2; cases h2
      | some y =>
        rw [h3] at h1; rw [h4] at h2
        simp only [Prod.mk.injEq, and_true] at h1 h2
        subst h1; subst h2; rfl
  · rename_i h
    rw [if_neg h, if_neg he] at h2
    rw [if_neg h, if_neg he]
    simp only [Prod.mk.injEq, and_true] at h1 h2 ⊢
    rw [← h1, ← h2, bytes8, List.flatMap_append]; rfl
/-- What is written is read as it was. -/
theorem decodeS_encode (user : Bool) : ∀ (l : List Int) (b : Bs), encodeS user l = some b → decodeS user b = l
  | [], b, h => by injection h with h; subst h; rfl
  | n :: l, b, h => by
    rw [encodeS] at h
    split at h
    · cases h
    · rename_i hn
      cases hr : encodeS user l with
      | none => rw [hr] at h; cases h
      | some r =>
        rw [hr] at h
        injection h with h
        subst h
        rcases byteOf_cases user n with ⟨h1, _⟩ | ⟨j, hj, h1, h2⟩
        · omega
        · have := decodeS_encode user l r hr
          unfold decodeS at this ⊢
          rw [List.map_cons, this, h1, Int.toNat_natCast, UInt8.toNat_ofNat_of_lt' (show j < 256 by omega), h2]
theorem allE_write (e : Int) (l : List Int) (b : Bs) (he : e = 1 ∨ e = 4 ∨ e = 5 ∨ e = 6) (hl : ∀ n ∈ l, scalar n = true) (h : writeE e l = (b, 0)) : allE e b = l := by
  unfold writeE at h
  rcases he with rfl | he
  · rw [if_neg (by decide), if_neg (by decide)] at h
    simp only [Prod.mk.injEq, and_true] at h
    subst h
    rw [allE, if_pos rfl, all8_bytes l hl]
  · by_cases h1 : e = 4 ∨ e = 5
    · rw [if_pos h1, rawS] at h
      rw [allE, if_neg (by omega), if_neg (by omega), if_pos h1]
      cases hr : encodeS (e == 5) l with
      | none => rw [hr] at h; cases h
      | some r =>
        rw [hr] at h
        simp only [Prod.mk.injEq, and_true] at h
        subst h
        exact decodeS_encode _ l r hr
    · rw [if_neg h1, if_pos (by omega), rawK] at h
      rw [allE, if_neg (by omega), if_neg (by omega), if_neg (by omega), if_pos (by omega)]
      cases hr : encK 0 l with
      | none => rw [hr] at h; cases h
      | some r =>
        rw [hr] at h
        simp only [Prod.mk.injEq, and_true] at h
        subst h
        exact (allK_enc l r hr).1
theorem outE_cases (n : Int) (h : isEnc n = true) : outE n = 1 ∨ outE n = 4 ∨ outE n = 5 ∨ outE n = 6 := by
  unfold outE
  simp only [isEnc, decide_eq_true_eq] at h
  split <;> omega
theorem outE_out (n : Int) : outE (outE n) = outE n := by
  unfold outE
  (repeat' split) <;> omega
theorem outE_enc (n : Int) (h : isEnc n = true) : isEnc (outE n) = true := by
  have := outE_cases n h
  simp only [isEnc, decide_eq_true_eq]; omega
end Go.Proofs.YtcgdecpjlggekaaGreatDoor.M

/-
  Plain laws on marks.
-/
namespace Go.Proofs.YtcgdecpjlggekaaGreatDoor.M
open Go
theorem sniff_app (l m : Bs) (n k : Int) (h : sniff l = (n, k)) (hn : n ≠ 0) : sniff (l ++ m) = (n, k) ∧ may l = false := by
  match l with
  | [] => simp [sniff, Lib.hasPrefix] at h; omega
  | [a] => simp [sniff, Lib.hasPrefix] at h; omega
  | [a, b] =>
    by_cases h2 : 254 = a ∧ 255 = b
    · obtain ⟨rfl, rfl⟩ := h2
      have e : (n, k) = (3, 2) := by rw [← h]; decide
      rw [e]
      exact ⟨by simp [sniff, Lib.hasPrefix, List.isPrefixOf], by decide⟩
    · by_cases h3 : 255 = a ∧ 254 = b
      · obtain ⟨rfl, rfl⟩ := h3
        have e : (n, k) = (2, 2) := by rw [← h]; decide
        rw [e]
        exact ⟨by simp [sniff, Lib.hasPrefix, List.isPrefixOf], by decide⟩
      · simp [sniff, Lib.hasPrefix, List.isPrefixOf, h2, h3] at h
        omega
  | a :: b :: c :: t =>
    simp only [sniff, may, Lib.hasPrefix, List.isPrefixOf, List.cons_append, List.length_cons] at h ⊢
    refine ⟨h, ?_⟩
    simp only [Bool.or_eq_false_iff, Bool.and_eq_false_iff, decide_eq_false_iff_not]
    exact ⟨⟨.inl (by omega), .inl (by omega)⟩, .inl (by omega)⟩
theorem sniff_none (l : Bs) (k : Int) (h : sniff l = (0, k)) : k = 0 := by
  unfold sniff at h
  split at h
  · simp at h
  · split at h
    · simp at h
    · split at h
      · simp at h
      · simp at h; exact h.symm
theorem sniff_more (l m : Bs) (k : Int) (h : sniff l = (0, k)) (hm : may l = false) : sniff (l ++ m) = (0, 0) := by
  have hk := sniff_none l k h
  subst hk
  match l with
  | [] => simp [may, Lib.hasPrefix] at hm
  | [a] =>
    have h1 : ¬ 239 = a := by rintro rfl; revert hm; decide
    have h2 : ¬ 254 = a := by rintro rfl; revert hm; decide
    have h3 : ¬ 255 = a := by rintro rfl; revert hm; decide
    match m with
    | [] => simpa using h
    | [b] => simp [sniff, Lib.hasPrefix, List.isPrefixOf, h2, h3]
    | b :: c :: t => simp [sniff, Lib.hasPrefix, List.isPrefixOf, h1, h2, h3]
  | [a, b] =>
    match m with
    | [] => simpa using h
    | c :: t =>
      have h1 : ¬ (239 = a ∧ 187 = b) := by rintro ⟨rfl, rfl⟩; revert hm; decide
      have h2 : ¬ (254 = a ∧ 255 = b) := by rintro ⟨rfl, rfl⟩; revert h; decide
      have h3 : ¬ (255 = a ∧ 254 = b) := by rintro ⟨rfl, rfl⟩; revert h; decide
      have h4 : ¬ (239 = a ∧ 187 = b ∧ 191 = c) := fun ⟨x, y, _⟩ => h1 ⟨x, y⟩
      simp [sniff, Lib.hasPrefix, List.isPrefixOf, h2, h3, h4]
  | a :: b :: c :: t =>
    simpa [sniff, Lib.hasPrefix] using h
theorem put_found (n : Int) (l t : Bs) (h : put n l = (t, 0)) (hl : l.length < t.length) : ∃ k : Nat, k ≤ 3 ∧ t.length = l.length + k ∧ sniff t = (n, (k : Int)) ∧ t.drop k = l := by
  unfold put at h
  split at h
  · simp at h
  · split at h
    · simp at h
    · simp only [Prod.mk.injEq, and_true] at h
      subst h
      unfold markOf at hl ⊢
      split
      · exact ⟨3, by decide, by simp, by subst n; simp [sniff, Lib.hasPrefix], by simp⟩
      · split
        · exact ⟨2, by decide, by simp, by subst n; simp [sniff, Lib.hasPrefix], by simp⟩
        · split
          · exact ⟨2, by decide, by simp, by subst n; simp [sniff, Lib.hasPrefix], by simp⟩
          · simp_all
theorem may_eq (l : Bs) : may l = (l == [] || l == [239] || l == [239, 187] || l == [254] || l == [255]) := by
  match l with
  | [] => decide
  | [a] =>
    by_cases h1 : a = 239
    · subst h1; decide
    · by_cases h2 : a = 254
      · subst h2; decide
      · by_cases h3 : a = 255
        · subst h3; decide
        · simp [may, Lib.hasPrefix, List.isPrefixOf]
  | [a, b] =>
    by_cases h1 : a = 239 ∧ b = 187
    · obtain ⟨rfl, rfl⟩ := h1; decide
    · simp [may, Lib.hasPrefix, List.isPrefixOf]
  | a :: b :: c :: t =>
    have h1 : may (a :: b :: c :: t) = false := by
      simp only [may, Bool.or_eq_false_iff, Bool.and_eq_false_iff, decide_eq_false_iff_not, List.length_cons]
      exact ⟨⟨.inl (by omega), .inl (by omega)⟩, .inl (by omega)⟩
    rw [h1]; simp
end Go.Proofs.YtcgdecpjlggekaaGreatDoor.M

/-
  The right encoding, and the whole, in plain functions and laws.
-/
namespace Go.Proofs.YtcgdecpjlggekaaGreatDoor.M
open Go

structure Ft where
  label : Bs
  enc : Int
  why : Int
  wait : Bs
  state : St
def zst : St := ⟨0, [], 0, false, false⟩
def zft : Ft := ⟨[], 0, 0, [], zst⟩
def bgn (name : Bs) : Ft := ⟨name, 0, 0, [], zst⟩
def chosen (name s : Bs) : Int × Int × Int := if (sniff s).1 ≠ 0 then ((sniff s).1, 1, (sniff s).2) else if find name ≠ 0 then (find name, 2, 0) else if scanA s ≠ 0 then (scanA s, 3, 0) else (4, 4, 0)
def enough (name s : Bs) : Bool := decide ((sniff s).1 ≠ 0) || decide ((if find name ≠ 0 then 3 else 256) ≤ s.length)
def chooseE (name s : Bs) : Int × Int × Int × Int := if 3000 < name.length ∨ 3000 < s.length then (0, 0, 0, 2) else ((chosen name s).1, (chosen name s).2.1, (chosen name s).2.2, 0)
def beginE (name : Bs) : Ft × Int := if 3000 < name.length then (zft, 2) else (bgn name, 0)
def emptySt (d : St) : Bool := decide (d.enc = 0) && decide (d.rest = []) && decide (d.signs = 0) && !d.fresh && !d.stopped
def checkF (f : Ft) : Int :=
  if 3000 < f.label.length ∨ 3000 < f.wait.length then 2
  else if f.enc ≠ 0 ∧ isEnc f.enc = false then 6
  else if f.why < 0 ∨ 4 < f.why ∨ (decide (f.why = 0) != decide (f.enc = 0)) = true then 4
  else if (f.why = 0 ∧ emptySt f.state = false) ∨ (f.why ≠ 0 ∧ (f.wait ≠ [] ∨ f.state.enc ≠ f.enc)) then 1
  else if f.why = 0 then (if enough f.label f.wait = true then 4 else 0)
  else checkM f.state
def rawF (f : Ft) (b : Bs) (last : Bool) : List Int × Ft :=
  if f.why = 0 then
    (if last = false ∧ enough f.label (f.wait ++ b) = false then ([], { f with wait := f.wait ++ b })
     else ((rawM (opn (chosen f.label (f.wait ++ b)).1) ((f.wait ++ b).drop (chosen f.label (f.wait ++ b)).2.2.toNat) last).1,
       { f with enc := (chosen f.label (f.wait ++ b)).1, why := (chosen f.label (f.wait ++ b)).2.1, wait := [], state := (rawM (opn (chosen f.label (f.wait ++ b)).1) ((f.wait ++ b).drop (chosen f.label (f.wait ++ b)).2.2.toNat) last).2 }))
  else ((rawM f.state b last).1, { f with state := (rawM f.state b last).2 })
def feedF (f : Ft) (b : Bs) (last : Bool) : List Int × Ft := ((rawF f b last).1, if last = true then bgn f.label else (rawF f b last).2)
def feedFE (f : Ft) (b : Bs) (last : Bool) : List Int × Ft × Int :=
  if checkF f = 0 then (if 3000 < b.length then ([], zft, 2) else ((feedF f b last).1, (feedF f b last).2, 0)) else ([], zft, checkF f)
def wholeM (name s : Bs) : List Int × Int × Int := (allE (chosen name s).1 (s.drop (chosen name s).2.2.toNat), (chosen name s).1, (chosen name s).2.1)
def decT (name s : Bs) : List Int × Int × Int × Int := if 3000 < name.length ∨ 3000 < s.length then ([], 0, 0, 2) else ((wholeM name s).1, (wholeM name s).2.1, (wholeM name s).2.2, 0)
def recT (name s : Bs) (e : Int) : Bs × Int :=
  if 3000 < name.length ∨ 3000 < s.length then ([], 2)
  else if (encE e 1 (wholeM name s).1).2 ≠ 0 then ([], (encE e 1 (wholeM name s).1).2) else (markOf (outE e) ++ (encE e 1 (wholeM name s).1).1, 0)
def badN (l : List Int) : Nat := (l.filter (fun n => n == 65533)).length
def farN (l : List Int) : Nat := (l.filter (fun n => decide (127 < n))).length
def countE (l : List Int) : Int × Int × Int := if points l ≠ 0 then (0, 0, points l) else ((badN l : Int), (farN l : Int), 0)

theorem sniff_cases (s : Bs) : sniff s = (0, 0) ∨ (sniff s = (1, 3) ∧ 3 ≤ s.length) ∨ (sniff s = (3, 2) ∧ 2 ≤ s.length) ∨ (sniff s = (2, 2) ∧ 2 ≤ s.length) := by
  have key : ∀ (p : Bs), Lib.hasPrefix s p = true → p.length ≤ s.length := fun p h => (List.isPrefixOf_iff_prefix.1 h).length_le
  unfold sniff
  split
  · rename_i h; exact .inr (.inl ⟨rfl, key _ h⟩)
  · split
    · rename_i h; exact .inr (.inr (.inl ⟨rfl, key _ h⟩))
    · split
      · rename_i h; exact .inr (.inr (.inr ⟨rfl, key _ h⟩))
      · exact .inl rfl
theorem scanA_range (s : Bs) : scanA s = 0 ∨ scanA s = 1 ∨ scanA s = 4 ∨ scanA s = 6 ∨ scanA s = 7 := scanF_range _ _
theorem chosen_ok (name s : Bs) : isEnc (chosen name s).1 = true ∧ 1 ≤ (chosen name s).2.1 ∧ (chosen name s).2.1 ≤ 4 ∧ 0 ≤ (chosen name s).2.2 ∧ (chosen name s).2.2 ≤ s.length ∧ (chosen name s).2.2 ≤ 3 := by
  have hf := find_range name
  have hs := scanA_range s
  have hsn := sniff_cases s
  unfold chosen
  split
  · rename_i h
    rcases hsn with e | ⟨e, h2⟩ | ⟨e, h2⟩ | ⟨e, h2⟩
    · rw [e] at h; exact absurd rfl h
    · rw [e]; refine ⟨by decide, ?_⟩; simp only; omega
    · rw [e]; refine ⟨by decide, ?_⟩; simp only; omega
    · rw [e]; refine ⟨by decide, ?_⟩; simp only; omega
  · split
    · refine ⟨by simp only [isEnc, decide_eq_true_eq]; omega, ?_⟩; simp only; omega
    · split
      · refine ⟨by simp only [isEnc, decide_eq_true_eq]; omega, ?_⟩; simp only; omega
      · refine ⟨by decide, ?_⟩; simp only; omega
theorem may_long (s : Bs) (h : 3 ≤ s.length) : may s = false := by
  unfold may
  rw [decide_eq_false (show ¬ s.length < 3 by omega), decide_eq_false (show ¬ s.length < 2 by omega)]
  rfl
/-- What is enough stays enough, and chooses the same. -/
theorem enough_app (name s t : Bs) (h : enough name s = true) : chosen name (s ++ t) = chosen name s ∧ enough name (s ++ t) = true := by
  have hf := find_range name
  by_cases h1 : (sniff s).1 = 0
  · have hl : (if find name ≠ 0 then 3 else 256) ≤ s.length := by
      unfold enough at h
      rw [Bool.or_eq_true, decide_eq_true_eq, decide_eq_true_eq] at h
      rcases h with h | h
      · exact absurd h1 h
      · exact h
    have h3 : 3 ≤ s.length := by split at hl <;> omega
    have hs0 : sniff s = (0, 0) := by
      rcases sniff_cases s with e | ⟨e, _⟩ | ⟨e, _⟩ | ⟨e, _⟩
      · exact e
      all_goals rw [e] at h1; exact absurd h1 (by decide)
    have hs1 := sniff_more s t 0 hs0 (may_long s h3)
    constructor
    · unfold chosen
      rw [hs0, hs1]
      simp only [ne_eq, not_true_eq_false, if_false]
      by_cases hn : find name = 0
      · have hscan : scanA (s ++ t) = scanA s := by
          rw [if_neg (by simp [hn])] at hl
          unfold scanA
          rw [List.take_append_of_le_length hl]
        rw [hscan]
      · rw [if_pos hn, if_pos hn]
    · unfold enough
      rw [Bool.or_eq_true, decide_eq_true_eq, decide_eq_true_eq]
      right
      rw [List.length_append]; omega
  · obtain ⟨e, _⟩ := sniff_app s t (sniff s).1 (sniff s).2 rfl h1
    constructor
    · unfold chosen
      rw [e, if_pos h1, if_pos h1]
    · unfold enough
      rw [e, Bool.or_eq_true, decide_eq_true_eq]
      exact .inl h1
theorem not_enough (name s t : Bs) (h : enough name (s ++ t) = false) : enough name s = false := by
  cases hs : enough name s with
  | false => rfl
  | true => rw [(enough_app name s t hs).2] at h; cases h
/-- A front on the way: what has come so far is a. -/
def onWay (name a : Bs) : Ft :=
  if enough name a = false then ⟨name, 0, 0, a, zst⟩
  else ⟨name, (chosen name a).1, (chosen name a).2.1, [], (rawM (opn (chosen name a).1) (a.drop (chosen name a).2.2.toNat) false).2⟩
theorem onWay_nil (name : Bs) : onWay name [] = bgn name := by
  have : enough name [] = false := by
    unfold enough
    rw [show sniff [] = (0, 0) from rfl]
    split <;> rfl
  rw [onWay, if_pos this]; rfl
theorem why_ne (name s : Bs) : (chosen name s).2.1 ≠ 0 := by have := (chosen_ok name s).2.1; omega
theorem rawF_way (name a b : Bs) (last : Bool) :
    (rawF (onWay name a) b last).1 = (if enough name a = false then (if last = false ∧ enough name (a ++ b) = false then [] else (rawM (opn (chosen name (a ++ b)).1) ((a ++ b).drop (chosen name (a ++ b)).2.2.toNat) last).1)
      else (rawM (rawM (opn (chosen name a).1) (a.drop (chosen name a).2.2.toNat) false).2 b last).1) ∧ (last = false → (rawF (onWay name a) b last).2 = onWay name (a ++ b)) := by
  cases h : enough name a with
  | false =>
    have e : onWay name a = ⟨name, 0, 0, a, zst⟩ := by rw [onWay, if_pos h]
    rw [e]
    simp only [rawF, if_true]
    refine ⟨?_, fun hl => ?_⟩
    · split <;> rfl
    · subst hl
      cases h2 : enough name (a ++ b) with
      | false => rw [if_pos ⟨rfl, rfl⟩, onWay, if_pos h2]
      | true => rw [if_neg (by simp), onWay, if_neg (by rw [h2]; decide)]
  | true =>
    obtain ⟨e1, e2⟩ := enough_app name a b h
    obtain ⟨c1, _, _, c4, c5, _⟩ := chosen_ok name a
    have e : onWay name a = ⟨name, (chosen name a).1, (chosen name a).2.1, [], (rawM (opn (chosen name a).1) (a.drop (chosen name a).2.2.toNat) false).2⟩ := by rw [onWay, if_neg (by rw [h]; decide)]
    rw [e]
    simp only [rawF, if_neg (why_ne name a)]
    refine ⟨rfl, fun hl => ?_⟩
    subst hl
    rw [onWay, if_neg (by rw [e2]; decide), e1, List.drop_append_of_le_length (by omega), raw_app _ (right_opn _ c1)]
/-- All that is told until now, and what the last piece adds: what Decode tells of all. -/
def sofar (name a : Bs) : List Int := if enough name a = false then [] else (rawM (opn (chosen name a).1) (a.drop (chosen name a).2.2.toNat) false).1
theorem sofar_nil (name : Bs) : sofar name [] = [] := by
  have : enough name [] = false := by
    unfold enough
    rw [show sniff [] = (0, 0) from rfl]
    split <;> rfl
  rw [sofar, if_pos this]
theorem sofar_app (name a b : Bs) : sofar name (a ++ b) = sofar name a ++ (rawF (onWay name a) b false).1 := by
  obtain ⟨h1, _⟩ := rawF_way name a b false
  rw [h1]
  cases h : enough name a with
  | false =>
    rw [sofar, sofar, if_pos h, if_pos rfl, List.nil_append]
    cases h2 : enough name (a ++ b) with
    | false => rw [if_pos rfl, if_pos ⟨rfl, rfl⟩]
    | true => rw [if_neg (by decide), if_neg (by simp)]
  | true =>
    obtain ⟨e1, e2⟩ := enough_app name a b h
    obtain ⟨c1, _, _, c4, c5, _⟩ := chosen_ok name a
    rw [sofar, sofar, if_neg (by rw [e2]; decide), if_neg (by rw [h]; decide), if_neg (by decide), e1, List.drop_append_of_le_length (by omega), raw_app _ (right_opn _ c1)]
theorem last_way (name a b : Bs) : sofar name a ++ (rawF (onWay name a) b true).1 = (wholeM name (a ++ b)).1 := by
  obtain ⟨h1, _⟩ := rawF_way name a b true
  rw [h1, wholeM]
  cases h : enough name a with
  | false =>
    rw [sofar, if_pos h, if_pos rfl, List.nil_append, if_neg (by simp), raw_all _ (chosen_ok name (a ++ b)).1]
  | true =>
    obtain ⟨e1, e2⟩ := enough_app name a b h
    obtain ⟨c1, _, _, c4, c5, _⟩ := chosen_ok name a
    have := raw_all _ c1 ((a ++ b).drop (chosen name a).2.2.toNat)
    rw [List.drop_append_of_le_length (by omega), raw_app _ (right_opn _ c1)] at this
    rw [sofar, if_neg (by rw [h]; decide), if_neg (by decide), e1, List.drop_append_of_le_length (by omega)]
    exact this
/-- A front on the way is right. -/
theorem check_way (name a : Bs) (hn : name.length ≤ 3000) (ha : a.length ≤ 3000) : checkF (onWay name a) = 0 := by
  unfold onWay
  split
  · rename_i h
    unfold checkF
    simp only
    rw [if_neg (by omega), if_neg (by simp), if_neg (by simp), if_neg (by simp [emptySt, zst]), if_pos trivial, if_neg (by rw [h]; decide)]
  · obtain ⟨c1, c2, c3, c4, c5, _⟩ := chosen_ok name a
    have hw := why_ne name a
    have hr := (check_right _).2 (right_raw _ (a.drop (chosen name a).2.2.toNat) false (right_opn _ c1))
    have he : (chosen name a).1 ≠ 0 := by simp only [isEnc, decide_eq_true_eq] at c1; omega
    unfold checkF
    simp only
    rw [if_neg (by simp; omega), if_neg (by rw [c1]; simp), if_neg (by simp [hw, he]; omega), if_neg, if_neg hw, hr]
    rw [raw_enc]
    simp [hw, opn]
theorem way_why (name a b : Bs) : (onWay name a).why = 0 ∨ ((onWay name a).why = (chosen name (a ++ b)).2.1 ∧ (onWay name a).enc = (chosen name (a ++ b)).1) := by
  cases h : enough name a with
  | false => rw [onWay, if_pos h]; exact .inl rfl
  | true =>
    rw [onWay, if_neg (by rw [h]; decide), (enough_app name a b h).1]
    exact .inr ⟨rfl, rfl⟩
/-! ## The document's way -/
def refF (f : Ft) (b : Bs) (last : Bool) : List Int × Ft :=
  if f.why = 0 then
    (if last = false ∧ enough f.label (f.wait ++ b) = false then ([], { f with wait := f.wait ++ b })
     else ((refM (opn (chosen f.label (f.wait ++ b)).1) ((f.wait ++ b).drop (chosen f.label (f.wait ++ b)).2.2.toNat) last).1,
       if last = true then bgn f.label else { f with enc := (chosen f.label (f.wait ++ b)).1, why := (chosen f.label (f.wait ++ b)).2.1, wait := [], state := (refM (opn (chosen f.label (f.wait ++ b)).1) ((f.wait ++ b).drop (chosen f.label (f.wait ++ b)).2.2.toNat) last).2 }))
  else ((refM f.state b last).1, if last = true then bgn f.label else { f with state := (refM f.state b last).2 })
theorem checkF_right (f : Ft) (h : checkF f = 0) (hw : f.why ≠ 0) : Right f.state := by
  unfold checkF at h
  split at h
  · cases h
  · split at h
    · cases h
    · split at h
      · cases h
      · split at h
        · cases h
        · try rw [if_neg hw] at h
          exact (check_right _).1 h
theorem refF_feed (f : Ft) (h : checkF f = 0) (b : Bs) (last : Bool) : refF f b last = feedF f b last := by
  unfold refF feedF rawF
  by_cases hw : f.why = 0
  · rw [if_pos hw]
    simp only [if_pos hw]
    by_cases hl : last = false ∧ enough f.label (f.wait ++ b) = false
    · obtain ⟨rfl, h2⟩ := hl
      simp [h2]
    · rw [if_neg hl]
      simp only [if_neg hl]
      rw [ref_raw _ (right_opn _ (chosen_ok _ _).1)]
  · rw [if_neg hw]
    simp only [if_neg hw]
    rw [ref_raw _ (checkF_right f h hw)]
/-! ## The whole -/
theorem pointOf_scalar (user : Bool) (c : UInt8) : scalar (pointOf user c.toNat) = true := by
  have key : ∀ user : Bool, ∀ c : Fin 256, scalar (pointOf user c.val) = true := by decide +kernel
  exact key user ⟨c.toNat, c.toNat_lt⟩
theorem allE_scalar (n : Int) (s : Bs) : ∀ m ∈ allE n s, scalar m = true := by
  unfold allE
  split
  · exact (all8_many _ s (Nat.le_refl _)).2.2
  · split
    · exact all16_scalar _ _ s (Nat.le_refl _)
    · split
      · intro m hm
        unfold decodeS at hm
        rw [List.mem_map] at hm
        obtain ⟨c, _, rfl⟩ := hm
        exact pointOf_scalar _ c
      · split
        · exact toldK_scalar true _ s 0 false (Nat.le_refl _)
        · split
          · intro m hm; cases hm
          · intro m hm; simp only [List.mem_singleton] at hm; subst hm; decide
theorem allE_len (n : Int) (s : Bs) : (allE n s).length ≤ s.length := by
  unfold allE
  split
  · exact (all8_many _ s (Nat.le_refl _)).1
  · split
    · exact all16_len _ s
    · split
      · unfold decodeS; rw [List.length_map]; exact Nat.le_refl _
      · split
        · have := (toldK_rest true _ s 0 false (Nat.le_refl _)).1; unfold allK; omega
        · split
          · simp
          · rename_i h
            have : s.length ≠ 0 := fun hh => h (List.eq_nil_of_length_eq_zero hh)
            simp only [List.length_cons, List.length_nil]; omega
theorem whole_points (name s : Bs) (h : s.length ≤ 3000) : points (wholeM name s).1 = 0 := by
  have h1 := allE_len (chosen name s).1 (s.drop (chosen name s).2.2.toNat)
  rw [List.length_drop] at h1
  unfold points wholeM
  rw [if_neg (by simp only; omega), if_pos (List.all_eq_true.2 (allE_scalar _ _))]
theorem sniff_utf8 (l : Bs) : sniff ([239, 187, 191] ++ l) = (1, 3) := rfl
theorem toldE_one (l : List Int) : toldE 1 l = l := toldE_all 1 l (List.all_eq_true.2 (fun n _ => by rfl))
theorem recT_one (name s : Bs) (hn : name.length ≤ 3000) (hs : s.length ≤ 3000) : recT name s 1 = ([239, 187, 191] ++ bytes8 (wholeM name s).1, 0) := by
  have he : encE 1 1 (wholeM name s).1 = (bytes8 (wholeM name s).1, 0) := by
    rw [encE, if_neg (by decide), if_neg (by decide), if_neg (by rw [whole_points name s hs]; decide)]
    show writeE 1 (toldE 1 _) = _
    rw [toldE_one]
    rfl
  rw [recT, if_neg (by omega), he, if_neg (by simp)]
  rfl
theorem whole_again (name other s : Bs) : wholeM other ([239, 187, 191] ++ bytes8 (wholeM name s).1) = ((wholeM name s).1, 1, 1) := by
  have hc : chosen other ([239, 187, 191] ++ bytes8 (wholeM name s).1) = (1, 1, 3) := by
    rw [chosen, sniff_utf8, if_pos (by decide)]
  rw [wholeM, hc]
  have hd : ([239, 187, 191] ++ bytes8 (wholeM name s).1 : Bs).drop (3 : Int).toNat = bytes8 (wholeM name s).1 := rfl
  simp only
  rw [hd, allE, if_pos rfl, all8_bytes _ (by rw [wholeM]; exact allE_scalar _ _)]
theorem badN_app (l m : List Int) : badN (l ++ m) = badN l + badN m := by unfold badN; rw [List.filter_append, List.length_append]
theorem farN_app (l m : List Int) : farN (l ++ m) = farN l + farN m := by unfold farN; rw [List.filter_append, List.length_append]
theorem bad_far (l : List Int) : badN l ≤ farN l ∧ farN l ≤ l.length := by
  induction l with
  | nil => exact ⟨Nat.le_refl _, Nat.le_refl _⟩
  | cons n l ih =>
    unfold badN farN at ih ⊢
    rw [List.filter_cons, List.filter_cons]
    by_cases h : n = 65533
    · subst h
      simp only [beq_self_eq_true, if_true, show decide ((127 : Int) < 65533) = true from rfl, List.length_cons]; omega
    · rw [if_neg (by simpa using h)]
      split <;> simp only [List.length_cons] <;> omega
end Go.Proofs.YtcgdecpjlggekaaGreatDoor.M

/-
  Words for memory that all proofs of this seat share: what a call leaves below its own blocks, a slice that is owned, a slice that is read. No program in sight.
-/
namespace Go.Proofs.YtcgdecpjlggekaaGreatDoor
open Go.RowKit

/-- What was there when the call began is as it was. -/
def Bel (w w' : World) : Prop := Below w.heap.size w w'

theorem Bel.refl (w : World) : Bel w w := Below.refl _ _
theorem Bel.trans {a b c : World} (h : Bel a b) (k : Bel b c) : Bel a c := Below.trans h (Below.mono k h.size)
theorem Bel.drew {a w : World} (h : Bel a w) : Bel a w.drew := Below.drew h
theorem Bel.drewN {a w : World} (h : Bel a w) (n : Nat) : Bel a (w.drewN n) := ⟨h.os, h.tape, h.output, h.size, h.block⟩
theorem Bel.alloc {a w : World} (h : Bel a w) (o : Obj) : Bel a (w.alloc o) := Below.alloc h h.size o
theorem Bel.setCell {a w : World} (h : Bel a w) {p : Addr} (hp : a.heap.size ≤ p.block) (u : Value) : Bel a (w.setCell p u) := Below.setCell h hp u
theorem Bel.size {a w : World} (h : Bel a w) : a.heap.size ≤ w.heap.size := Below.size h
theorem Bel.cell {a w : World} (h : Bel a w) {p : Addr} (hp : p.block < a.heap.size) : w.cell? p = a.cell? p := Below.cell h hp
theorem Bel.frozen {a w : World} (h : Bel a w) {p : Addr} (hp : p.block < a.heap.size) : w.frozen? p = a.frozen? p := Below.frozen h hp
theorem Bel.below {a w : World} (h : Bel a w) : Below a.heap.size a w := h
theorem Bel.of {a w : World} (h : Below a.heap.size a w) : Bel a w := h
theorem Bel.upto {B : Nat} {a b c : World} (h : Bel a b) (k : Below B b c) (hB : a.heap.size ≤ B) : Bel a c := Below.trans h (Below.mono k hB)
/-- All cells and marks that lay there read as they did: two rules for the walk. -/
theorem Bel.rules {a w : World} (h : Bel a w) : (∀ b o, b < a.heap.size → w.cell? ⟨b, o, none⟩ = a.cell? ⟨b, o, none⟩) ∧ (∀ b o, b < a.heap.size → w.frozen? ⟨b, o, none⟩ = a.frozen? ⟨b, o, none⟩) :=
  ⟨fun _ _ hb => h.cell (p := ⟨_, _, none⟩) hb, fun _ _ hb => h.frozen (p := ⟨_, _, none⟩) hb⟩
theorem Bel.lt {a w : World} (h : Bel a w) {k : Nat} (hk : k < a.heap.size) : k < w.heap.size := Nat.lt_of_lt_of_le hk h.size

theorem block_of_add (a : Addr) (n : Nat) : (a.add n).block = a.block := by unfold Addr.add; split <;> rfl
theorem add_zero (g k : Nat) : (⟨g, 0, none⟩ : Addr).add k = ⟨g, k, none⟩ := by unfold Addr.add; split <;> simp_all

/-! ## A slice that is owned: its cells lie in one block from B on -/
def Own (B : Nat) (e : TypeId) (w : World) (v : Value) (xs : List Value) : Prop := w.ownsRow B e 1 v xs.length xs

section
variable {B B' : Nat} {e : TypeId} {w w' : World} {v : Value} {xs : List Value}
theorem Own.nil (B : Nat) (e : TypeId) (w : World) : Own B e w (.slice none 0 0) [] := World.ownsRow_nil _ _ _ _
theorem Own.mono (h : Own B e w v xs) (hB : B' ≤ B) : Own B' e w v xs := by
  refine ⟨h.1, ?_⟩
  rcases h.2 with h2 | ⟨g, cap, cur, r0, r1, r2⟩
  · exact .inl h2
  · exact .inr ⟨g, cap, cur, r0, Nat.le_trans hB r1, r2⟩
theorem Own.bel (h : Own B e w v xs) (hb : Bel w w') : Own B e w' v xs := by
  refine ⟨h.1, ?_⟩
  rcases h.2 with h2 | ⟨g, cap, cur, r0, r1, r2, r3⟩
  · exact .inl h2
  · exact .inr ⟨g, cap, cur, r0, r1, (hb.block g (Array.getElem?_eq_some_iff.1 r2).1).trans r2, r3⟩
theorem Own.drew (h : Own B e w v xs) : Own B e w.drew v xs := h
theorem Own.drewN (h : Own B e w v xs) (n : Nat) : Own B e (w.drewN n) v xs := h.bel ((Bel.refl w).drewN n)
theorem Own.alloc (h : Own B e w v xs) (o : Obj) : Own B e (w.alloc o) v xs := h.bel ((Bel.refl w).alloc o)
theorem Own.upto {C : Nat} (h : Own B e w v xs) (hb : Below C w w') (hC : ∀ k, v.ownBlock = some k → k < C) : Own B e w' v xs := by
  refine ⟨h.1, ?_⟩
  rcases h.2 with h2 | ⟨g, cap, cur, r0, r1, r2, r3⟩
  · exact .inl h2
  · exact .inr ⟨g, cap, cur, r0, r1, (hb.block g (hC g (by subst r0; rfl))).trans r2, r3⟩
/-- What it looks like, for the walk. -/
theorem Own.form (h : Own B e w v xs) : ∃ A c, v = .slice A xs.length c ∧ xs.length ≤ c ∧ c ≤ maxLen ∧ (A = none → xs = []) ∧
    ∀ g o p, A = some ⟨g, o, p⟩ → o = 0 ∧ p = none ∧ B ≤ g ∧ g < w.heap.size ∧ (∀ k, w.frozen? ⟨g, k, none⟩ = false) ∧ (∀ k u, xs[k]? = some u → w.cell? ⟨g, k, none⟩ = some u) := by
  rcases h.2 with ⟨rfl, hn⟩ | ⟨g, cap, cur, rfl, r1, r2, r3, r4, r5, r6⟩
  · have hx : xs = [] := List.eq_nil_of_length_eq_zero hn
    subst hx
    exact ⟨none, 0, rfl, Nat.le_refl _, Nat.zero_le _, fun _ => rfl, fun _ _ _ hh => by cases hh⟩
  · refine ⟨some ⟨g, 0, none⟩, cap, rfl, r3, r4, (fun hh => by cases hh), fun g' o p hh => ?_⟩
    injection hh with hh
    injection hh with h1 h2 h3
    subst h1; subst h2; subst h3
    refine ⟨rfl, rfl, r1, (Array.getElem?_eq_some_iff.1 r2).1, fun k => by simp [World.frozen?, r2], fun k u hu => ?_⟩
    have := World.ownsRow.cells h (g := g) rfl k u hu
    rwa [add_zero] at this
theorem Own.lt (h : Own B e w v xs) : ∀ k, v.ownBlock = some k → B ≤ k ∧ k < w.heap.size := World.ownsRow.lt h
/-- A row of cells that has just been laid. -/
theorem Own.made (w : World) (cur : List Value) (hb : B ≤ w.heap.size) (hm : cur.length ≤ maxLen) : Own B e (w.alloc (.cells cur.toArray e)) (.slice (some ⟨w.heap.size, 0, none⟩) cur.length cur.length) cur :=
  ⟨by simp, .inr ⟨w.heap.size, cur.length, cur.toArray, rfl, hb, heap_alloc_new w _, Nat.le_refl _, hm, by simp, by simp⟩⟩
end

/-- The element type's row of the table. -/
def Elem (P : Program) (t e : TypeId) (bytes : Nat) : Prop := P.underlying t = some (.slice e) ∧ ∃ z, (P.info? e).map (fun i => (i.zero, i.size, i.bytes)) = some (some z, 1, bytes) ∧ z.cells.size = 1

/-- 'out = append(out, x)', out the call's own. -/
theorem wpList_app1 {P : Program} (w : World) {ops : Array Oper} {rest : List Oper} {o : Oper} {a : Act} {Q : Exit → Act → World → Prop} (hgd : o.guard = none) (s x : Operand) (t : TypeId)
    (ho : o.op = .call { callee := .builtin .append, args := #[s, x], argTypes := #[t, t] }) {e : TypeId} {bytes : Nat} (he : Elem P t e bytes) (hby : bytes ≤ 1024)
    (B : Nat) (v : Value) (xs : List Value) (hs : a.eval s = v) (hown : Own B e w v xs) (g c : Nat) (u : Value) (hx : a.eval x = .slice (some ⟨g, 0, none⟩) 1 c)
    (hu : w.cell? ⟨g, 0, none⟩ = some u) (h1 : u.oneCell' = true) (hlen : xs.length < 68719476736) (hB : B ≤ w.heap.size)
    (h : ∀ v' w', Own B e w' v' (xs ++ [u]) → Below B w w' → (∀ k, v.ownBlock ≠ some k → k < w.heap.size → w'.heap[k]? = w.heap[k]?) → wpList P ops Q rest (a.put o.dst v') w') : wpList P ops Q (o :: rest) a w := by
  obtain ⟨ht, z, hi, hz⟩ := he
  obtain ⟨i, hi, hz0, hz1, hz2⟩ := info_parts hi
  refine wpList_append_own w hgd s x t ho B e i z 1 bytes ht hi hz0 hz1 hz2 hz (by decide) v xs.length xs hs hown ⟨g, 0, none⟩ 1 c [u] hx rfl ?_ ?_ (by simp only [maxLen]; omega) ?_ hB ?_
  · intro j u' hj
    match j, hj with
    | 0, hj =>
      simp only [List.getElem?_cons_zero, Option.some.injEq] at hj
      subst hj
      rw [add_zero]
      exact hu
    | j + 1, hj => simp at hj
  · intro u' hu'
    simp only [List.mem_singleton] at hu'
    subst hu'
    exact h1
  · have : (xs.length + 1) * bytes ≤ 68719476736 * 1024 := Nat.mul_le_mul (by omega) hby
    omega
  · intro v' w' ho' hg' _
    refine h v' w' ?_ ?_ ?_
    · show w'.ownsRow B e 1 v' (xs ++ [u]).length (xs ++ [u])
      rw [List.length_append]
      exact ho'
    · exact (Below.refl B w).grown hg' hB (fun k hk => (hown.lt k hk).1)
    · exact fun k hne hk => hg'.block k hk (fun e => hne e.symm)

/-- The same, where the one cell has just been laid: what is known of the world ahead of it is asked. -/
theorem wpList_app {P : Program} {w0 : World} {ops : Array Oper} {rest : List Oper} {o : Oper} {a : Act} {Q : Exit → Act → World → Prop} (hgd : o.guard = none) (s x : Operand) (t : TypeId)
    (ho : o.op = .call { callee := .builtin .append, args := #[s, x], argTypes := #[t, t] }) {e : TypeId} {bytes : Nat} (he : Elem P t e bytes) (hby : bytes ≤ 1024)
    (B : Nat) (u : Value) (v : Value) (xs : List Value) (hs : a.eval s = v) (hx : a.eval x = .slice (some ⟨w0.heap.size, 0, none⟩) 1 1) (hown : Own B e w0 v xs)
    (h1 : u.oneCell' = true) (hlen : xs.length < 68719476736) (hB : B ≤ w0.heap.size)
    (h : ∀ v' w', Own B e w' v' (xs ++ [u]) → Below B w0 w' → wpList P ops Q rest (a.put o.dst v') w') : wpList P ops Q (o :: rest) a (w0.alloc (.cells #[u] e)) := by
  refine wpList_app1 (w0.alloc (.cells #[u] e)) hgd s x t ho he hby B v xs hs (hown.alloc _) _ 1 u hx ?_ h1 hlen (by simp; omega) ?_
  · rw [World.cell?_alloc_new]; rfl
  · intro v' w' ho' hb' _
    exact h v' w' ho' (((Below.refl B w0).alloc hB _).trans hb')

/-! ## A slice of integers that is read: it came in, or is the call's own -/
def IntSl (w : World) (v : Value) (xs : List Int) : Prop :=
  ∃ a c, v = .slice a xs.length c ∧ xs.length ≤ c ∧ c ≤ maxLen ∧ (a = none → xs = []) ∧ (∀ x, a = some x → ∀ i n, xs[i]? = some n → w.cell? (x.add i) = some (.int .i64 n))
theorem IntSl.bel {w w' : World} {v : Value} {xs : List Int} (h : IntSl w v xs) (hb : Bel w w') : IntSl w' v xs := by
  obtain ⟨a, c, h1, h2, h3, h4, h5⟩ := h
  refine ⟨a, c, h1, h2, h3, h4, fun x hx i n hn => ?_⟩
  have := h5 x hx i n hn
  exact (hb.cell (World.block_lt_of_cell? w _ this)).trans this
theorem Own.ints {B : Nat} {e : TypeId} {w : World} {v : Value} {xs : List Int} (h : Own B e w v (xs.map (Value.int .i64))) : IntSl w v xs := by
  obtain ⟨A, c, h1, h2, h3, h4, h5⟩ := h.form
  rw [List.length_map] at h1 h2
  refine ⟨A, c, h1, h2, h3, fun ha => by simpa using h4 ha, fun x hx i n hn => ?_⟩
  obtain ⟨g, o, p⟩ := x
  obtain ⟨rfl, rfl, _, _, _, h6⟩ := h5 g o p hx
  rw [add_zero]
  exact h6 i _ (by rw [List.getElem?_map, hn]; rfl)
/-- What the row's reading of a slice of integers gives. -/
theorem IntSl.of_row {w : World} {x : Addr} {l c : Nat} {zs : List Int} (hl : l ≤ c) (hm : c ≤ maxLen) (hz : zs.length = c) (hcell : ∀ i, i < zs.length → w.cell? (x.add i) = some (.int .i64 (zs.getD i 0))) : IntSl w (.slice (some x) l c) (zs.take l) := by
  have e : (zs.take l).length = l := by rw [List.length_take]; omega
  refine ⟨some x, c, by rw [e], by omega, hm, (fun h => by cases h), fun y hy i n hn => ?_⟩
  injection hy with hy
  subst hy
  rw [List.getElem?_take] at hn
  split at hn
  · rw [hcell i (by rw [List.getElem?_eq_some_iff] at hn; exact hn.1), List.getD_eq_getElem?_getD, hn]
    rfl
  · cases hn
theorem IntSl.nil_ (w : World) : IntSl w (.slice none 0 0) [] := ⟨.none, 0, rfl, Nat.le_refl _, Nat.zero_le _, fun _ => rfl, fun _ h => by cases h⟩

/-! ## Bytes -/
theorem size_lt_of_getElem (s : ByteArray) (l : List UInt8) (h : s.data.toList = l) : s.size = l.length := by rw [Lib.size_eq, h]
theorem byte_at (s : ByteArray) (k : Nat) (h : k < s.size) : s.data.toList[k]? = some s[k] := by
  rw [Lib.size_eq] at h
  rw [List.getElem?_eq_getElem h]
  rfl
theorem str_eq (s : ByteArray) : (⟨s.data.toList.toArray⟩ : ByteArray) = s := Lib.mk_data s
theorem data_append (s t : ByteArray) : (s ++ t).data.toList = s.data.toList ++ t.data.toList := by simp
theorem append_str (s t : ByteArray) : s ++ t = ⟨(s.data.toList ++ t.data.toList).toArray⟩ := by
  rw [← data_append, Lib.mk_data]
theorem str_append (l : List UInt8) (t : ByteArray) : (⟨l.toArray⟩ : ByteArray) ++ t = ⟨(l ++ t.data.toList).toArray⟩ := by rw [append_str]
theorem size_str (l : List UInt8) : (⟨l.toArray⟩ : ByteArray).size = l.length := by rw [Lib.size_eq]
theorem ret_two {a b c d : Value} (h : a = c) (k : b = d) : Ending.returned (.tuple #[a, b]) = .returned (.tuple #[c, d]) := by rw [h, k]
theorem ret_one {a c : Value} (h : a = c) : Ending.returned a = .returned c := by rw [h]
theorem ret_bool {a b : Bool} (h : a = b) : Ending.returned (.bool a) = .returned (.bool b) := by rw [h]
theorem ret_int {a b : Int} (h : a = b) : Ending.returned (.int .i64 a) = .returned (.int .i64 b) := by rw [h]
end Go.Proofs.YtcgdecpjlggekaaGreatDoor

/-
  More words that all proofs share: the types' rows, lists that grow by one.
-/
namespace Go.Proofs.YtcgdecpjlggekaaGreatDoor
open Go.RowKit

theorem elemInt : Elem Tryz.prog 31 3 8 := ⟨Tryz.underlying31, .int .i64 0, by kernel_rfl, rfl⟩
theorem elemByte : Elem Tryz.prog 111 5 1 := ⟨Tryz.underlying111, .int .u8 0, by kernel_rfl, rfl⟩
theorem take_snoc {α β : Type} (f : α → β) (xs : List α) (k : Nat) (x : α) (h : xs[k]? = some x) : (xs.take (k + 1)).map f = (xs.take k).map f ++ [f x] := by
  rw [List.take_add_one, h]; simp
theorem cell_new (w : World) (u : Value) (t : TypeId) : (w.alloc (.cells #[u] t)).cell? ⟨w.heap.size, 0, none⟩ = some u := by
  rw [World.cell?_alloc_new]; rfl
theorem Below.sized {B : Nat} {a w : World} (h : Below B a w) (hB : B ≤ a.heap.size) : B ≤ w.heap.size := Nat.le_trans hB h.size
end Go.Proofs.YtcgdecpjlggekaaGreatDoor

/-
  Laws on conversions between strings and bytes, as steps of a walk.
-/
namespace Go.Proofs.YtcgdecpjlggekaaGreatDoor
open Go.RowKit

def byteVal (c : UInt8) : Value := .int .u8 (c.toNat : Int)

theorem wpList_toBytes {P : Program} {w : World} {ops : Array Oper} {rest : List Oper} {o : Oper} {a : Act} {Q : Exit → Act → World → Prop} (hgd : o.guard = none) (x : Operand) (src dst e : TypeId)
    (ho : o.op = .convert src dst x) (hs : P.underlying src = some .string) (hd : P.underlying dst = some (.slice e)) (he : P.underlying e = some (.int .u8)) (s : ByteArray) (hx : a.eval x = .string s) (hsz : s.size ≤ 9223372036854775807)
    (h : ∀ c w', Bel w w' → w.heap.size < w'.heap.size → s.size ≤ c → c ≤ 9223372036854775807 → (∀ k b, s.data.toList[k]? = some b → w'.cell? ⟨w.heap.size, k, none⟩ = some (byteVal b)) → (∀ k, k < s.size → w'.frozen? ⟨w.heap.size, k, none⟩ = false) →
      wpList P ops Q rest (a.put o.dst (.slice (some ⟨w.heap.size, 0, none⟩) s.size c)) w') : wpList P ops Q (o :: rest) a w := by
  refine wpList_plain hgd fun K hK => ?_
  have hr := run_bytes_of_string (P := P) w src dst e s hs hd he
  unfold Oper.wp execOp
  simp only [ho, Sem.run_bind, Sem.run_pure, Result.andThen_ok, hx, hr]
  refine hK _ _ (h _ _ ?_ ?_ ?_ ?_ ?_ ?_)
  · exact (Bel.refl w).drew.alloc _
  · simp
  · exact grownCap_ge _ _ _ _
  · exact grownCap_le_maxLen _ _ _ _ (by simp only [maxLen]; omega)
  · intro k b hb
    have hk : k < s.data.size := by
      have := (List.getElem?_eq_some_iff.1 hb).1
      simpa using this
    have := World.cell?_alloc_mark w.drew (bytesRow s (grownCap w s.size 0 e)) e ((bytesRow s (grownCap w s.size 0 e)).size, (bytesRow s (grownCap w s.size 0 e)).size + 1) k
    rw [show w.drew.heap.size = w.heap.size from rfl] at this
    rw [this, bytesRow_at s _ k hk]
    have e2 : s.data.toList[k]? = some s.data[k] := by rw [Array.getElem?_toList]; exact Array.getElem?_eq_getElem hk
    rw [e2] at hb
    injection hb with hb
    rw [hb]; rfl
  · intro k hk
    have := World.frozen?_alloc_mark w.drew (bytesRow s (grownCap w s.size 0 e)) e (bytesRow s (grownCap w s.size 0 e)).size ((bytesRow s (grownCap w s.size 0 e)).size + 1) k
    rw [show w.drew.heap.size = w.heap.size from rfl] at this
    rw [this]
    have hsz : k < (bytesRow s (grownCap w s.size 0 e)).size := by
      have : s.data.size = s.size := rfl
      simp [bytesRow]; omega
    simp; omega

/-- 'string(b)' where b owns the bytes l. -/
theorem wpList_toString {P : Program} {w : World} {ops : Array Oper} {rest : List Oper} {o : Oper} {a : Act} {Q : Exit → Act → World → Prop} (hgd : o.guard = none) (x : Operand) (src dst e : TypeId)
    (ho : o.op = .convert src dst x) (hs : P.underlying src = some (.slice e)) (he : P.underlying e = some (.int .u8)) (hd : P.underlying dst = some .string) (B : Nat) (v : Value) (l : List UInt8) (hx : a.eval x = v) (hown : Own B e w v (l.map byteVal))
    (h : wpList P ops Q rest (a.put o.dst (.string ⟨l.toArray⟩)) w) : wpList P ops Q (o :: rest) a w := by
  refine wpList_plain hgd fun K hK => ?_
  have hr : (convert src dst v).run P w = .ok (.string ⟨l.toArray⟩) w := by
    obtain ⟨A, c, hv, h1, h2, h3, h4⟩ := hown.form
    rw [List.length_map] at hv
    subst hv
    cases A with
    | none =>
      have : l = [] := by simpa using h3 rfl
      subst this
      rw [run_convert_bytes_string w src dst e none _ c hs he hd]
      rfl
    | some y =>
      obtain ⟨g, o, p⟩ := y
      obtain ⟨rfl, rfl, _, _, _, h6⟩ := h4 g o p rfl
      exact run_convert_bytes_back w src dst e ⟨g, 0, none⟩ c l hs he hd (fun j hj => by
        rw [add_zero]
        exact h6 j _ (by rw [List.getElem?_map, List.getElem?_eq_getElem hj]; rfl))
  unfold Oper.wp execOp
  simp only [ho, Sem.run_bind, Sem.run_pure, Result.andThen_ok, hx, hr]
  exact hK _ _ h
/-- A literal list of numbers that has just been laid. -/
theorem IntSl.lit (w : World) (t : TypeId) (ys : List Int) (h : ys.length ≤ 1000000) : IntSl (w.alloc (.cells (ys.map (Value.int .i64)).toArray t)) (.slice (some ⟨w.heap.size, 0, none⟩) ys.length ys.length) ys := by
  refine ⟨some ⟨w.heap.size, 0, none⟩, ys.length, rfl, Nat.le_refl _, by unfold maxLen; omega, (fun h => by cases h), fun x hx i n hn => ?_⟩
  injection hx with hx
  subst hx
  rw [add_zero, World.cell?_alloc_new, List.getElem?_toArray, List.getElem?_map, hn]
  rfl
theorem drop_str (s : ByteArray) (k : Nat) : (s.extract k s.size).data.toList = s.data.toList.drop k := by
  rw [Lib.extract_data, List.take_of_length_le (by rw [List.length_drop, ← Lib.size_eq]; exact Nat.le_refl _)]
theorem drop_size (s : ByteArray) (k : Nat) : (s.extract k s.size).size = s.size - k := by
  rw [Lib.size_eq, drop_str, List.length_drop, ← Lib.size_eq]
theorem cons_of_pos (s : ByteArray) (h : 0 < s.size) : ∃ c t, s.data.toList = c :: t := by
  cases hl : s.data.toList with
  | nil => rw [Lib.size_eq, hl] at h; simp at h
  | cons c t => exact ⟨c, t, rfl⟩
def strLen : Value → Nat | .string s => s.size | _ => 0
theorem own_row {e : TypeId} (w : World) (l : List UInt8) (vs : List Value) (h : l.map byteVal = vs) (h2 : l.length ≤ 4) : Own w.heap.size e (w.alloc (.cells vs.toArray e)) (.slice (some ⟨w.heap.size, 0, none⟩) vs.length vs.length) (l.map byteVal) := by
  subst h
  exact Own.made w _ (Nat.le_refl _) (by rw [List.length_map]; unfold maxLen; omega)
end Go.Proofs.YtcgdecpjlggekaaGreatDoor

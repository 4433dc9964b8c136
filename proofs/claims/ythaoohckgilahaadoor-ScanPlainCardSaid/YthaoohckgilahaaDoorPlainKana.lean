/-
  Signs that are shifted, in plain functions and laws.
-/
import Derived.Test.YthaoohckgilahaaDoorPlainUtf8
namespace Go.Proofs.YthaoohckgilahaaDoor.M
open Go

def signK (g : Int) (c : Nat) : Int :=
  if g = 2 ∧ 33 ≤ c ∧ c ≤ 95 then 65344 + (c : Int) else if g = 2 ∨ 128 ≤ c ∨ c = 14 ∨ c = 15 ∨ c = 27 then 65533 else if g = 1 ∧ c = 92 then 165 else if g = 1 ∧ c = 126 then 8254 else (c : Int)
def escK (x : UInt8) : Option Int := if x = 66 then some 0 else if x = 74 then some 1 else if x = 73 then some 2 else none
def headK : Bs → Option Int
  | d :: x :: _ => if d = 40 then escK x else none
  | _ => none
def waitK (t : Bs) : Bool := decide (t = [] ∨ t = [40])
def toldK (last : Bool) (g : Int) (f : Bool) : Bs → List Int × Int × Bool × Bs
  | [] => ([], g, f, [])
  | [c] => if c = 27 then (if last = true then ([65533], g, false, []) else ([], g, f, [c])) else ([signK g c.toNat], g, false, [])
  | [c, d] => if c = 27 then (if d = 40 ∧ last = false then ([], g, f, [c, d]) else (65533 :: (toldK last g false [d]).1, (toldK last g false [d]).2)) else (signK g c.toNat :: (toldK last g false [d]).1, (toldK last g false [d]).2)
  | c :: d :: x :: u => if c = 27 then
      (match (if d = 40 then escK x else none) with
        | some k => ((if f = true then [65533] else []) ++ (toldK last k true u).1, (toldK last k true u).2)
        | none => (65533 :: (toldK last g false (d :: x :: u)).1, (toldK last g false (d :: x :: u)).2))
      else (signK g c.toNat :: (toldK last g false (d :: x :: u)).1, (toldK last g false (d :: x :: u)).2)
def allK (s : Bs) : List Int := (toldK true 0 false s).1
def decK (s : Bs) : List Int × Int := if 3000 < s.length then ([], 2) else (allK s, 0)

theorem toldK_nil (last : Bool) (g : Int) (f : Bool) : toldK last g f [] = ([], g, f, []) := by rw [toldK]
theorem toldK_sign (last : Bool) (g : Int) (f : Bool) (c : UInt8) (t : Bs) (h : c ≠ 27) : toldK last g f (c :: t) = (signK g c.toNat :: (toldK last g false t).1, (toldK last g false t).2) := by
  match t with
  | [] => rw [toldK_nil, toldK, if_neg h]
  | [d] => conv => lhs; rw [toldK, if_neg h]
  | d :: x :: u => conv => lhs; rw [toldK, if_neg h]
theorem toldK_esc (last : Bool) (g k : Int) (f : Bool) (t : Bs) (h : headK t = some k) : toldK last g f (27 :: t) = ((if f = true then [65533] else []) ++ (toldK last k true (t.drop 2)).1, (toldK last k true (t.drop 2)).2) := by
  match t, h with
  | [], h => cases h
  | [d], h => cases h
  | d :: x :: u, h =>
    rw [headK] at h
    rw [toldK, if_pos rfl, h]
    rfl
theorem toldK_wait (g : Int) (f : Bool) (t : Bs) (h : waitK t = true) : toldK false g f (27 :: t) = ([], g, f, 27 :: t) := by
  simp only [waitK, decide_eq_true_eq] at h
  rcases h with rfl | rfl
  · rw [toldK, if_pos rfl]; simp
  · rw [toldK, if_pos rfl]; simp
theorem toldK_bad (last : Bool) (g : Int) (f : Bool) (t : Bs) (h : headK t = none) (h2 : waitK t = false ∨ last = true) : toldK last g f (27 :: t) = (65533 :: (toldK last g false t).1, (toldK last g false t).2) := by
  simp only [waitK, decide_eq_false_iff_not] at h2
  match t, h, h2 with
  | [], h, h2 =>
    have : last = true := by simpa using h2
    subst this
    rw [toldK_nil, toldK, if_pos rfl]; simp
  | [d], h, h2 =>
    conv => lhs; rw [toldK, if_pos rfl]
    rw [if_neg]
    rintro ⟨rfl, rfl⟩
    simp at h2
  | d :: x :: u, h, _ =>
    rw [headK] at h
    conv => lhs; rw [toldK, if_pos rfl, h]
theorem headK_wait (t : Bs) (h : waitK t = true) : headK t = none := by
  simp only [waitK, decide_eq_true_eq] at h
  rcases h with rfl | rfl <;> rfl
/-- The four ways. -/
theorem sayK (last : Bool) (g : Int) (f : Bool) (c : UInt8) (t : Bs) :
    (c ≠ 27 ∧ toldK last g f (c :: t) = (signK g c.toNat :: (toldK last g false t).1, (toldK last g false t).2)) ∨
    (c = 27 ∧ ∃ k x u, t = 40 :: x :: u ∧ escK x = some k ∧ headK t = some k ∧ toldK last g f (c :: t) = ((if f = true then [65533] else []) ++ (toldK last k true u).1, (toldK last k true u).2)) ∨
    (c = 27 ∧ waitK t = true ∧ headK t = none ∧ last = false ∧ toldK last g f (c :: t) = ([], g, f, c :: t)) ∨
    (c = 27 ∧ headK t = none ∧ (waitK t = false ∨ last = true) ∧ toldK last g f (c :: t) = (65533 :: (toldK last g false t).1, (toldK last g false t).2)) := by
  by_cases hc : c = 27
  · subst hc
    cases h : headK t with
    | some k =>
      have he := toldK_esc last g k f t h
      match t, h with
      | [], h => cases h
      | [d], h => cases h
      | d :: x :: u, h =>
        have h0 := h
        rw [headK] at h
        split at h
        · rename_i hd
          subst hd
          exact .inr (.inl ⟨rfl, k, x, u, rfl, h, rfl, he⟩)
        · cases h
    | none =>
      by_cases hw : waitK t = true ∧ last = false
      · obtain ⟨hw, rfl⟩ := hw
        exact .inr (.inr (.inl ⟨rfl, hw, rfl, rfl, toldK_wait g f t hw⟩))
      · have h2 : waitK t = false ∨ last = true := by
          cases hq : waitK t <;> cases last <;> simp_all
        exact .inr (.inr (.inr ⟨rfl, rfl, h2, toldK_bad last g f t h h2⟩))
  · exact .inl ⟨hc, toldK_sign last g f c t hc⟩
/-- What is left. -/
theorem toldK_rest (last : Bool) : ∀ (k : Nat) (s : Bs) (g : Int) (f : Bool), s.length ≤ k → (toldK last g f s).1.length + (toldK last g f s).2.2.2.length ≤ s.length ∧ ((toldK last g f s).2.2.2 = [] ∨ last = false ∧ ∃ t, waitK t = true ∧ (toldK last g f s).2.2.2 = 27 :: t)
  | _, [], g, f, _ => by simp [toldK_nil]
  | 0, _ :: _, _, _, h => by simp at h
  | k + 1, c :: t, g, f, h => by
    simp only [List.length_cons] at h
    rcases sayK last g f c t with ⟨_, e⟩ | ⟨rfl, q, x, u, rfl, _, _, e⟩ | ⟨rfl, h1, _, h2, e⟩ | ⟨rfl, _, _, e⟩
    · obtain ⟨i1, i2⟩ := toldK_rest last k t g false (by omega)
      rw [e]; exact ⟨by simp only [List.length_cons]; omega, i2⟩
    · simp only [List.length_cons] at h
      obtain ⟨i1, i2⟩ := toldK_rest last k u q true (by omega)
      rw [e]
      refine ⟨?_, i2⟩
      rw [List.length_append]
      have : (if f = true then [(65533 : Int)] else []).length ≤ 1 := by split <;> simp
      simp only [List.length_cons]; omega
    · rw [e]; exact ⟨by simp, .inr ⟨h2, t, h1, rfl⟩⟩
    · obtain ⟨i1, i2⟩ := toldK_rest last k t g false (by omega)
      rw [e]; exact ⟨by simp only [List.length_cons]; omega, i2⟩
theorem headK_app (t b : Bs) (h : waitK t = false) : headK (t ++ b) = headK t ∧ waitK (t ++ b) = false := by
  simp only [waitK, decide_eq_false_iff_not] at h ⊢
  match t, h with
  | [], h => simp at h
  | [d], h =>
    have hd : d ≠ 40 := by simpa using h
    constructor
    · cases b with
      | nil => rfl
      | cons x y => show (if d = 40 then escK x else none) = none; rw [if_neg hd]
    · simp [hd]
  | d :: x :: u, h => exact ⟨rfl, by simp⟩
/-- Two parts: the second one goes on where the first one stopped. -/
theorem toldK_app (last : Bool) : ∀ (k : Nat) (a b : Bs) (g : Int) (f : Bool), a.length ≤ k → toldK last g f (a ++ b) = ((toldK false g f a).1 ++ (toldK last (toldK false g f a).2.1 (toldK false g f a).2.2.1 ((toldK false g f a).2.2.2 ++ b)).1, (toldK last (toldK false g f a).2.1 (toldK false g f a).2.2.1 ((toldK false g f a).2.2.2 ++ b)).2)
  | _, [], b, g, f, _ => by simp [toldK_nil]
  | 0, _ :: _, _, _, _, h => by simp at h
  | k + 1, c :: t, b, g, f, h => by
    simp only [List.length_cons] at h
    rw [List.cons_append]
    rcases sayK false g f c t with ⟨h0, e⟩ | ⟨rfl, q, x, u, rfl, h1, _, e⟩ | ⟨rfl, h1, _, h2, e⟩ | ⟨rfl, h1, h2, e⟩
    · rw [toldK_sign last g f c _ h0, toldK_app last k t b g false (by omega), e]
      rfl
    · simp only [List.length_cons] at h
      rw [e, List.cons_append, List.cons_append, toldK_esc last g q f (40 :: x :: (u ++ b)) (by rw [headK, if_pos rfl, h1])]
      rw [show (40 :: x :: (u ++ b)).drop 2 = u ++ b from rfl, toldK_app last k u b q true (by omega)]
      simp
    · rw [e]; simp
    · have hw : waitK t = false := by simpa using h2
      obtain ⟨e1, e2⟩ := headK_app t b hw
      rw [toldK_bad last g f _ (by rw [e1]; exact h1) (.inl e2), toldK_app last k t b g false (by omega), e]
      rfl
theorem toldK_again (k : Nat) (s : Bs) (g : Int) (f : Bool) (h : s.length ≤ k) : toldK false (toldK false g f s).2.1 (toldK false g f s).2.2.1 (toldK false g f s).2.2.2 = ([], (toldK false g f s).2) := by
  rcases (toldK_rest false k s g f h).2 with h | ⟨_, t, h1, h2⟩
  · rw [h, toldK_nil]
    exact Prod.ext rfl (Prod.ext rfl (Prod.ext rfl h.symm))
  · rw [h2, toldK_wait _ _ t h1]
    exact Prod.ext rfl (Prod.ext rfl (Prod.ext rfl h2.symm))
/-- Which texts wait. -/
theorem waits_iff (s : Bs) (g : Int) (f : Bool) : toldK false g f s = ([], g, f, s) ↔ s = [] ∨ s = [27] ∨ s = [27, 40] := by
  constructor
  · intro h
    cases s with
    | nil => exact .inl rfl
    | cons c t =>
      rcases sayK false g f c t with ⟨_, e⟩ | ⟨rfl, q, x, u, rfl, _, _, e⟩ | ⟨rfl, h1, _, h2, e⟩ | ⟨rfl, _, _, e⟩
      · rw [h] at e; cases e
      · have := (toldK_rest false _ u q true (Nat.le_refl _)).1
        rw [h] at e
        have e4 := congrArg (fun r => r.2.2.2.length) e
        simp only [List.length_cons] at e4
        omega
      · simp only [waitK, decide_eq_true_eq] at h1
        rcases h1 with rfl | rfl <;> simp
      · rw [h] at e; cases e
  · rintro (rfl | rfl | rfl)
    · rw [toldK_nil]
    · exact toldK_wait g f [] rfl
    · exact toldK_wait g f [40] rfl
theorem signK_scalar (g : Int) (c : Nat) : scalar (signK g c) = true := by
  unfold signK
  (repeat' split) <;> simp only [scalar, decide_eq_true_eq] <;> omega
theorem toldK_scalar (last : Bool) : ∀ (k : Nat) (s : Bs) (g : Int) (f : Bool), s.length ≤ k → ∀ n ∈ (toldK last g f s).1, scalar n = true
  | _, [], g, f, _ => by simp [toldK_nil]
  | 0, _ :: _, _, _, h => by simp at h
  | k + 1, c :: t, g, f, h => by
    simp only [List.length_cons] at h
    rcases sayK last g f c t with ⟨_, e⟩ | ⟨rfl, q, x, u, rfl, _, _, e⟩ | ⟨rfl, h1, _, h2, e⟩ | ⟨rfl, _, _, e⟩
    · rw [e]; simp only [List.mem_cons, forall_eq_or_imp]; exact ⟨signK_scalar _ _, toldK_scalar last k t g false (by omega)⟩
    · simp only [List.length_cons] at h
      rw [e]
      intro n hn
      rw [List.mem_append] at hn
      rcases hn with hn | hn
      · split at hn
        · simp at hn; subst hn; decide
        · cases hn
      · exact toldK_scalar last k u q true (by omega) n hn
    · rw [e]; simp
    · rw [e]; simp only [List.mem_cons, forall_eq_or_imp]; exact ⟨by decide, toldK_scalar last k t g false (by omega)⟩
/-! ## The other way -/
def byteK (g n : Int) : Int := if n = 65533 then -1 else match (List.range 128).find? (fun c => signK g c == n) with | some c => (c : Int) | none => -1
def findK (now n : Int) : Int := if 0 ≤ byteK now n then now else if 0 ≤ byteK 0 n then 0 else if 0 ≤ byteK 1 n then 1 else if 0 ≤ byteK 2 n then 2 else -1
def escB (g : Int) : UInt8 := if g = 0 then 66 else if g = 1 then 74 else 73
def shiftB (now g : Int) : Bs := if g = now then [] else [27, 40, escB g]
def encK (now : Int) : List Int → Option Bs
  | [] => some (shiftB now 0)
  | n :: l => if findK now n < 0 then none else (encK (findK now n) l).map (shiftB now (findK now n) ++ UInt8.ofNat (byteK (findK now n) n).toNat :: ·)
def rawK (l : List Int) : Bs × Int := match encK 0 l with | some b => (b, 0) | none => ([], 5)
def encodeK (l : List Int) : Bs × Int := if 3000 < l.length then ([], 2) else rawK l
def hasK (n : Int) : Bool := decide (0 ≤ findK 0 n)

theorem byteK_cases (g n : Int) : (byteK g n = -1 ∧ ∀ c, c < 128 → n = 65533 ∨ signK g c ≠ n) ∨ ∃ c : Nat, c < 128 ∧ byteK g n = (c : Int) ∧ signK g c = n ∧ n ≠ 65533 ∧ c ≠ 27 ∧ ∀ j, j < c → signK g j ≠ n := by
  unfold byteK
  split
  · exact .inl ⟨rfl, fun c _ => .inl (by assumption)⟩
  · rename_i hn
    split
    · rename_i c hc
      obtain ⟨h1, as, bs, h2, h3⟩ := List.find?_eq_some_iff_append.1 hc
      have hlt : c < 128 := by
        have := List.mem_of_find?_eq_some hc
        simpa using this
      have hs : signK g c = n := by simpa using h1
      refine .inr ⟨c, hlt, rfl, hs, hn, ?_, fun j hj => ?_⟩
      · rintro rfl
        apply hn
        rw [← hs]
        unfold signK
        rw [if_neg (by omega), if_pos (by simp)]
      · have hlen : as.length = c := by
          have h4 : (List.range 128)[as.length]? = some c := by rw [h2]; simp
          rw [List.getElem?_range (by
            have := congrArg List.length h2
            simp at this; omega)] at h4
          injection h4
        have h5 : (List.range 128)[j]? = some j := List.getElem?_range (by omega)
        rw [h2, List.getElem?_append_left (by omega)] at h5
        have := h3 j (List.mem_of_getElem? h5)
        simpa using this
    · rename_i hc
      refine .inl ⟨rfl, fun c hlt => .inr ?_⟩
      rw [List.find?_eq_none] at hc
      simpa using hc c (by simpa using hlt)
theorem findK_cases (now n : Int) : findK now n = -1 ∨ ((findK now n = now ∨ findK now n = 0 ∨ findK now n = 1 ∨ findK now n = 2) ∧ 0 ≤ byteK (findK now n) n) := by
  unfold findK
  (repeat' split) <;> simp [*]
theorem escB_esc (g : Int) (h : g = 0 ∨ g = 1 ∨ g = 2) : escK (escB g) = some g := by
  rcases h with rfl | rfl | rfl <;> rfl
theorem toldK_shift (last : Bool) (now g : Int) (u : Bs) (hg : g = 0 ∨ g = 1 ∨ g = 2) : ∃ f, toldK last now false (shiftB now g ++ u) = toldK last g f u := by
  unfold shiftB
  split
  · rename_i h
    subst h
    exact ⟨false, rfl⟩
  · refine ⟨true, ?_⟩
    rw [show ([27, 40, escB g] ++ u : Bs) = 27 :: (40 :: escB g :: u) from rfl, toldK_esc last now g false _ (by rw [headK, if_pos rfl, escB_esc g hg])]
    simp
theorem toldK_enc (last : Bool) : ∀ (l : List Int) (now : Int) (b : Bs), (now = 0 ∨ now = 1 ∨ now = 2) → encK now l = some b → ∃ f, ∀ u, toldK last now false (b ++ u) = (l ++ (toldK last 0 f u).1, (toldK last 0 f u).2)
  | [], now, b, h, hb => by
    rw [encK] at hb
    injection hb with hb
    subst hb
    unfold shiftB
    split
    · rename_i h0
      subst h0
      exact ⟨false, fun u => by simp⟩
    · refine ⟨true, fun u => ?_⟩
      rw [show ([27, 40, escB 0] ++ u : Bs) = 27 :: (40 :: escB 0 :: u) from rfl, toldK_esc last now 0 false _ (by rw [headK, if_pos rfl, escB_esc 0 (.inl rfl)])]
      simp
  | n :: l, now, b, h, hb => by
    rw [encK] at hb
    split at hb
    · cases hb
    · rename_i hf
      rcases findK_cases now n with h1 | ⟨h1, h2⟩
      · omega
      · have hg : findK now n = 0 ∨ findK now n = 1 ∨ findK now n = 2 := by omega
        generalize findK now n = g at hb hf h1 h2 hg
        cases hr : encK g l with
        | none => rw [hr] at hb; cases hb
        | some r =>
          rw [hr] at hb
          injection hb with hb
          subst hb
          rcases byteK_cases g n with ⟨h3, _⟩ | ⟨c, hc, h3, h4, h5, h6, _⟩
          · omega
          · rw [h3, Int.toNat_natCast]
            have hcn : (UInt8.ofNat c).toNat = c := UInt8.toNat_ofNat_of_lt' (show c < 256 by omega)
            obtain ⟨f, hf2⟩ := toldK_enc last l g r hg hr
            refine ⟨f, fun u => ?_⟩
            obtain ⟨f1, e⟩ := toldK_shift last now g (UInt8.ofNat c :: (r ++ u)) hg
            rw [List.append_assoc, List.cons_append, e, toldK_sign last g f1 _ _ (by intro hh; apply h6; rw [← hcn, hh]; rfl), hf2 u, hcn, h4]
            rfl
theorem allK_enc (l : List Int) (b : Bs) (h : encK 0 l = some b) : allK b = l ∧ allK (b ++ [92]) = l ++ [92] := by
  obtain ⟨f, hf⟩ := toldK_enc true l 0 b (.inl rfl) h
  constructor
  · have := hf []
    rw [List.append_nil] at this
    rw [allK, this, toldK_nil]
    simp
  · rw [allK, hf [92], toldK_sign true 0 f 92 [] (by decide), toldK_nil]
    rfl
def plainK (c : UInt8) : Bool := decide (c.toNat < 128 ∧ c.toNat ≠ 14 ∧ c.toNat ≠ 15 ∧ c.toNat ≠ 27)
theorem signK_plain (c : Nat) (h : c < 128 ∧ c ≠ 14 ∧ c ≠ 15 ∧ c ≠ 27) : signK 0 c = (c : Int) := by
  unfold signK
  rw [if_neg (by omega), if_neg (by omega), if_neg (by omega), if_neg (by omega)]
theorem byteK_plain (c : Nat) (h : c < 128 ∧ c ≠ 14 ∧ c ≠ 15 ∧ c ≠ 27) : byteK 0 (c : Int) = (c : Int) := by
  rcases byteK_cases 0 (c : Int) with ⟨_, h2⟩ | ⟨d, hd, h1, h2, h3, h4, h5⟩
  · rcases h2 c h.1 with h3 | h3
    · omega
    · exact absurd (signK_plain c h) h3
  · rw [h1]
    have : signK 0 d = (d : Int) ∨ signK 0 d = 65533 := by
      unfold signK
      rw [if_neg (by omega)]
      split
      · exact .inr rfl
      · rw [if_neg (by omega), if_neg (by omega)]; exact .inl rfl
    omega
theorem toldK_plain (last : Bool) : ∀ (s : Bs) (f : Bool), s.all plainK = true → (toldK last 0 f s).1 = s.map (fun c => (c.toNat : Int))
  | [], f, _ => by rw [toldK_nil]; rfl
  | c :: t, f, h => by
    rw [List.all_cons, Bool.and_eq_true] at h
    have hc := h.1
    simp only [plainK, decide_eq_true_eq] at hc
    rw [toldK_sign last 0 f c t (by rintro rfl; exact hc.2.2.2 rfl), signK_plain _ hc]
    simp only [toldK_plain last t false h.2, List.map_cons]
theorem encK_plain : ∀ (s : Bs), s.all plainK = true → encK 0 (s.map (fun c => (c.toNat : Int))) = some s
  | [], _ => rfl
  | c :: t, h => by
    rw [List.all_cons, Bool.and_eq_true] at h
    have hc := h.1
    simp only [plainK, decide_eq_true_eq] at hc
    have hb := byteK_plain _ hc
    have hf : findK 0 (c.toNat : Int) = 0 := by unfold findK; rw [if_pos (by rw [hb]; omega)]
    rw [List.map_cons, encK, hf, if_neg (by decide), encK_plain t h.2, hb]
    simp [shiftB]
/-! ## Escapes -/
def escsK (gs : List Int) : Bs := gs.flatMap (fun g => [27, 40, escB g])
def badsK : Bool → List Int → List Int
  | _, [] => []
  | f, _ :: gs => (if f = true then [65533] else []) ++ badsK true gs
def lastK (now : Int) : List Int → Int
  | [] => now
  | g :: gs => lastK g gs
def freshK (f : Bool) : List Int → Bool
  | [] => f
  | _ :: _ => true
theorem toldK_escs (last : Bool) : ∀ (gs : List Int) (now : Int) (f : Bool) (u : Bs), (∀ g ∈ gs, g = 0 ∨ g = 1 ∨ g = 2) → toldK last now f (escsK gs ++ u) = (badsK f gs ++ (toldK last (lastK now gs) (freshK f gs) u).1, (toldK last (lastK now gs) (freshK f gs) u).2)
  | [], now, f, u, _ => by simp [escsK, badsK, lastK, freshK]
  | g :: gs, now, f, u, h => by
    have e : escsK (g :: gs) ++ u = 27 :: (40 :: escB g :: (escsK gs ++ u)) := rfl
    have hg := h g (by simp)
    rw [e, toldK_esc last now g f _ (by rw [headK, if_pos rfl, escB_esc g hg])]
    rw [show (40 :: escB g :: (escsK gs ++ u)).drop 2 = escsK gs ++ u from rfl, toldK_escs last gs g true u (fun x hx => h x (by simp [hx]))]
    have hfr : freshK true gs = true := by cases gs <;> rfl
    rw [show freshK f (g :: gs) = true from rfl, hfr]
    simp [badsK, lastK]
/-! ## Steps of the walks -/
theorem byteK_hit (g n : Int) (k : Nat) (h : ∀ j, j < k → n = 65533 ∨ signK g j ≠ n) (hk : k < 128) (hs : signK g k = n) (hn : n ≠ 65533) : byteK g n = (k : Int) := by
  rcases byteK_cases g n with ⟨_, h2⟩ | ⟨c, hc, h1, h2, _, _, h5⟩
  · rcases h2 k hk with h3 | h3
    · exact absurd h3 hn
    · exact absurd hs h3
  · rw [h1]
    have h6 : ¬ c < k := fun hck => by
      rcases h c hck with h7 | h7
      · exact hn h7
      · exact h7 h2
    have h7 : ¬ k < c := fun hkc => h5 k hkc hs
    omega
theorem byteK_miss (g n : Int) (h : ∀ j, j < 128 → n = 65533 ∨ signK g j ≠ n) : byteK g n = -1 := by
  rcases byteK_cases g n with ⟨h1, _⟩ | ⟨c, hc, h1, h2, h3, _, h5⟩
  · exact h1
  · rcases h c hc with h4 | h4
    · exact absurd h4 h3
    · exact absurd h2 h4
theorem byteK_or (g n : Int) : byteK g n = -1 ∨ ∃ c : Nat, c < 128 ∧ byteK g n = (c : Int) ∧ c ≠ 27 := by
  rcases byteK_cases g n with ⟨h1, _⟩ | ⟨c, hc, h1, _, _, h4, _⟩
  · exact .inl h1
  · exact .inr ⟨c, hc, h1, h4⟩
theorem findK_or (now n : Int) : (findK now n = -1 ∧ byteK now n = -1 ∧ byteK 0 n = -1 ∧ byteK 1 n = -1 ∧ byteK 2 n = -1) ∨
    (∃ g c, findK now n = g ∧ (g = now ∨ g = 0 ∨ g = 1 ∨ g = 2) ∧ byteK g n = ((c : Nat) : Int) ∧ c < 128 ∧ c ≠ 27) := by
  have key : ∀ g, 0 ≤ byteK g n → ∃ c : Nat, byteK g n = (c : Int) ∧ c < 128 ∧ c ≠ 27 := fun g h => by
    rcases byteK_or g n with h1 | ⟨c, h1, h2, h3⟩
    · omega
    · exact ⟨c, h2, h1, h3⟩
  have neg : ∀ g, ¬ 0 ≤ byteK g n → byteK g n = -1 := fun g h => by
    rcases byteK_or g n with h1 | ⟨c, _, h2, _⟩
    · exact h1
    · omega
  unfold findK
  split
  · rename_i h
    obtain ⟨c, h1, h2, h3⟩ := key _ h
    exact .inr ⟨now, c, rfl, .inl rfl, h1, h2, h3⟩
  · rename_i h0
    split
    · rename_i h
      obtain ⟨c, h1, h2, h3⟩ := key _ h
      exact .inr ⟨0, c, rfl, .inr (.inl rfl), h1, h2, h3⟩
    · rename_i h1
      split
      · rename_i h
        obtain ⟨c, h1, h2, h3⟩ := key _ h
        exact .inr ⟨1, c, rfl, .inr (.inr (.inl rfl)), h1, h2, h3⟩
      · rename_i h2
        split
        · rename_i h
          obtain ⟨c, h1, h2, h3⟩ := key _ h
          exact .inr ⟨2, c, rfl, .inr (.inr (.inr rfl)), h1, h2, h3⟩
        · rename_i h3
          exact .inl ⟨rfl, neg _ h0, neg _ h1, neg _ h2, neg _ h3⟩
theorem encK_step (now g n : Int) (c : Nat) (l : List Int) (acc : Bs) (hf : findK now n = g) (hg : 0 ≤ g) (hb : byteK g n = (c : Int)) : (encK now (n :: l)).map (acc ++ ·) = (encK g l).map ((acc ++ shiftB now g ++ [UInt8.ofNat c]) ++ ·) := by
  rw [encK, hf, if_neg (by omega), hb, Int.toNat_natCast]
  cases encK g l <;> simp
theorem shiftB_len (now g : Int) : (shiftB now g).length ≤ 3 := by unfold shiftB; split <;> simp
end Go.Proofs.YthaoohckgilahaaDoor.M

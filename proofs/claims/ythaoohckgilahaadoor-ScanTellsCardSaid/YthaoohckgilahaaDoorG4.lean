/-
  Texts of the proof, laid together: PlainScan, PlainRune, Scan1, RLong, RLabel, RAttr. No condition of its own.
-/
import Derived.Test.YthaoohckgilahaaDoorG1
import Derived.Shelf.GgClosure.StringsIndexFunc
import Derived.Lib.SpaceUEq
import Derived.Test.YthaoohckgilahaaDoorG3
import Derived.Laws.EntriesVeiled
import Derived.Deep.CutBlock
import Derived.Deep.Cut
import Derived.Deep.CutRange

/-
  What a text says of itself, in plain functions and laws.
-/
namespace Go.Proofs.YthaoohckgilahaaDoor.M
open Go

def httpEquiv : Bs := [104, 116, 116, 112, 45, 101, 113, 117, 105, 118]
def contentB : Bs := [99, 111, 110, 116, 101, 110, 116]
def contentType : Bs := [99, 111, 110, 116, 101, 110, 116, 45, 116, 121, 112, 101]
def valOf (l : List (Bs × Bs)) (name : Bs) : Option Bs := (l.find? (fun a => a.1 == name)).map (fun a => a.2)
def toldA (l : List (Bs × Bs)) : Int := match valOf l charset7 with | some v => find v | none => if valOf l httpEquiv = some contentType then charA ((valOf l contentB).getD []) else 0
def turnA (n : Int) : Int := if n = 2 ∨ n = 3 then 1 else if n = 5 then 4 else n
def metaA (l : List (Bs × Bs)) : Int := turnA (toldA l)
def longA (l : List (Bs × Bs)) : Bool := decide (3000 < l.length) || l.any (fun a => decide (3000 < a.1.length) || decide (3000 < a.2.length))
def metaE (l : List (Bs × Bs)) : Int × Int := if longA l = true then (0, 2) else (metaA l, 0)
/-- What stands behind the first such text. -/
def behindF (sub : Bs) : Bs → Bs
  | [] => []
  | c :: t => if Lib.hasPrefix (fold (c :: t)) sub = true then (c :: t).drop sub.length else behindF sub t
def endB (c : UInt8) : Bool := white c || decide (c = 62)
def letterB (c : UInt8) : Bool := decide (97 ≤ c.toNat ∧ c.toNat ≤ 122)
def openS : Bs := [60, 33, 45, 45]
def closeS : Bs := [45, 45, 62]
def metaS : Bs := [60, 109, 101, 116, 97]
def nameEnd (l : Bs) : Option Bs :=
  match l with
  | c :: d :: t => if c = 60 ∧ (letterB (fold1 d) = true ∨ (d = 47 ∧ ∃ x, t.head? = some x ∧ letterB (fold1 x) = true)) then some (l.dropWhile (fun c => !endB c)) else none
  | _ => none
def slashW (l : Bs) : Bool := match l with | [] => false | c :: _ => skipB c
def stepS (l : Bs) : Int × Bs :=
  if Lib.hasPrefix (fold l) openS = true then (0, behindF closeS (l.drop 2))
  else if Lib.hasPrefix (fold l) metaS = true ∧ slashW (l.drop 5) = true then (metaA (attrsA (l.drop 5)).1, (attrsA (l.drop 5)).2.drop 1)
  else match nameEnd l with
    | some e => (0, (attrsA e).2.drop 1)
    | none => if Lib.hasPrefix l [60, 33] = true ∨ Lib.hasPrefix l [60, 47] = true ∨ Lib.hasPrefix l [60, 63] = true then (0, behindF [62] l) else (0, l.drop 1)
def scanF : Nat → Bs → Int
  | 0, _ => 0
  | _ + 1, [] => 0
  | f + 1, c :: t => if (stepS (c :: t)).1 = 0 then scanF f (stepS (c :: t)).2 else (stepS (c :: t)).1
def scan0 (l : Bs) : Int := scanF l.length l
def scanA (l : Bs) : Int := scan0 (l.take 256)
def scanE (l : Bs) : Int × Int := if 3000 < l.length then (0, 2) else (scanA l, 0)
theorem behindF_suf (sub : Bs) (l : Bs) : Suf (behindF sub l) l := by
  induction l with
  | nil => exact Suf.refl []
  | cons c t ih =>
    rw [behindF]
    split
    · exact Suf.drop _ _
    · exact ih.trans ⟨1, by simp, rfl⟩
theorem behindF_less (sub : Bs) (hs : sub ≠ []) (c : UInt8) (t : Bs) : (behindF sub (c :: t)).length < (c :: t).length := by
  rw [behindF]
  split
  · cases sub with
    | nil => exact absurd rfl hs
    | cons x y => simp only [List.length_cons, List.drop_succ_cons, List.length_drop]; omega
  · have := (behindF_suf sub t).len; simp only [List.length_cons]; omega
theorem drop1_less (r : Bs) (n : Nat) (h : r.length ≤ n) (hn : 0 < n) : (r.drop 1).length < n := by rw [List.length_drop]; omega
theorem stepS_less (c : UInt8) (t : Bs) : (stepS (c :: t)).2.length < (c :: t).length := by
  have ha := fun l : Bs => (attrsA_suf _ l (Nat.le_refl _)).1.len
  unfold stepS
  split
  · have h1 := (behindF_suf closeS ((c :: t).drop 2)).len
    rw [List.length_drop] at h1
    simp only [List.length_cons] at h1 ⊢; omega
  · split
    · refine drop1_less _ _ ?_ (by simp)
      have h1 := ha ((c :: t).drop 5)
      rw [List.length_drop] at h1
      simp only [List.length_cons] at h1 ⊢; omega
    · split
      · rename_i e he
        refine drop1_less _ _ ?_ (by simp)
        have h1 := ha e
        have h2 : e.length ≤ (c :: t).length := by
          unfold nameEnd at he
          split at he
          · split at he
            · injection he with he
              rw [← he]; exact (suf_dropWhile _ _).len
            · cases he
          · cases he
        omega
      · split
        · exact behindF_less [62] (by simp) c t
        · simp
theorem scanF_enough : ∀ (f g : Nat) (l : Bs), l.length ≤ f → l.length ≤ g → scanF f l = scanF g l
  | 0, g, l, h, _ => by
    have : l = [] := List.eq_nil_of_length_eq_zero (by omega)
    subst this
    cases g <;> rfl
  | f + 1, 0, l, _, h => by
    have : l = [] := List.eq_nil_of_length_eq_zero (by omega)
    subst this
    rfl
  | f + 1, g + 1, [], _, _ => rfl
  | f + 1, g + 1, c :: t, h, h2 => by
    have h1 := stepS_less c t
    rw [scanF, scanF, scanF_enough f g (stepS (c :: t)).2 (by omega) (by omega)]
theorem scan0_nil : scan0 [] = 0 := rfl
theorem scan0_cons (c : UInt8) (t : Bs) : scan0 (c :: t) = if (stepS (c :: t)).1 = 0 then scan0 (stepS (c :: t)).2 else (stepS (c :: t)).1 := by
  have h1 := stepS_less c t
  show scanF (t.length + 1) (c :: t) = _
  rw [scanF]
  split
  · exact scanF_enough _ _ _ (by simp only [List.length_cons] at h1; omega) (Nat.le_refl _)
  · rfl
/-! ## What is told is one of these -/
theorem find_range (s : Bs) : 0 ≤ find s ∧ find s ≤ 7 := by
  have key : ∀ x ∈ labels, 0 ≤ x.2 ∧ x.2 ≤ 7 := by decide
  unfold find find0
  split
  · rename_i x hx; exact key x (List.mem_of_find?_eq_some hx)
  · omega
theorem charOf_range (l : Bs) : 0 ≤ charOf l ∧ charOf l ≤ 7 := by
  unfold charOf
  split
  · exact find_range _
  · split
    · split
      · exact find_range _
      · omega
    · exact find_range _
theorem charF_range : ∀ (f : Nat) (l : Bs), 0 ≤ charF f l ∧ charF f l ≤ 7
  | 0, _ => by rw [charF]; omega
  | _ + 1, [] => by rw [charF]; omega
  | f + 1, c :: t => by
    rw [charF]
    split
    · split
      · exact charOf_range _
      · exact charF_range f _
    · exact charF_range f t
theorem metaA_range (l : List (Bs × Bs)) : metaA l = 0 ∨ metaA l = 1 ∨ metaA l = 4 ∨ metaA l = 6 ∨ metaA l = 7 := by
  have h : 0 ≤ toldA l ∧ toldA l ≤ 7 := by
    unfold toldA
    split
    · exact find_range _
    · split
      · exact charF_range _ _
      · omega
  unfold metaA turnA
  split
  · omega
  · split <;> omega
theorem stepS_range (l : Bs) : (stepS l).1 = 0 ∨ (stepS l).1 = 1 ∨ (stepS l).1 = 4 ∨ (stepS l).1 = 6 ∨ (stepS l).1 = 7 := by
  unfold stepS
  split
  · simp
  · split
    · exact metaA_range _
    · split
      · simp
      · split <;> simp
theorem scanF_range : ∀ (f : Nat) (l : Bs), scanF f l = 0 ∨ scanF f l = 1 ∨ scanF f l = 4 ∨ scanF f l = 6 ∨ scanF f l = 7
  | 0, _ => by rw [scanF]; omega
  | _ + 1, [] => by rw [scanF]; omega
  | f + 1, c :: t => by
    rw [scanF]
    split
    · exact scanF_range f _
    · exact stepS_range _
/-! ## Plain texts -/
theorem fold1_lt (c : UInt8) : fold1 c = 60 ↔ c = 60 := by
  rw [← UInt8.toNat_inj, ← UInt8.toNat_inj, fold1_nat]
  show _ = 60 ↔ c.toNat = 60
  split <;> omega
theorem prefix_cons (c x : UInt8) (t y : Bs) (h : x ≠ c) : Lib.hasPrefix (c :: t) (x :: y) = false := by
  unfold Lib.hasPrefix
  rw [List.isPrefixOf]
  simp [h]
theorem stepS_plain (c : UInt8) (t : Bs) (h : c ≠ 60) : stepS (c :: t) = (0, t) := by
  have hf : (60 : UInt8) ≠ fold1 c := fun hh => h ((fold1_lt c).1 hh.symm)
  have h1 : Lib.hasPrefix (fold (c :: t)) openS = false := prefix_cons _ _ _ _ hf
  have h2 : Lib.hasPrefix (fold (c :: t)) metaS = false := prefix_cons _ _ _ _ hf
  have h3 : nameEnd (c :: t) = none := by
    unfold nameEnd
    split
    · rename_i c' d t' e
      injection e with e1 e2
      subst e1
      rw [if_neg (by rintro ⟨hh, _⟩; exact h hh)]
    · rfl
  have h4 := fun y => prefix_cons c 60 t y (fun hh => h hh.symm)
  unfold stepS
  rw [h1, h2, h3, h4, h4, h4]
  simp
theorem scan0_skip : ∀ (a l : Bs), (∀ c ∈ a, c ≠ 60) → scan0 (a ++ l) = scan0 l
  | [], l, _ => rfl
  | c :: a, l, h => by
    rw [List.cons_append, scan0_cons, stepS_plain c _ (h c (by simp)), if_pos rfl]
    exact scan0_skip a l (fun x hx => h x (by simp [hx]))
def plainB (c : UInt8) : Bool := decide ((97 ≤ c.toNat ∧ c.toNat ≤ 122) ∨ (48 ≤ c.toNat ∧ c.toNat ≤ 57) ∨ c.toNat = 45)
theorem plainB_white (c : UInt8) (h : plainB c = true) : white c = false ∧ c.toNat ≠ 47 ∧ c.toNat ≠ 62 ∧ c.toNat ≠ 61 ∧ c.toNat ≠ 34 ∧ c.toNat ≠ 39 ∧ c.toNat ≠ 60 ∧ c.toNat ≠ 59 ∧ fold1 c = c := by
  simp only [plainB, decide_eq_true_eq] at h
  rw [white_nat, decide_eq_false_iff_not]
  refine ⟨by omega, by omega, by omega, by omega, by omega, by omega, by omega, by omega, ?_⟩
  unfold fold1
  rw [if_neg (by omega)]
theorem fold_plain (l : Bs) (h : l.all plainB = true) : fold l = l := by
  unfold fold
  induction l with
  | nil => rfl
  | cons c t ih =>
    rw [List.all_cons, Bool.and_eq_true] at h
    rw [List.map_cons, ih h.2, (plainB_white c h.1).2.2.2.2.2.2.2.2]
theorem take_all {p : UInt8 → Bool} (a : Bs) (c : UInt8) (t : Bs) (ha : a.all p = true) (hc : p c = false) : (a ++ c :: t).takeWhile p = a ∧ (a ++ c :: t).dropWhile p = c :: t := by
  induction a with
  | nil => simp [hc]
  | cons x y ih =>
    rw [List.all_cons, Bool.and_eq_true] at ha
    obtain ⟨i1, i2⟩ := ih ha.2
    simp [ha.1, i1, i2]
theorem take_end {p : UInt8 → Bool} (a : Bs) (ha : a.all p = true) : a.takeWhile p = a ∧ a.dropWhile p = [] := by
  induction a with
  | nil => simp
  | cons x y ih =>
    rw [List.all_cons, Bool.and_eq_true] at ha
    obtain ⟨i1, i2⟩ := ih ha.2
    simp [ha.1, i1, i2]
theorem all_imp {p q : UInt8 → Bool} (a : Bs) (h : ∀ c, p c = true → q c = true) (ha : a.all p = true) : a.all q = true := by
  rw [List.all_eq_true] at ha ⊢
  exact fun c hc => h c (ha c hc)
theorem plain_name (c : UInt8) (h : plainB c = true) : nameB c = true := by
  obtain ⟨h1, h2, h3, h4, _⟩ := plainB_white c h
  unfold nameB
  rw [h1]
  simp only [Bool.not_false, Bool.true_and, decide_eq_true_eq]
  refine ⟨fun e => h2 (by rw [e]; rfl), fun e => h3 (by rw [e]; rfl), fun e => h4 (by rw [e]; rfl)⟩
theorem plain_val (c : UInt8) (h : plainB c = true) : valB c = true := by
  obtain ⟨h1, h2, h3, h4, _⟩ := plainB_white c h
  unfold valB
  rw [h1]
  simp only [Bool.not_false, Bool.true_and, decide_eq_true_eq]
  exact fun e => h3 (by rw [e]; rfl)
theorem plain_lab (c : UInt8) (h : plainB c = true) : labB c = true := by
  obtain ⟨h1, h2, h3, h4, _, _, _, h8, _⟩ := plainB_white c h
  unfold labB
  rw [h1]
  simp only [Bool.not_false, Bool.true_and, decide_eq_true_eq]
  exact fun e => h8 (by rw [e]; rfl)
theorem plain_skip (c : UInt8) (h : plainB c = true) : skipB c = false := by
  obtain ⟨h1, h2, _⟩ := plainB_white c h
  unfold skipB
  rw [h1]
  simp only [Bool.false_or, decide_eq_false_iff_not]
  exact fun e => h2 (by rw [e]; rfl)
theorem plain_cons (l : Bs) (h : l.all plainB = true) (hn : l ≠ []) : ∃ c t, l = c :: t ∧ plainB c = true ∧ t.all plainB = true := by
  cases l with
  | nil => exact absurd rfl hn
  | cons c t => rw [List.all_cons, Bool.and_eq_true] at h; exact ⟨c, t, rfl, h.1, h.2⟩
theorem ne_byte (c d : UInt8) (h : c.toNat ≠ d.toNat) : c ≠ d := fun e => h (by rw [e])
/-- A value that is written plainly, ahead of a byte that ends it. -/
theorem valueA_plain (v : Bs) (e : UInt8) (t : Bs) (hv : v.all plainB = true) (hn : v ≠ []) (he : valB e = false) : valueA (v ++ e :: t) = (some v, e :: t) := by
  obtain ⟨c, u, rfl, h1, h2⟩ := plain_cons v hv hn
  have hp := plainB_white c h1
  obtain ⟨q1, q2⟩ := take_all (p := valB) (c :: u) e t (all_imp _ plain_val hv) he
  have hd : ((c :: u) ++ e :: t).dropWhile white = (c :: u) ++ e :: t := by
    rw [List.cons_append, List.dropWhile_cons, if_neg (by rw [hp.1]; decide)]
  unfold valueA
  rw [hd]
  rw [List.cons_append] at q1 q2 ⊢
  simp only
  rw [if_neg, q1, q2]
  rintro (e1 | e1)
  · exact hp.2.2.2.2.1 (by rw [e1]; rfl)
  · exact hp.2.2.2.2.2.1 (by rw [e1]; rfl)
/-- The tag. -/
theorem attrs_tag (name t : Bs) (hv : name.all plainB = true) (hn : name ≠ []) : attrsA ([32] ++ charset7 ++ [61] ++ name ++ 62 :: t) = ([(charset7, name)], 62 :: t) := by
  have h1 : nextA ([32] ++ charset7 ++ [61] ++ name ++ 62 :: t) = (some (charset7, name), 62 :: t) := by
    have e : ([32] ++ charset7 ++ [61] ++ name ++ 62 :: t : Bs) = 32 :: 99 :: ([104, 97, 114, 115, 101, 116] ++ 61 :: (name ++ 62 :: t)) := by simp [charset7]
    obtain ⟨q1, q2⟩ := take_all (p := nameB) [104, 97, 114, 115, 101, 116] 61 (name ++ 62 :: t) (by decide) (by decide)
    rw [e, nextA, List.dropWhile_cons, if_pos (by decide), List.dropWhile_cons, if_neg (by decide)]
    simp only
    rw [if_neg (by decide), q1, q2, List.dropWhile_cons, if_neg (by decide), afterA]
    simp only
    rw [if_pos trivial, valueA_plain name 62 t hv hn (by decide)]
    simp only [Option.map_some]
    rw [fold_plain name hv]
    rfl
  have h2 : nextA (62 :: t) = (none, 62 :: t) := by
    rw [nextA, List.dropWhile_cons, if_neg (by decide)]
    simp only
    rw [if_pos trivial]
  rw [attrsA_some _ _ _ h1, attrsA_none _ _ h2]
theorem metaA_tag (name : Bs) : metaA [(charset7, name)] = turnA (find name) := by
  unfold metaA toldA valOf
  rw [List.find?_cons]
  simp
def tagS (name : Bs) : Bs := [60, 109, 101, 116, 97, 32, 99, 104, 97, 114, 115, 101, 116, 61] ++ name ++ [62]
theorem scan0_tag (name t : Bs) (hv : name.all plainB = true) (hn : name ≠ []) (h0 : turnA (find name) ≠ 0) : scan0 (tagS name ++ t) = turnA (find name) := by
  have e : tagS name ++ t = 60 :: 109 :: 101 :: 116 :: 97 :: ([32] ++ charset7 ++ [61] ++ name ++ 62 :: t) := by simp [tagS, charset7]
  have hs : stepS (tagS name ++ t) = (turnA (find name), t) := by
    rw [e]
    have h1 : Lib.hasPrefix (fold (60 :: 109 :: 101 :: 116 :: 97 :: ([32] ++ charset7 ++ [61] ++ name ++ 62 :: t))) openS = false := rfl
    have h2 : Lib.hasPrefix (fold (60 :: 109 :: 101 :: 116 :: 97 :: ([32] ++ charset7 ++ [61] ++ name ++ 62 :: t))) metaS = true := rfl
    have h3 : slashW ((60 :: 109 :: 101 :: 116 :: 97 :: ([32] ++ charset7 ++ [61] ++ name ++ 62 :: t)).drop 5) = true := rfl
    have h4 : (60 :: 109 :: 101 :: 116 :: 97 :: ([32] ++ charset7 ++ [61] ++ name ++ 62 :: t)).drop 5 = [32] ++ charset7 ++ [61] ++ name ++ 62 :: t := rfl
    unfold stepS
    rw [h1, h2, h3, h4, if_neg (by decide), if_pos ⟨rfl, rfl⟩, attrs_tag name t hv hn, metaA_tag]
    rfl
  rw [e] at hs ⊢
  rw [scan0_cons, hs]
  exact if_neg h0
theorem behind_skip (c : UInt8) (t : Bs) (h : c ≠ 45) : behindF closeS (c :: t) = behindF closeS t := by
  rw [behindF, if_neg]
  rw [Bool.not_eq_true]
  refine prefix_cons _ _ _ _ (fun hh => h ?_)
  have h2 := congrArg UInt8.toNat hh
  rw [fold1_nat] at h2
  apply UInt8.toNat_inj.1
  show c.toNat = 45
  have h3 : (45 : UInt8).toNat = 45 := rfl
  rw [h3] at h2
  split at h2 <;> omega
theorem scan0_comment (name : Bs) (hv : name.all plainB = true) : scan0 (openS ++ tagS name ++ closeS) = 0 := by
  have e : openS ++ tagS name ++ closeS = 60 :: 33 :: 45 :: 45 :: ([60, 109, 101, 116, 97, 32, 99, 104, 97, 114, 115, 101, 116, 61] ++ (name ++ 62 :: closeS)) := by simp [tagS, openS]
  have hb : behindF closeS (45 :: 45 :: ([60, 109, 101, 116, 97, 32, 99, 104, 97, 114, 115, 101, 116, 61] ++ (name ++ 62 :: closeS))) = behindF closeS (name ++ 62 :: closeS) := by
    have h1 : Lib.hasPrefix (fold (45 :: 45 :: ([60, 109, 101, 116, 97, 32, 99, 104, 97, 114, 115, 101, 116, 61] ++ (name ++ 62 :: closeS)))) closeS = false := rfl
    have h2 : Lib.hasPrefix (fold (45 :: ([60, 109, 101, 116, 97, 32, 99, 104, 97, 114, 115, 101, 116, 61] ++ (name ++ 62 :: closeS)))) closeS = false := rfl
    rw [behindF, h1, if_neg (by decide), behindF, h2, if_neg (by decide)]
    simp only [List.cons_append, List.nil_append]
    repeat rw [behind_skip _ _ (by decide)]
  have hs : stepS (openS ++ tagS name ++ closeS) = (0, behindF closeS (name ++ 62 :: closeS)) := by
    rw [e]
    have h1 : Lib.hasPrefix (fold (60 :: 33 :: 45 :: 45 :: ([60, 109, 101, 116, 97, 32, 99, 104, 97, 114, 115, 101, 116, 61] ++ (name ++ 62 :: closeS)))) openS = true := rfl
    unfold stepS
    rw [h1, if_pos rfl, ← hb]
    rfl
  rw [e] at hs ⊢
  rw [scan0_cons, hs, if_pos rfl]
  have hno : ∀ c ∈ name ++ 62 :: closeS, c ≠ 60 := by
    intro c hc
    rw [List.mem_append] at hc
    rcases hc with hc | hc
    · exact ne_byte c 60 (plainB_white c (List.all_eq_true.1 hv c hc)).2.2.2.2.2.2.1
    · simp only [closeS, List.mem_cons, List.not_mem_nil, or_false] at hc
      rcases hc with rfl | rfl | rfl | rfl <;> decide
  obtain ⟨k, _, hk⟩ := behindF_suf closeS (name ++ 62 :: closeS)
  have := scan0_skip ((name ++ 62 :: closeS).drop k) [] (fun c hc => hno c (List.mem_of_mem_drop hc))
  rw [List.append_nil, ← hk] at this
  exact this
end Go.Proofs.YthaoohckgilahaaDoor.M

/-
  The first rune that is some byte below 128: the first such byte.
-/
namespace Go.Proofs.YthaoohckgilahaaDoor.M
open Go

theorem get_cons (s : ByteArray) (i : Nat) (h : i < s.size) : s.data.toList.drop i = s.get! i :: s.data.toList.drop (i + 1) := by
  have hk : i < s.data.toList.length := by rw [← Lib.size_eq]; exact h
  rw [List.drop_eq_getElem_cons hk]
  congr 1
  show _ = s.data[i]!
  have h2 : i < s.data.size := by simpa using hk
  rw [getElem!_pos s.data i h2, Array.getElem_toList]
theorem dec_low (s : ByteArray) (i : Nat) (h : (s.get! i).toNat < 128) : Utf8.decode s i = ((s.get! i).toNat, 1) := by
  rw [Lib.decode_at, Lib.decodeN_ascii _ _ _ _ _ h]
theorem dec_high (n b0 b1 b2 b3 : Nat) (h : 128 ≤ b0) : 128 ≤ (Lib.decodeN n b0 b1 b2 b3).1 ∧ 1 ≤ (Lib.decodeN n b0 b1 b2 b3).2 := by
  unfold Lib.decodeN
  repeat' split
  all_goals (simp only; omega)
/-- The first place at which q holds, from k on; -1: none. -/
def firstB (q : UInt8 → Bool) (k : Nat) (l : Bs) : Int := if l.dropWhile (fun c => !q c) = [] then -1 else ((k + (l.takeWhile (fun c => !q c)).length : Nat) : Int)
theorem firstB_no (q : UInt8 → Bool) (k : Nat) (c : UInt8) (t : Bs) (h : q c = false) : firstB q k (c :: t) = firstB q (k + 1) t := by
  have hn : (!q c) = true := by rw [h]; rfl
  unfold firstB
  rw [List.dropWhile_cons_of_pos (p := fun c => !q c) hn, List.takeWhile_cons_of_pos (p := fun c => !q c) hn, List.length_cons]
  congr 2
  omega
theorem firstB_yes (q : UInt8 → Bool) (k : Nat) (c : UInt8) (t : Bs) (h : q c = true) : firstB q k (c :: t) = k := by
  have hn : ¬ (!q c) = true := by rw [h]; decide
  unfold firstB
  rw [List.dropWhile_cons_of_neg (p := fun c => !q c) hn, List.takeWhile_cons_of_neg (p := fun c => !q c) hn, if_neg (by simp)]
  rfl
theorem firstB_skip (q : UInt8 → Bool) (s : ByteArray) (pos : Nat) : ∀ (n : Nat), pos + n ≤ s.size → (∀ j, j < n → q (s.get! (pos + j)) = false) → firstB q pos (s.data.toList.drop pos) = firstB q (pos + n) (s.data.toList.drop (pos + n))
  | 0, _, _ => rfl
  | n + 1, h, hq => by
    rw [firstB_skip q s pos n (by omega) (fun j hj => hq j (by omega)), get_cons s (pos + n) (by omega), firstB_no q _ _ _ (hq n (by omega))]
    rfl
theorem idx_byte (p : Nat → Bool) (q : UInt8 → Bool) (hp : ∀ b : UInt8, b.toNat < 128 → p b.toNat = q b) (hh : ∀ r, 128 ≤ r → p r = false) (hq : ∀ b : UInt8, 128 ≤ b.toNat → q b = false) (s : ByteArray) : ∀ (f pos : Nat), pos ≤ s.size → s.size - pos ≤ f → Lib.idxFuncFrom p true s f pos = firstB q pos (s.data.toList.drop pos)
  | 0, pos, h1, h2 => by
    obtain rfl : pos = s.size := by omega
    rw [List.drop_eq_nil_of_le (by rw [← Lib.size_eq]; exact Nat.le_refl _)]
    rfl
  | f + 1, pos, h1, h2 => by
    rw [Lib.idxFuncFrom]
    by_cases hlt : pos < s.size
    · rw [if_pos hlt]
      by_cases hb : (s.get! pos).toNat < 128
      · rw [dec_low s pos hb, get_cons s pos hlt]
        simp only
        rw [hp _ hb]
        cases hc : q (s.get! pos) with
        | true => rw [if_pos rfl, firstB_yes q _ _ _ hc]
        | false =>
          rw [if_neg (by decide), firstB_no q _ _ _ hc]
          exact idx_byte p q hp hh hq s f (pos + 1) (by omega) (by omega)
      · have d1 := dec_high (s.size - pos) (s.get! pos).toNat (s.get! (pos + 1)).toNat (s.get! (pos + 2)).toNat (s.get! (pos + 3)).toNat (by omega)
        have d2 := Lib.decodeN_conts (s.size - pos) (s.get! pos).toNat (s.get! (pos + 1)).toNat (s.get! (pos + 2)).toNat (s.get! (pos + 3)).toNat
        rw [← Lib.decode_at] at d1 d2
        rw [hh _ d1.1, if_neg (by decide)]
        generalize (Utf8.decode s pos).2 = n at *
        obtain ⟨c2, c3, c4, c5⟩ := d2
        rw [firstB_skip q s pos n (by omega) ?_]
        · exact idx_byte p q hp hh hq s f (pos + n) (by omega) (by omega)
        · intro j hj
          apply hq
          rcases j with _ | _ | _ | _ | j
          · show 128 ≤ (s.get! pos).toNat; omega
          · show 128 ≤ (s.get! (pos + 1)).toNat; omega
          · show 128 ≤ (s.get! (pos + 2)).toNat; omega
          · show 128 ≤ (s.get! (pos + 3)).toNat; omega
          · omega
    · obtain rfl : pos = s.size := by omega
      rw [if_neg hlt, List.drop_eq_nil_of_le (by rw [← Lib.size_eq]; exact Nat.le_refl _)]
      rfl
end Go.Proofs.YthaoohckgilahaaDoor.M

/-
  Package scan: value, told, meta, Meta.
-/
namespace Go.Proofs.YthaoohckgilahaaDoor
open Go.RowKit
set_option maxRecDepth 1000000

theorem ixAttr (b off n c : Nat) (zs : Nat → Value × Value) (p : Nat → Bool) (g : Nat) (lb : Array Value) (eg : ∀ args w, (callFunc g args).run Tryd.prog w = .ok (.enter g args) w) (w : World)
    (hp : ∀ (W : World) (j : Nat), j < n → Below w.heap.size w W → Calls Tryd.prog g (#[.agg #[(zs j).1, (zs j).2]] ++ lb) W fun e w' => e = .returned (.bool (p j)) ∧ Below w.heap.size w w')
    (hbig : n ≤ 9223372036854775807) (hb : b < w.heap.size) (hc : ∀ j, j < n → w.cell? ⟨b, off + j * 2, none⟩ = some (zs j).1 ∧ w.cell? ⟨b, off + j * 2 + 1, none⟩ = some (zs j).2) :
    Calls Tryd.prog 57 #[.slice (some ⟨b, off, none⟩) n c, .func (.func g) #[] lb] w fun e w' => (∃ r : Int, e = .returned (.int .i64 r) ∧ FirstAt n p r) ∧ Below w.heap.size w w' := by
  have hrow : ∀ (W : World), Below w.heap.size w W → ∀ j, j < n → W.cell? ⟨b, off + j * 2, none⟩ = some (zs j).1 ∧ W.cell? ⟨b, off + j * 2 + 1, none⟩ = some (zs j).2 := fun W hW j hj => by
    have h1 := hc j hj
    exact ⟨(hW.cell (p := ⟨b, off + j * 2, none⟩) hb).trans h1.1, (hW.cell (p := ⟨b, off + j * 2 + 1, none⟩) hb).trans h1.2⟩
  clear hc
  go_enter Tryd.func57, Tryd.ntmps57
  go_wp2
  go_loopg [5, 8] n (fun gg _ s8 wr => ∃ kk : Nat, kk ≤ n ∧ n - kk ≤ gg ∧ s8 = .int .i64 kk ∧ Aside (Below w.heap.size w wr) ∧ Aside (∀ j, j < kk → p j = false))
  case atStart => exact ⟨0, Nat.zero_le _, by omega, rfl, Below.refl _ w, fun j hj => absurd hj (Nat.not_lt_zero _)⟩
  case round =>
    obtain ⟨kk, hkk, hg, rfl, BW, A⟩ := hrel
    by_cases hlt : kk < n
    · have hltz : (kk : Int) < (n : Int) := by omega
      obtain ⟨l1, l2⟩ := hrow wr BW.out kk (by omega)
      have hcall := hp wr kk hlt BW.out
      clear hrow hp
      generalize (zs kk) = y at l1 l2 hcall
      obtain ⟨y1, y2⟩ := y
      simp only at l1 l2 hcall
      cases hq : p kk with
      | true =>
        rw [hq] at hcall
        have HQ := Lib.hid hq
        clear hq
        go_wp2_with (go_at_fn g; refine hcall.mono ?_; rintro e w' ⟨rfl, hb'⟩)
        go_ret
        exact ⟨⟨kk, rfl, .inr ⟨kk, hlt, rfl, HQ.out, A.out⟩⟩, hb'⟩
      | false =>
        rw [hq] at hcall
        have HQ := Lib.hid hq
        clear hq
        go_wp2_with (go_at_fn g; refine hcall.mono ?_; rintro e w' ⟨rfl, hb'⟩)
        go_roundg (n - (kk + 1))
        case measure => omega
        case rel =>
          refine ⟨kk + 1, by omega, by omega, by go_num, hb', (show Aside _ from fun j hj => ?_)⟩
          by_cases e : j = kk
          · subst e
            exact HQ.out
          · exact A.out j (by omega)
    · have hltz : ¬ (kk : Int) < (n : Int) := by omega
      have : kk = n := by omega
      subst this
      go_wp2
      go_ret
      exact ⟨⟨-1, rfl, .inl ⟨rfl, A.out⟩⟩, BW.out⟩
theorem ixAttr_nil (a : Option Addr) (f : Value) (c : Nat) (w : World) : Calls Tryd.prog 57 #[.slice a 0 c, f] w fun e w' => e = .returned (.int .i64 (-1)) ∧ Bel w w' := by
  go_enter Tryd.func57, Tryd.ntmps57
  go_wp2
  go_loop [8] (fun v => v = .int .i64 0) (fun _ => 0)
  case atStart => rfl
  case round =>
    subst hrel
    go_wp2
    go_ret
    exact ⟨rfl, Bel.refl _⟩
/-- The first that has it; -1: none has. -/
def FindAt (xs : List (List UInt8 × List UInt8)) (p : List UInt8 × List UInt8 → Bool) (r : Int) : Prop := (r = -1 ∧ xs.find? p = none) ∨ ∃ (k : Nat) (q : List UInt8 × List UInt8), r = k ∧ xs[k]? = some q ∧ xs.find? p = some q
theorem find_at (xs : List (List UInt8 × List UInt8)) (p : List UInt8 × List UInt8 → Bool) (r : Int) (h : FirstAt xs.length (fun j => p (xs.getD j ([], []))) r) : FindAt xs p r := by
  rcases h with ⟨rfl, h⟩ | ⟨k, hk, rfl, hy, hno⟩
  · refine .inl ⟨rfl, List.find?_eq_none.2 fun x hx => ?_⟩
    obtain ⟨j, hj, rfl⟩ := List.getElem_of_mem hx
    have := h j hj
    simp only [List.getD_eq_getElem?_getD, List.getElem?_eq_getElem hj, Option.getD_some] at this
    rw [this]; decide
  · refine .inr ⟨k, xs[k], rfl, List.getElem?_eq_getElem hk, List.find?_eq_some_iff_getElem.2 ⟨?_, k, hk, rfl, fun j hj => ?_⟩⟩
    · simpa only [List.getD_eq_getElem?_getD, List.getElem?_eq_getElem hk, Option.getD_some] using hy
    · have := hno j hj
      simp only [List.getD_eq_getElem?_getD, List.getElem?_eq_getElem (Nat.lt_trans hj hk), Option.getD_some] at this
      rw [this]; rfl
theorem ixSl (v : Value) (xs : List (List UInt8 × List UInt8)) (p : List UInt8 × List UInt8 → Bool) (g : Nat) (lb : Array Value) (eg : ∀ args w, (callFunc g args).run Tryd.prog w = .ok (.enter g args) w) (w : World) (h : AttrSl w v xs)
    (hp : ∀ (W : World) (q : List UInt8 × List UInt8), Below w.heap.size w W → q ∈ xs → Calls Tryd.prog g (#[.agg #[.string ⟨q.1.toArray⟩, .string ⟨q.2.toArray⟩]] ++ lb) W fun e w' => e = .returned (.bool (p q)) ∧ Below w.heap.size w w') :
    Calls Tryd.prog 57 #[v, .func (.func g) #[] lb] w fun e w' => (∃ r : Int, e = .returned (.int .i64 r) ∧ FindAt xs p r) ∧ Below w.heap.size w w' := by
  obtain ⟨a, c, rfl, hc1, hc2, hn, hx⟩ := h
  by_cases h0 : xs = []
  · subst h0
    refine (ixAttr_nil a _ c w).mono ?_
    rintro e w' ⟨rfl, hb⟩
    exact ⟨⟨-1, rfl, .inl ⟨rfl, rfl⟩⟩, hb⟩
  · cases a with
    | none => exact absurd (hn rfl) h0
    | some x =>
      obtain ⟨g1, o, rfl, hy⟩ := hx x rfl h0
      have hat : ∀ j, (hj : j < xs.length) → xs.getD j ([], []) = xs[j] := fun j hj => by simp [hj]
      have hpos : 0 < xs.length := List.length_pos_iff.2 h0
      have hl := (hy 0 xs[0] (List.getElem?_eq_getElem hpos)).1
      have hlt := World.block_lt_of_cell? _ _ hl
      refine (ixAttr g1 o xs.length c (fun j => (.string ⟨(xs.getD j ([], [])).1.toArray⟩, .string ⟨(xs.getD j ([], [])).2.toArray⟩)) (fun j => p (xs.getD j ([], []))) g lb eg w ?_ ?_ hlt ?_).mono ?_
      · intro W j hj hW
        exact hp W _ hW (by rw [hat j hj]; exact List.getElem_mem hj)
      · unfold maxLen at hc2; omega
      · intro j hj
        obtain ⟨c1, c2⟩ := hy j _ (List.getElem?_eq_getElem hj)
        rw [hat j hj]
        exact ⟨c1, c2⟩
      · rintro e w' ⟨⟨r, rfl, hr⟩, hb⟩
        exact ⟨⟨r, rfl, find_at xs p r hr⟩, hb⟩
theorem val1_any (nm a b : ByteArray) (g : Nat) (w : World) (hc : w.cell? ⟨g, 0, none⟩ = some (.string nm)) (hg : g < w.heap.size) : Calls Tryd.prog 83 #[.agg #[.string a, .string b], .pointer (some ⟨g, 0, none⟩)] w fun e w' => e = .returned (.bool (a.toList == nm.toList)) ∧ Bel w w' := by
  go_enter Tryd.func83, Tryd.ntmps83
  have hne : g ≠ w.heap.size := by omega
  go_wp2
  all_goals (go_ret; exact ⟨by simp_all, (by repeat (first | exact Bel.refl _ | refine Bel.drewN ?_ _ | refine Bel.drew ?_ | refine Bel.alloc ?_ _ | refine Bel.trans ?_ (by assumption) | refine Bel.setCell ?_ (by simp; omega) _))⟩)
theorem valOf_some (xs : List (List UInt8 × List UInt8)) (nm : List UInt8) (q : List UInt8 × List UInt8) (h : xs.find? (fun a => a.1 == nm) = some q) : M.valOf xs nm = some q.2 := by rw [M.valOf, h]; rfl
theorem valOf_none (xs : List (List UInt8 × List UInt8)) (nm : List UInt8) (h : xs.find? (fun a => a.1 == nm) = none) : M.valOf xs nm = none := by rw [M.valOf, h]; rfl
theorem valOf_any (v : Value) (xs : List (List UInt8 × List UInt8)) (nm : ByteArray) (w : World) (h : AttrSl w v xs) : Calls Tryd.prog 71 #[v, .string nm] w fun e w' => e = .returned (.tuple #[.string ⟨((M.valOf xs nm.data.toList).getD []).toArray⟩, .bool (M.valOf xs nm.data.toList).isSome]) ∧ Bel w w' := by
  have HS := Lib.hid h
  obtain ⟨a, c, rfl, hc1, hc2, hn, hx⟩ := h
  unfold maxLen at hc2
  have HX := Lib.hid hx
  have HN := Lib.hid hn
  clear hx hn
  go_enter Tryd.func71, Tryd.ntmps71
  go_wp2_with fail
  refine (ixSl _ xs (fun q => q.1 == nm.data.toList) 83 #[.pointer (some ⟨w.heap.size, 0, none⟩)] (enters_of Tryd.func83 (by kernel_rfl) rfl) _ (HS.out.bel ((Bel.refl w).alloc _)) ?_).mono ?_
  · intro W q hW _
    refine (val1_any nm ⟨q.1.toArray⟩ ⟨q.2.toArray⟩ w.heap.size W ?_ ?_).mono ?_
    · rw [hW.cell (p := ⟨w.heap.size, 0, none⟩) (by simp), cell_new]
    · have := hW.size; simp at this; omega
    · rintro e w3 ⟨rfl, b4⟩
      refine ⟨?_, hW.trans (b4.mono hW.size)⟩
      rw [Lib.toList_data, Lib.toList_data]
  rintro e w4 ⟨⟨r, rfl, hr⟩, b4⟩
  have bB := ((Bel.refl w).alloc (.cells #[.string nm] 9)).trans b4
  rcases hr with ⟨rfl, hno⟩ | ⟨k, q, rfl, hk, hyes⟩
  · have HE := Lib.hid (valOf_none _ _ hno)
    clear hno
    go_wp2
    go_ret2
    exact ⟨by rw [HE.out]; rfl, bB⟩
  · have HE := Lib.hid (valOf_some _ _ _ hyes)
    have hkl := (List.getElem?_eq_some_iff.1 hk).1
    cases a with
    | none => exfalso; have h3 := hkl; rw [HN.out rfl] at h3; exact absurd h3 (Nat.not_lt_zero _)
    | some x =>
      obtain ⟨g, o, rfl, hx'⟩ := HX.out x rfl (List.ne_nil_of_length_pos (by omega))
      have c2 := (hx' k q hk).2
      have c2 := (bB.cell (World.block_lt_of_cell? _ _ c2)).trans c2
      clear hyes hk hx'
      go_wp2
      go_ret2
      exact ⟨by rw [HE.out]; rfl, bB⟩
/-- All values are short. -/
def ShortV (xs : List (List UInt8 × List UInt8)) : Prop := ∀ p ∈ xs, p.2.length ≤ 3000
theorem valOf_short (xs : List (List UInt8 × List UInt8)) (nm : List UInt8) (h : ShortV xs) : ((M.valOf xs nm).getD []).length ≤ 3000 := by
  rw [M.valOf]
  cases hf : xs.find? (fun a => a.1 == nm) with
  | none => exact Nat.zero_le _
  | some q => exact h q (List.mem_of_find?_eq_some hf)
theorem toldS_any (v : Value) (xs : List (List UInt8 × List UInt8)) (w : World) (h : AttrSl w v xs) (hs : ShortV xs) (hL : Len w) : Calls Tryd.prog 58 #[v] w fun e w' => e = .returned (.int .i64 (M.toldA xs)) ∧ Bel w w' := by
  have r1 := fun w h => valOf_any v xs ⟨#[99, 104, 97, 114, 115, 101, 116]⟩ w h
  have r2 := fun w h => valOf_any v xs ⟨#[104, 116, 116, 112, 45, 101, 113, 117, 105, 118]⟩ w h
  have r3 := fun w h => valOf_any v xs ⟨#[99, 111, 110, 116, 101, 110, 116]⟩ w h
  have s1 := valOf_short xs M.charset7 hs
  have s3 := valOf_short xs M.contentB hs
  rw [show (⟨#[99, 104, 97, 114, 115, 101, 116]⟩ : ByteArray).data.toList = M.charset7 from rfl] at r1
  rw [show (⟨#[104, 116, 116, 112, 45, 101, 113, 117, 105, 118]⟩ : ByteArray).data.toList = M.httpEquiv from rfl] at r2
  rw [show (⟨#[99, 111, 110, 116, 101, 110, 116]⟩ : ByteArray).data.toList = M.contentB from rfl] at r3
  cases h1 : M.valOf xs M.charset7 with
  | some u =>
    rw [h1] at r1 s1
    have HT := Lib.hid (show M.toldA xs = M.find u by rw [M.toldA, h1])
    have R1 := Lib.hid r1
    clear r1 r2 r3 h1
    go_enter Tryd.func58, Tryd.ntmps58
    go_wp2_with fail
    refine (R1.out w h).mono ?_
    rintro e w1 ⟨rfl, b1⟩
    rw [show (some u).getD [] = u from rfl, show (some u).isSome = true from rfl]
    have s1 : u.length ≤ 3000 := s1
    go_wp2_with fail
    refine (of_any ⟨u.toArray⟩ _ (by rw [size_str]; omega)).mono ?_
    rintro e w2 ⟨rfl, b2⟩
    go_wp2_with fail
    go_ret
    exact ⟨by rw [HT.out]; rfl, b1.trans b2⟩
  | none =>
    rw [h1] at r1
    have R1 := Lib.hid r1
    have R2 := Lib.hid r2
    have R3 := Lib.hid r3
    have hk : ((M.valOf xs M.httpEquiv).getD [] == [99, 111, 110, 116, 101, 110, 116, 45, 116, 121, 112, 101]) = true ↔ M.valOf xs M.httpEquiv = some M.contentType := by
      cases M.valOf xs M.httpEquiv with
      | none => exact ⟨(fun h => by cases h), (fun h => by cases h)⟩
      | some u => simp [M.contentType]
    cases hc : ((M.valOf xs M.httpEquiv).getD [] == [99, 111, 110, 116, 101, 110, 116, 45, 116, 121, 112, 101]) with
    | true =>
      have HT := Lib.hid (show M.toldA xs = M.charA ((M.valOf xs M.contentB).getD []) by rw [M.toldA, h1]; simp only; rw [if_pos (hk.1 hc)])
      clear r1 r2 r3 hk h1
      go_enter Tryd.func58, Tryd.ntmps58
      go_wp2_with fail
      refine (R1.out w h).mono ?_
      rintro e w1 ⟨rfl, b1⟩
      rw [show (none : Option (List UInt8)).getD [] = [] from rfl, show (none : Option (List UInt8)).isSome = false from rfl]
      go_wp2_with fail
      refine (R2.out _ (h.bel b1)).mono ?_
      rintro e w2 ⟨rfl, b2⟩
      have b2 := b1.trans b2
      go_wp2_with fail
      refine (R3.out _ (h.bel b2)).mono ?_
      rintro e w3 ⟨rfl, b3⟩
      have b3 := b2.trans b3
      go_wp2_with fail
      refine (told_any2 ⟨((M.valOf xs M.contentB).getD []).toArray⟩ (by rw [size_str]; exact s3) _ (hL.bel b3)).mono ?_
      rintro e w4 ⟨rfl, b4⟩
      go_wp2_with fail
      go_ret
      exact ⟨by rw [HT.out]; rfl, b3.trans b4⟩
    | false =>
      have HT := Lib.hid (show M.toldA xs = 0 by rw [M.toldA, h1]; simp only; rw [if_neg (fun h9 => by rw [hk.2 h9] at hc; cases hc)])
      clear r1 r2 r3 hk h1
      go_enter Tryd.func58, Tryd.ntmps58
      go_wp2_with fail
      refine (R1.out w h).mono ?_
      rintro e w1 ⟨rfl, b1⟩
      rw [show (none : Option (List UInt8)).getD [] = [] from rfl, show (none : Option (List UInt8)).isSome = false from rfl]
      go_wp2_with fail
      refine (R2.out _ (h.bel b1)).mono ?_
      rintro e w2 ⟨rfl, b2⟩
      have b2 := b1.trans b2
      go_wp2_with fail
      refine (R3.out _ (h.bel b2)).mono ?_
      rintro e w3 ⟨rfl, b3⟩
      have b3 := b2.trans b3
      go_wp2_with fail
      go_ret
      exact ⟨by rw [HT.out]; rfl, b3⟩
theorem metaS_any (v : Value) (xs : List (List UInt8 × List UInt8)) (w : World) (h : AttrSl w v xs) (hs : ShortV xs) (hL : Len w) : Calls Tryd.prog 36 #[v] w fun e w' => e = .returned (.int .i64 (M.metaA xs)) ∧ Bel w w' := by
  have HT := Lib.hid (show M.metaA xs = M.turnA (M.toldA xs) from rfl)
  obtain ⟨n, hn⟩ : ∃ n, M.toldA xs = n := ⟨_, rfl⟩
  have tt := toldS_any v xs w h hs hL
  rw [hn] at tt HT
  have HH := Lib.hid tt
  clear tt hn
  by_cases h2 : n = 2
  · subst h2
    go_enter Tryd.func36, Tryd.ntmps36
    go_wp2_with fail
    refine HH.out.mono ?_
    rintro e w1 ⟨rfl, b1⟩
    go_wp2_with fail
    go_ret
    exact ⟨by rw [HT.out]; rfl, b1⟩
  · by_cases h3 : n = 3
    · subst h3
      go_enter Tryd.func36, Tryd.ntmps36
      go_wp2_with fail
      refine HH.out.mono ?_
      rintro e w1 ⟨rfl, b1⟩
      go_wp2_with fail
      go_ret
      exact ⟨by rw [HT.out]; rfl, b1⟩
    · by_cases h5 : n = 5
      · subst h5
        go_enter Tryd.func36, Tryd.ntmps36
        go_wp2_with fail
        refine HH.out.mono ?_
        rintro e w1 ⟨rfl, b1⟩
        go_wp2_with fail
        go_ret
        exact ⟨by rw [HT.out]; rfl, b1⟩
      · have HX := Lib.hid (show M.turnA n = n by unfold M.turnA; rw [if_neg (by omega), if_neg h5])
        have e2 : (n == 2) = false := by simp [h2]
        have e3 : (n == 3) = false := by simp [h3]
        have e5 : (n == 5) = false := by simp [h5]
        clear h2 h3 h5
        go_enter Tryd.func36, Tryd.ntmps36
        go_wp2_with fail
        refine HH.out.mono ?_
        rintro e w1 ⟨rfl, b1⟩
        go_wp2_with fail
        go_ret
        exact ⟨by rw [HT.out, HX.out]; rfl, b1⟩
theorem longA_len (xs : List (List UInt8 × List UInt8)) (h : M.longA xs = false) : xs.length ≤ 3000 ∧ ShortV xs := by
  unfold M.longA at h
  rw [Bool.or_eq_false_iff] at h
  refine ⟨by have := h.1; simp at this; omega, fun p hp => ?_⟩
  have := List.any_eq_false.1 h.2 p hp
  simp at this
  omega
theorem meta1_any (s : ByteArray) (w : World) : Calls Tryd.prog 33 #[.string s] w fun e w' => e = .returned (.bool (decide (3000 < s.size))) ∧ w = w' := by
  go_enter Tryd.func33, Tryd.ntmps33
  go_wp2
  all_goals go_ret
  all_goals exact ⟨by simp; omega, rfl⟩
theorem meta2_any (a b : ByteArray) (g : Nat) (w : World) (hc : w.cell? ⟨g, 0, none⟩ = some (.func (.func 33) #[] #[])) (hg : g < w.heap.size) : Calls Tryd.prog 35 #[.agg #[.string a, .string b], .pointer (some ⟨g, 0, none⟩)] w fun e w' => e = .returned (.bool (decide (3000 < a.size) || decide (3000 < b.size))) ∧ Bel w w' := by
  go_enter Tryd.func35, Tryd.ntmps35
  have hne : g ≠ w.heap.size := by omega
  go_wp2_with (go_at_call 33; refine (meta1_any _ _).mono ?_; rintro e w' ⟨rfl, rfl⟩)
  all_goals (go_ret; exact ⟨by simp_all <;> omega, (by repeat (first | exact Bel.refl _ | refine Bel.drewN ?_ _ | refine Bel.drew ?_ | refine Bel.alloc ?_ _ | refine Bel.trans ?_ (by assumption) | refine Bel.setCell ?_ (by simp; omega) _))⟩)
theorem containsSl (v : Value) (xs : List (List UInt8 × List UInt8)) (p : List UInt8 × List UInt8 → Bool) (g : Nat) (lb : Array Value) (eg : ∀ args w, (callFunc g args).run Tryd.prog w = .ok (.enter g args) w) (w : World) (h : AttrSl w v xs)
    (hp : ∀ (W : World) (q : List UInt8 × List UInt8), Below w.heap.size w W → q ∈ xs → Calls Tryd.prog g (#[.agg #[.string ⟨q.1.toArray⟩, .string ⟨q.2.toArray⟩]] ++ lb) W fun e w' => e = .returned (.bool (p q)) ∧ Below w.heap.size w w') :
    Calls Tryd.prog 34 #[v, .func (.func g) #[] lb] w fun e w' => e = .returned (.bool (xs.any p)) ∧ Bel w w' := by
  have HI := Lib.hid (ixSl v xs p g lb eg w h hp)
  clear hp h
  go_enter Tryd.func34, Tryd.ntmps34
  go_wp2_with fail
  refine HI.out.mono ?_
  rintro e w1 ⟨⟨r, rfl, hr⟩, b1⟩
  rcases hr with ⟨rfl, hno⟩ | ⟨k, q, rfl, hk, hyes⟩
  · have HE := Lib.hid (show xs.any p = false by rw [List.any_eq_false]; exact List.find?_eq_none.1 hno)
    clear hno
    go_wp2
    go_ret
    exact ⟨by rw [HE.out]; rfl, b1⟩
  · have HE := Lib.hid (show xs.any p = true by rw [List.any_eq_true]; exact ⟨q, List.mem_of_find?_eq_some hyes, List.find?_some hyes⟩)
    clear hyes hk
    go_wp2
    go_ret
    exact ⟨by rw [HE.out]; simp, b1⟩
theorem metaS_to (v : Value) (xs : List (List UInt8 × List UInt8)) (n x : Int) (hE : M.metaE xs = (n, x)) (w : World) (h : AttrSl w v xs) (hL : Len w) : Calls Tryd.prog 17 #[v] w fun e w' => e = .returned (.tuple #[.int .i64 n, .int .i64 x]) ∧ Bel w w' := by
  have HS := Lib.hid h
  obtain ⟨a, c, rfl, hc1, hc2, hn, hx⟩ := h
  unfold maxLen at hc2
  clear hn hx
  by_cases hl : 3000 < xs.length
  · rw [M.metaE, if_pos (show M.longA xs = true by rw [M.longA, decide_eq_true hl]; rfl)] at hE
    injection hE with e1 e2
    subst e1; subst e2
    go_enter Tryd.func17, Tryd.ntmps17
    go_wp2_with fail
    go_ret2
    exact ⟨rfl, (by repeat (first | exact Bel.refl _ | refine Bel.drewN ?_ _ | refine Bel.drew ?_ | refine Bel.alloc ?_ _ | refine Bel.trans ?_ (by assumption) | refine Bel.setCell ?_ (by simp; omega) _))⟩
  · obtain ⟨b, hb⟩ : ∃ b, (xs.any fun a => decide (3000 < a.1.length) || decide (3000 < a.2.length)) = b := ⟨_, rfl⟩
    have hlong : M.longA xs = b := by rw [M.longA, hb, decide_eq_false hl]; rfl
    have hm := metaS_any (.slice a xs.length c) xs
    have hcs := fun W hW hp => containsSl (.slice a xs.length c) xs (fun a => decide (3000 < a.1.length) || decide (3000 < a.2.length)) 35 #[.pointer (some ⟨w.heap.size, 0, none⟩)] (enters_of Tryd.func35 (by kernel_rfl) rfl) W hW hp
    rw [hb] at hcs
    have HCS := Lib.hid hcs
    have HHL := Lib.hid hlong
    rw [M.metaE, hlong] at hE
    clear hcs hb hlong
    have hp : ∀ (W : World) (q : List UInt8 × List UInt8), Below (w.heap.size + 1) (w.alloc (.cells #[.func (.func 33) #[] #[]] 45)) W → q ∈ xs → Calls Tryd.prog 35 (#[.agg #[.string ⟨q.1.toArray⟩, .string ⟨q.2.toArray⟩]] ++ #[.pointer (some ⟨w.heap.size, 0, none⟩)]) W fun e w' => e = .returned (.bool (decide (3000 < q.1.length) || decide (3000 < q.2.length))) ∧ Below (w.heap.size + 1) (w.alloc (.cells #[.func (.func 33) #[] #[]] 45)) w' := by
      intro W q hW _
      have hsz := hW.size
      rw [World.size_alloc] at hsz
      refine (meta2_any ⟨q.1.toArray⟩ ⟨q.2.toArray⟩ w.heap.size W ?_ (by omega)).mono ?_
      · rw [hW.cell (p := ⟨w.heap.size, 0, none⟩) (by simp), cell_new]
      · rintro e w3 ⟨rfl, b4⟩
        refine ⟨by rw [size_str, size_str], hW.trans (b4.mono hsz)⟩
    have HP := Lib.hid hp
    clear hp
    cases b with
    | true =>
      rw [if_pos rfl] at hE
      injection hE with e1 e2
      subst e1; subst e2
      go_enter Tryd.func17, Tryd.ntmps17
      go_wp2_with fail
      refine (HCS.out _ (HS.out.bel ((Bel.refl w).alloc _)) (by rw [World.size_alloc]; exact HP.out)).mono ?_
      rintro e w1 ⟨rfl, b1⟩
      go_wp2_with fail
      go_ret2
      exact ⟨rfl, ((Bel.refl w).alloc _).trans b1⟩
    | false =>
      rw [if_neg (by decide)] at hE
      injection hE with e1 e2
      subst e1; subst e2
      go_enter Tryd.func17, Tryd.ntmps17
      go_wp2_with fail
      refine (HCS.out _ (HS.out.bel ((Bel.refl w).alloc _)) (by rw [World.size_alloc]; exact HP.out)).mono ?_
      rintro e w1 ⟨rfl, b1⟩
      have bB := ((Bel.refl w).alloc (.cells #[.func (.func 33) #[] #[]] 45)).trans b1
      go_wp2_with fail
      refine (hm _ (HS.out.bel bB) (longA_len xs HHL.out).2 (hL.bel bB)).mono ?_
      rintro e w2 ⟨rfl, b2⟩
      go_wp2_with fail
      go_ret2
      exact ⟨rfl, bB.trans b2⟩
end Go.Proofs.YthaoohckgilahaaDoor

/-
  Small answers: is a number between two, is it an encoding, is a text too long.
-/
namespace Go.Proofs.YthaoohckgilahaaDoor
open Go.RowKit

theorem between_any (n a b : Int) (w : World) : Calls Tryd.prog 56 #[.int .i64 n, .int .i64 a, .int .i64 b] w fun e w' => e = .returned (.bool (decide (a ≤ n ∧ n ≤ b))) ∧ w = w' := by
  by_cases h : a ≤ n <;> by_cases h2 : n ≤ b
  all_goals
    go_enter Tryd.func56, Tryd.ntmps56
    go_wp2
    go_ret
    refine ⟨?_, rfl⟩
    simp
    omega
theorem tooLong_any (s : ByteArray) (w : World) : Calls Tryd.prog 11 #[.string s] w fun e w' => e = .returned (.int .i64 (M.long s.data.toList)) ∧ w = w' := by
  by_cases h : 3000 < s.size
  · have H := Lib.hid (show M.long s.data.toList = 2 by rw [M.long, if_pos (by rw [← Lib.size_eq]; exact h)])
    go_enter Tryd.func11, Tryd.ntmps11
    go_wp2
    go_ret
    exact ⟨by rw [H.out]; rfl, rfl⟩
  · have H := Lib.hid (show M.long s.data.toList = 0 by rw [M.long, if_neg (by rw [← Lib.size_eq]; exact h)])
    go_enter Tryd.func11, Tryd.ntmps11
    go_wp2
    go_ret
    exact ⟨by rw [H.out]; rfl, rfl⟩
end Go.Proofs.YthaoohckgilahaaDoor

/-
  The document's answers on labels: TrimOf, FoldOf, FindOf, NameOf.
-/
namespace Go.Proofs.YthaoohckgilahaaDoor
open Go.RowKit
set_option maxRecDepth 1000000

theorem trimL_cons (c : UInt8) (l : List UInt8) (h : M.white c = true) : M.trimL (c :: l) = M.trimL l := by
  rw [M.trimL, List.dropWhile_cons, if_pos h]; rfl
theorem trimR_snoc (c : UInt8) (l : List UInt8) (h : M.white c = true) : M.trimR (l ++ [c]) = M.trimR l := by
  rw [M.trimR, List.reverse_append, List.reverse_cons, List.reverse_nil, List.nil_append, List.singleton_append, List.dropWhile_cons, if_pos h]; rfl
theorem trimR_stop (c : UInt8) (l : List UInt8) (h : M.white c = false) : M.trimR (l ++ [c]) = l ++ [c] := by
  rw [M.trimR, List.reverse_append, List.reverse_cons, List.reverse_nil, List.nil_append, List.singleton_append, List.dropWhile_cons, if_neg (by rw [h]; decide), List.reverse_cons, List.reverse_reverse]
theorem take_str (s : ByteArray) (k : Nat) : (s.extract 0 k).data.toList = s.data.toList.take k := by
  rw [Lib.extract_data, List.drop_zero, Nat.sub_zero]
theorem snoc_of (u : ByteArray) (h : 0 < u.size) : u.data.toList = u.data.toList.take (u.size - 1) ++ [u[u.size - 1]] := by
  have e : u.size - 1 + 1 = u.data.toList.length := by rw [← Lib.size_eq]; omega
  have := List.take_add_one (l := u.data.toList) (i := u.size - 1)
  rw [e, List.take_length, byte_at u (u.size - 1) (by omega)] at this
  exact this
theorem M.trim_lr (l : List UInt8) : M.trim l = M.trimR (M.trimL l) := rfl
theorem trimOf_any (s : ByteArray) (w : World) (hs : s.size ≤ 68719476735) : Calls Tryd.prog 54 #[.string s] w fun e w' => e = .returned (.string ⟨(M.trim s.data.toList).toArray⟩) ∧ w = w' := by
  go_enter Tryd.func54, Tryd.ntmps54
  go_wp2_with fail
  go_loop [0] (fun v => ∃ t : ByteArray, v = .string t ∧ t.size ≤ s.size ∧ Hid (M.trimL t.data.toList = M.trimL s.data.toList)) (fun v => strLen v)
  case atStart => exact ⟨s, rfl, Nat.le_refl _, Lib.hid rfl⟩
  case round =>
    obtain ⟨t, rfl, ht, HT⟩ := hrel
    by_cases hlt : 0 < t.size
    · have HB := Lib.hid (byte_at t 0 hlt)
      have HS := Lib.hid (drop_size t 1)
      have HD := Lib.hid (drop_str t 1)
      cases hw : M.white t[0] with
      | true =>
        have HW := Lib.hid hw
        clear hw
        go_wp2_with (go_at_call 30; refine (isWhite_any _ _).mono ?_; rintro e w' ⟨rfl, rfl⟩; rw [HW.out])
        go_round
        case rel =>
          refine ⟨_, rfl, by rw [HS.out]; omega, Lib.hid ?_⟩
          rw [← HT.out, HD.out]
          cases hl : t.data.toList with
          | nil => rw [hl] at HB; cases HB.out
          | cons c l =>
            have h2 := HB.out
            rw [hl] at h2
            injection h2 with h2
            rw [trimL_cons c l (by rw [h2]; exact HW.out)]; rfl
        case measure => simp only [strLen, HS.out]; omega
      | false =>
        have HE := Lib.hid (show t.data.toList = M.trimL s.data.toList by
          rw [← HT.out, M.trimL_of_head]
          intro c hc
          have h2 := HB.out
          rw [List.head?_eq_getElem?, h2] at hc
          injection hc with hc
          rw [← hc]; exact hw)
        have HW := Lib.hid hw
        clear hw
        go_wp2_with (go_at_call 30; refine (isWhite_any _ _).mono ?_; rintro e w' ⟨rfl, rfl⟩; rw [HW.out])
        clear HB HS HD HT HW
        go_loop [0] (fun v => ∃ u : ByteArray, v = .string u ∧ u.size ≤ t.size ∧ Hid (M.trimR u.data.toList = M.trimR t.data.toList)) (fun v => strLen v)
        case atStart => exact ⟨t, rfl, Nat.le_refl _, Lib.hid rfl⟩
        case round =>
          obtain ⟨u, rfl, hu, HT⟩ := hrel
          by_cases hlt2 : 0 < u.size
          · have HB := Lib.hid (byte_at u (u.size - 1) (by omega))
            have hlast : ((u.size : Int) - 1).toNat = u.size - 1 := by omega
            cases hw : M.white (u[u.size - 1]'(by omega)) with
            | true =>
              have HW := Lib.hid hw
              clear hw
              go_wp2_with (go_at_call 30; refine (isWhite_any _ _).mono ?_; rintro e w' ⟨rfl, rfl⟩; rw [HW.out])
              go_round
              case rel =>
                refine ⟨_, rfl, ?_, Lib.hid ?_⟩
                · rw [Lib.size_eq, take_str, List.length_take, ← Lib.size_eq]; omega
                · rw [← HT.out, take_str]
                  have e := snoc_of u hlt2
                  conv => rhs; rw [e]
                  rw [trimR_snoc _ _ HW.out]
              case measure => simp only [strLen]; rw [Lib.size_eq, take_str, List.length_take, ← Lib.size_eq]; omega
            | false =>
              have HW := Lib.hid hw
              clear hw
              go_wp2_with (go_at_call 30; refine (isWhite_any _ _).mono ?_; rintro e w' ⟨rfl, rfl⟩; rw [HW.out])
              go_ret
              refine ⟨?_, rfl⟩
              rw [M.trim_lr, ← HE.out, ← HT.out]
              have e := snoc_of u hlt2
              rw [e, trimR_stop _ _ HW.out, ← e, str_eq]; rfl
          · have hz : u.data.toList = [] := by
              rw [← List.length_eq_zero_iff, ← Lib.size_eq]; omega
            have HZ := Lib.hid hz
            clear hz
            go_wp2_with fail
            go_ret
            refine ⟨?_, rfl⟩
            rw [M.trim_lr, ← HE.out, ← HT.out, HZ.out]
            have e : u = ⟨(M.trimR []).toArray⟩ := by rw [← str_eq u, HZ.out]; rfl
            rw [← e]; rfl
    · have hz : t.data.toList = [] := by
        rw [← List.length_eq_zero_iff, ← Lib.size_eq]; omega
      have HZ := Lib.hid hz
      clear hz
      go_wp2_with fail
      refine wp_loop_rounds 2 ?_
      rw [rounds_succ]
      go_wp2_with fail
      go_ret
      refine ⟨?_, rfl⟩
      rw [M.trim_lr, ← HT.out, HZ.out]
      have e : t = ⟨(M.trimR (M.trimL [])).toArray⟩ := by rw [← str_eq t, HZ.out]; rfl
      rw [← e]; rfl
theorem foldOf_any (s : ByteArray) (w : World) (hs : s.size ≤ 68719476735) : Calls Tryd.prog 32 #[.string s] w fun e w' => e = .returned (.string ⟨(M.fold s.data.toList).toArray⟩) ∧ Bel w w' := by
  have HL := Lib.hid (show (M.fold s.data.toList).length = s.size by rw [M.fold_len, ← Lib.size_eq])
  go_enter Tryd.func32, Tryd.ntmps32
  go_wp2_with fail
  go_loopw [3, 4] (fun v i wr => ∃ k : Nat, k ≤ s.size ∧ i = .int .i64 k ∧ Own w.heap.size 5 wr v (((M.fold s.data.toList).take k).map byteVal) ∧ Bel w wr) (fun _ i _ => s.size - (intOf i).toNat)
  case atStart => exact ⟨0, by omega, rfl, Own.nil _ _ _, Bel.refl _⟩
  case round =>
    obtain ⟨k, hk, rfl, hown, hb⟩ := hrel
    by_cases hlt : k < s.size
    · have HT := Lib.hid (take_snoc byteVal (M.fold s.data.toList) k (M.fold1 s[k]) (by unfold M.fold; rw [List.getElem?_map, byte_at s k hlt]; rfl))
      have hlen : ((M.fold s.data.toList).take k).length ≤ k := List.length_take_le _ _
      have hc0 : s[k].toNat < 256 := s[k].toNat_lt
      by_cases h1 : 65 ≤ s[k].toNat ∧ s[k].toNat ≤ 90
      · have HF := Lib.hid (show byteVal (M.fold1 s[k]) = .int .u8 ((s[k].toNat : Int) + 32) by
          rw [byteVal, M.fold1, if_pos h1, M.add32 s[k] h1]; rfl)
        have e1 : decide ((65 : Int) ≤ (s[k].toNat : Int) ∧ (s[k].toNat : Int) ≤ 90) = true := by rw [decide_eq_true_eq]; omega
        have h2 := h1.2
        go_wp2_with (first | (go_at_call 56; refine (between_any _ _ _ _).mono ?_; rintro e w' ⟨rfl, rfl⟩; rw [e1]) | (at_builtin; refine wpList_app rfl (.tmp 20) (.tmp 22) 72 rfl elemByte (by decide) w.heap.size _ _ _ rfl rfl hown rfl (by simp; omega) (by first | exact Nat.le_refl _ | assumption | (have := hb.size; omega)) ?_; intro v' w1 hown' hb1))
        go_roundw
        case rel => exact ⟨k + 1, by omega, by go_num, by rw [HT.out, HF.out]; exact hown', hb.upto hb1 (Nat.le_refl _)⟩
        case measure => simp [intOf]; omega
      · have HF := Lib.hid (show byteVal (M.fold1 s[k]) = .int .u8 (s[k].toNat : Int) by
          rw [byteVal, M.fold1, if_neg h1])
        have e1 : decide ((65 : Int) ≤ (s[k].toNat : Int) ∧ (s[k].toNat : Int) ≤ 90) = false := by rw [decide_eq_false_iff_not]; omega
        go_wp2_with (first | (go_at_call 56; refine (between_any _ _ _ _).mono ?_; rintro e w' ⟨rfl, rfl⟩; rw [e1]) | (at_builtin; refine wpList_app rfl (.tmp 20) (.tmp 22) 72 rfl elemByte (by decide) w.heap.size _ _ _ rfl rfl hown rfl (by simp; omega) (by first | exact Nat.le_refl _ | assumption | (have := hb.size; omega)) ?_; intro v' w1 hown' hb1))
        go_roundw
        case rel => exact ⟨k + 1, by omega, by go_num, by rw [HT.out, HF.out]; exact hown', hb.upto hb1 (Nat.le_refl _)⟩
        case measure => simp [intOf]; omega
    · obtain rfl : k = s.size := by omega
      have HT := Lib.hid (show (M.fold s.data.toList).take s.size = M.fold s.data.toList by rw [← HL.out, List.take_length])
      rw [HT.out] at hown
      go_wp2_with ((with_reducible show wpList _ _ _ _ _ _); refine wpList_toString rfl (.tmp 24) _ _ 5 rfl Tryd.underlying72 Tryd.underlying5 Tryd.underlying9 w.heap.size _ _ rfl hown ?_)
      go_ret
      exact ⟨rfl, hb⟩
theorem findOf_any (s : ByteArray) (w : World) (hs : s.size ≤ 68719476735) : Calls Tryd.prog 31 #[.string s] w fun e w' => e = .returned (.int .i64 (M.find s.data.toList)) ∧ Bel w w' := by
  have HF := Lib.hid (M.find_first (M.fold (M.trim s.data.toList)))
  have HN := Lib.hid (M.find_none (M.fold (M.trim s.data.toList)))
  have HL := Lib.hid (M.trim_len s.data.toList)
  have HS := Lib.hid (Lib.size_eq s)
  go_enter Tryd.func31, Tryd.ntmps31
  go_wp2_with (first | (go_at_call 55; refine (labels_any _).mono ?_; rintro e w' ⟨rfl, hc, b3, hg1⟩) | (go_at_call 54; refine (trimOf_any s _ (by omega)).mono ?_; rintro e w' ⟨rfl, rfl⟩) | (go_at_call 32; refine (foldOf_any _ _ (by rw [size_str]; have := HL.out; rw [← HS.out] at this; omega)).mono ?_; rintro e wA ⟨rfl, b1⟩))
  obtain ⟨z, hz⟩ : ∃ z : ByteArray, z = ⟨(M.fold (M.trim s.data.toList)).toArray⟩ := ⟨_, rfl⟩
  rw [← hz]
  have HZ := Lib.hid hz
  clear hz
  have HC := Lib.hid hc
  clear hc
  go_loop [4] (fun i => ∃ k : Nat, k ≤ 22 ∧ i = .int .i64 k ∧ Hid (∀ j, j < k → ((M.labelAt j).1 == M.fold (M.trim s.data.toList)) = false)) (fun i => 22 - (intOf i).toNat)
  case atStart => exact ⟨0, by omega, rfl, Lib.hid (fun j hj => by omega)⟩
  case round =>
    obtain ⟨k, hk, rfl, HNO⟩ := hrel
    by_cases hlt : k < 22
    · obtain ⟨c1, c2⟩ := HC.out k hlt
      rw [Nat.zero_add] at c1 c2
      have HA := Lib.hid (show ((⟨(M.labelAt k).1.toArray⟩ : ByteArray).toList == z.toList) = ((M.labelAt k).1 == M.fold (M.trim s.data.toList)) by
        rw [Lib.toList_data, HZ.out, Lib.toList_data])
      generalize (⟨(M.labelAt k).1.toArray⟩ : ByteArray) = a at c1 HA
      cases hq : ((M.labelAt k).1 == M.fold (M.trim s.data.toList)) with
      | true =>
        have ha : (a.toList == z.toList) = true := by rw [HA.out, hq]
        have HE := Lib.hid (HF.out k hlt hq HNO.out)
        clear hq
        go_wp2_with fail
        go_ret
        exact ⟨by rw [M.find, HE.out]; rfl, b1.trans b3⟩
      | false =>
        have ha : (a.toList == z.toList) = false := by rw [HA.out, hq]
        have HR := Lib.hid (show ∀ j, j < k + 1 → ((M.labelAt j).1 == M.fold (M.trim s.data.toList)) = false by
          intro j hj
          by_cases e : j = k
          · subst e; exact hq
          · exact HNO.out j (by omega))
        clear hq
        go_wp2_with fail
        go_round
        case rel => exact ⟨k + 1, by omega, by go_num, HR⟩
        case measure => simp [intOf]; omega
    · obtain rfl : k = 22 := by omega
      have HE := Lib.hid (HN.out HNO.out)
      go_wp2_with fail
      go_ret
      exact ⟨by rw [M.find, HE.out]; rfl, b1.trans b3⟩
end Go.Proofs.YthaoohckgilahaaDoor

/-
  The document's answers on attributes: AttrAt.
-/
namespace Go.Proofs.YthaoohckgilahaaDoor
open Go.RowKit
set_option maxRecDepth 1000000

theorem drop_cons (s : ByteArray) (k : Nat) (h : k < s.size) : s.data.toList.drop k = s[k] :: s.data.toList.drop (k + 1) := by
  have hk : k < s.data.toList.length := by rw [← Lib.size_eq]; exact h
  rw [List.drop_eq_getElem_cons hk]
  rfl
theorem drop_end (s : ByteArray) : s.data.toList.drop s.size = [] := List.drop_eq_nil_of_le (by rw [← Lib.size_eq]; exact Nat.le_refl _)
theorem dw_go (p : UInt8 → Bool) (s : ByteArray) (j : Nat) (h : j < s.size) (hp : p s[j] = true) : (s.data.toList.drop (j + 1)).dropWhile p = (s.data.toList.drop j).dropWhile p := by
  rw [drop_cons s j h, List.dropWhile_cons, if_pos hp]
theorem dw_stop (p : UInt8 → Bool) (s : ByteArray) (j : Nat) (h : j < s.size) (hp : p s[j] = false) : (s.data.toList.drop j).dropWhile p = s.data.toList.drop j := by
  rw [drop_cons s j h, List.dropWhile_cons, if_neg (by rw [hp]; decide)]
theorem tw_go (p : UInt8 → Bool) (s : ByteArray) (j : Nat) (h : j < s.size) (hp : p s[j] = true) : (s.data.toList.drop j).takeWhile p = s[j] :: (s.data.toList.drop (j + 1)).takeWhile p := by
  rw [drop_cons s j h, List.takeWhile_cons, if_pos hp]
theorem tw_stop (p : UInt8 → Bool) (s : ByteArray) (j : Nat) (h : j < s.size) (hp : p s[j] = false) : (s.data.toList.drop j).takeWhile p = [] := by
  rw [drop_cons s j h, List.takeWhile_cons, if_neg (by rw [hp]; decide)]
theorem one_str (s : ByteArray) (u : List UInt8) (j : Nat) (h : j < s.size) : (⟨u.toArray⟩ : ByteArray) ++ s.extract j (j + 1) = ⟨(u ++ [s[j]]).toArray⟩ := by
  rw [cut_str s j 1, drop_cons s j h, str_append]; rfl
theorem name_int2 (c : UInt8) : M.nameB c = (((c.toNat : Int) != 61) && ((c.toNat : Int) != 47) && ((c.toNat : Int) != 62) && !M.white c) := by
  rw [M.nameB]
  have e47 : UInt8.toNat 47 = 47 := rfl
  have e62 : UInt8.toNat 62 = 62 := rfl
  have e61 : UInt8.toNat 61 = 61 := rfl
  rw [Bool.eq_iff_iff]
  simp only [Bool.and_eq_true, bne_iff_ne, ne_eq, decide_eq_true_eq, ← UInt8.toNat_inj]
  constructor
  · rintro ⟨h0, h1, h2, h3⟩
    exact ⟨⟨⟨by omega, by omega⟩, by omega⟩, h0⟩
  · rintro ⟨⟨⟨h1, h2⟩, h3⟩, h0⟩
    exact ⟨h0, by omega, by omega, by omega⟩
theorem not_int (q c : UInt8) : (c != q) = ((c.toNat : Int) != (q.toNat : Int)) := by rw [bne, bne, byte_eq]
theorem quote_34 (c : UInt8) (h : ((c.toNat : Int) == 34) = true) : c = 34 ∨ c = 39 := .inl (UInt8.toNat_inj.1 (by have e : UInt8.toNat 34 = 34 := rfl; simp at h; omega))
theorem quote_39 (c : UInt8) (h : ((c.toNat : Int) == 39) = true) : c = 34 ∨ c = 39 := .inr (UInt8.toNat_inj.1 (by have e : UInt8.toNat 39 = 39 := rfl; simp at h; omega))
theorem quote_no (c : UInt8) (h : ((c.toNat : Int) == 34) = false) (h2 : ((c.toNat : Int) == 39) = false) : ¬ (c = 34 ∨ c = 39) := by
  simp at h h2
  rintro (rfl | rfl)
  · exact h rfl
  · exact h2 rfl
theorem fin_attr (n : Nat) (o : Option (List UInt8 × List UInt8)) (r : List UInt8) (o' : Option (List UInt8 × List UInt8)) (r' : List UInt8) (h : (o', r') = (o, r)) (X Y : ByteArray) (hX : Value.agg #[.string X, .string Y] = agA o') (kk : Nat) (hk : kk = n - r'.length) (b : Bool) (hb : o'.isSome = b) :
    Ending.returned (.tuple #[.agg #[.string X, .string Y], .int .i64 (kk : Int), .bool b]) = .returned (.tuple #[agA o, .int .i64 ((n - r.length : Nat) : Int), .bool o.isSome]) := by
  injection h with h1 h2
  subst h1; subst h2; subst hk; subst hb
  rw [hX]
set_option maxHeartbeats 16000000 in
theorem attrAt_any (s : ByteArray) (k : Nat) (hk : k ≤ s.size) (hs : s.size ≤ 3000) (o : Option (List UInt8 × List UInt8)) (r : List UInt8) (hn : M.nextA (s.data.toList.drop k) = (o, r)) (w : World) :
    Calls Tryd.prog 13 #[.string s, .int .i64 (k : Int)] w fun e w' => e = .returned (.tuple #[agA o, .int .i64 ((s.size - r.length : Nat) : Int), .bool o.isSome]) ∧ Bel w w' := by
  have HN := Lib.hid hn
  clear hn
  have hy : Box (w.alloc (.cells #[.string ⟨#[]⟩, .string ⟨#[]⟩] 23)) w.heap.size 23 [.string ⟨#[]⟩, .string ⟨#[]⟩] := Box.new w 23 [.string ⟨#[]⟩, .string ⟨#[]⟩]
  have hb : Bel w (w.alloc (.cells #[.string ⟨#[]⟩, .string ⟨#[]⟩] 23)) := (Bel.refl w).alloc _
  go_enter Tryd.func13, Tryd.ntmps13
  go_upto_block 0 with fail
  generalize (w.alloc (.cells #[.string ⟨#[]⟩, .string ⟨#[]⟩] 23)) = W at *
  go_cut [1] from 10 to 27 (fun v wx => (∃ j : Nat, v = .int .i64 (j : Int) ∧ k ≤ j ∧ j ≤ s.size ∧ s.data.toList.drop j = (s.data.toList.drop k).dropWhile M.skipB) ∧ W = wx)
  case first =>
    go_wp2_with fail
    go_loop [1] (fun v => ∃ j : Nat, v = .int .i64 (j : Int) ∧ k ≤ j ∧ j ≤ s.size ∧ Hid ((s.data.toList.drop j).dropWhile M.skipB = (s.data.toList.drop k).dropWhile M.skipB)) (fun v => s.size - (intOf v).toNat)
    case atStart => exact ⟨k, by first | rfl | go_num, Nat.le_refl _, by omega, Lib.hid rfl⟩
    case round =>
      obtain ⟨j, rfl, hsj, hj, HJ⟩ := hrel
      by_cases hlt : j < s.size
      ·
        cases hw : M.white s[j] with
        | true =>
          have hp : (M.skipB) s[j] = true := by simp [skip_int, hw]
          have HR := Lib.hid ((dw_go (M.skipB) s j hlt hp).trans HJ.out)
          have HW := Lib.hid hw
          clear hp hw
          go_wp2_with (go_at_call 30; refine (isWhite_any _ _).mono ?_; rintro e w' ⟨rfl, rfl⟩; rw [HW.out])
          go_round
          case rel => exact ⟨j + 1, by go_num, by omega, by omega, HR⟩
          case measure => simp [intOf]; omega
        | false =>
          cases h47 : ((s[j].toNat : Int) == 47) with
          | true =>
            have hp : (M.skipB) s[j] = true := by simp [skip_int, hw, h47]
            have HR := Lib.hid ((dw_go (M.skipB) s j hlt hp).trans HJ.out)
            have HW := Lib.hid hw
            clear hp hw
            go_wp2_with (go_at_call 30; refine (isWhite_any _ _).mono ?_; rintro e w' ⟨rfl, rfl⟩; rw [HW.out])
            go_round
            case rel => exact ⟨j + 1, by go_num, by omega, by omega, HR⟩
            case measure => simp [intOf]; omega
          | false =>
            have hp : (M.skipB) s[j] = false := by simp [skip_int, hw, h47]
            have HR := Lib.hid ((dw_stop (M.skipB) s j hlt hp).symm.trans HJ.out)
            have HW := Lib.hid hw
            clear hp hw
            go_wp2_with (go_at_call 30; refine (isWhite_any _ _).mono ?_; rintro e w' ⟨rfl, rfl⟩; rw [HW.out])
            go_meet
            exact ⟨⟨j, rfl, hsj, hj, HR.out⟩, rfl⟩
      · obtain rfl : j = s.size := by omega
        have HR := Lib.hid (show s.data.toList.drop s.size = (s.data.toList.drop k).dropWhile M.skipB by rw [← HJ.out, drop_end]; rfl)
        go_wp2_with fail
        go_meet
        exact ⟨⟨s.size, rfl, hsj, hj, HR.out⟩, rfl⟩
  case rest =>
  obtain ⟨⟨k1, rfl, hk01, hk1, hl1⟩, rfl⟩ := hcut
  by_cases hlt1 : k1 < s.size
  ·
    have hne1 : ((k1 : Int) == (s.size : Int)) = false := by simp; omega
    have hdc := drop_cons s k1 hlt1
    rw [hl1] at hdc
    have hend := end_int s[k1]
    cases h62 : ((s[k1].toNat : Int) != 62) with
    | false =>
      rw [h62] at hend
      have HX := Lib.hid (show M.nextA (s.data.toList.drop k) = (none, (s.data.toList.drop k).dropWhile M.skipB) by rw [M.nextA, hdc]; simp only; rw [if_pos (by simpa using hend)])
      have h62' : ((s[k1].toNat : Int) == 62) = true := by simpa using h62
      clear hend hdc h62
      have cy0 := hy.cell 0 _ rfl
      have cy1 := hy.cell 1 _ rfl
      have fy0 := hy.frozen 0
      have fy1 := hy.frozen 1
      go_wp2_with fail
      have hz := (hy.set 0 (.string ⟨#[]⟩)).set 1 (.string ⟨#[]⟩)
      have d0 := hz.cell 0 _ rfl
      have d1 := hz.cell 1 _ rfl
      refine bodyPost_ret (v := .tuple #[.agg #[.string ⟨#[]⟩, .string ⟨#[]⟩], .int .i64 ((k1 : Nat) : Int), .bool false]) (by simp [results, Tryd.results13, go_sem, d0, d1]) rfl ⟨?_, ?_⟩
      · exact fin_attr s.size o r _ _ (HX.out.symm.trans HN.out) _ _ rfl _ (at_of s k1 hk1 _ hl1) _ rfl
      · exact (hb.setCell (p := ⟨w.heap.size, 0, none⟩) (Nat.le_refl _) _).setCell (p := ⟨w.heap.size, 1, none⟩) (Nat.le_refl _) _
    | true =>
      rw [h62] at hend
      have hc62 : s[k1] ≠ 62 := by simpa using hend
      have HX := Lib.hid (show M.nextA (s.data.toList.drop k) = M.afterA ([s[k1]] ++ (s.data.toList.drop (k1 + 1)).takeWhile M.nameB) (((s.data.toList.drop (k1 + 1)).dropWhile M.nameB).dropWhile M.white) by rw [M.nextA, hdc]; simp only; rw [if_neg hc62]; rfl)
      have h62' : ((s[k1].toNat : Int) == 62) = false := by simpa using h62
      have hn1 : s.extract k1 (k1 + 1) = ⟨[s[k1]].toArray⟩ := by rw [cut_str s k1 1, drop_cons s k1 hlt1]; rfl
      have HN1 := Lib.hid hn1
      clear hend hdc h62 hc62 hn1 hl1
      go_upto_block 2 with fail
      rw [HN1.out]
      go_cut [1, 7] from 47 to 84 (fun v t wx => (∃ (j : Nat) (u : List UInt8), v = .int .i64 (j : Int) ∧ t = .string ⟨u.toArray⟩ ∧ (k1 + 1) ≤ j ∧ j ≤ s.size ∧ s.data.toList.drop j = (s.data.toList.drop (k1 + 1)).dropWhile M.nameB ∧ u = [s[k1]] ++ (s.data.toList.drop (k1 + 1)).takeWhile M.nameB) ∧ W = wx)
      case first =>
        go_wp2_with fail
        go_loop [1, 7] (fun v t => ∃ (j : Nat) (u : List UInt8), v = .int .i64 (j : Int) ∧ t = .string ⟨u.toArray⟩ ∧ (k1 + 1) ≤ j ∧ j ≤ s.size ∧ u.length ≤ j ∧ Hid ((s.data.toList.drop j).dropWhile M.nameB = (s.data.toList.drop (k1 + 1)).dropWhile M.nameB) ∧ Hid (u ++ (s.data.toList.drop j).takeWhile M.nameB = [s[k1]] ++ (s.data.toList.drop (k1 + 1)).takeWhile M.nameB)) (fun v _ => s.size - (intOf v).toNat)
        case atStart => exact ⟨(k1 + 1), [s[k1]], by first | rfl | go_num, by first | rfl | assumption, Nat.le_refl _, by omega, by simp; try omega, Lib.hid rfl, Lib.hid rfl⟩
        case round =>
          obtain ⟨j, u, rfl, rfl, hsj, hj, hul, HJ, HU⟩ := hrel
          by_cases hlt : j < s.size
          ·
            cases h61 : ((s[j].toNat : Int) != 61) with
            | true =>
              cases h47 : ((s[j].toNat : Int) != 47) with
              | true =>
                cases h62 : ((s[j].toNat : Int) != 62) with
                | true =>
                  cases hw : M.white s[j] with
                  | true =>
                    have hp : (M.nameB) s[j] = false := by simp [name_int2, h61, h47, h62, hw]
                    have HR := Lib.hid ((dw_stop (M.nameB) s j hlt hp).symm.trans HJ.out)
                    have HV := Lib.hid (show u = [s[k1]] ++ (s.data.toList.drop (k1 + 1)).takeWhile M.nameB by rw [← HU.out, tw_stop (M.nameB) s j hlt hp, List.append_nil])
                    have HW := Lib.hid hw
                    clear hp hw
                    go_wp2_with (go_at_call 30; refine (isWhite_any _ _).mono ?_; rintro e w' ⟨rfl, rfl⟩; rw [HW.out])
                    go_meet
                    exact ⟨⟨j, u, rfl, rfl, hsj, hj, HR.out, HV.out⟩, rfl⟩
                  | false =>
                    have hp : (M.nameB) s[j] = true := by simp [name_int2, h61, h47, h62, hw]
                    have HR := Lib.hid ((dw_go (M.nameB) s j hlt hp).trans HJ.out)
                    have HV := Lib.hid (show (u ++ [s[j]]) ++ (s.data.toList.drop (j + 1)).takeWhile M.nameB = [s[k1]] ++ (s.data.toList.drop (k1 + 1)).takeWhile M.nameB by rw [← HU.out, tw_go (M.nameB) s j hlt hp, List.append_assoc]; rfl)
                    have HS := Lib.hid (one_str s u j hlt)
                    have HW := Lib.hid hw
                    clear hp hw
                    go_wp2_with (go_at_call 30; refine (isWhite_any _ _).mono ?_; rintro e w' ⟨rfl, rfl⟩; rw [HW.out])
                    go_round
                    case rel => exact ⟨j + 1, u ++ [s[j]], by go_num, by rw [← HS.out], by omega, by omega, by rw [List.length_append, List.length_singleton]; omega, HR, HV⟩
                    case measure => simp [intOf]; omega
                | false =>
                  have hp : (M.nameB) s[j] = false := by simp [name_int2, h61, h47, h62]
                  have HR := Lib.hid ((dw_stop (M.nameB) s j hlt hp).symm.trans HJ.out)
                  have HV := Lib.hid (show u = [s[k1]] ++ (s.data.toList.drop (k1 + 1)).takeWhile M.nameB by rw [← HU.out, tw_stop (M.nameB) s j hlt hp, List.append_nil])
                  clear hp
                  go_wp2_with fail
                  go_meet
                  exact ⟨⟨j, u, rfl, rfl, hsj, hj, HR.out, HV.out⟩, rfl⟩
              | false =>
                have hp : (M.nameB) s[j] = false := by simp [name_int2, h61, h47]
                have HR := Lib.hid ((dw_stop (M.nameB) s j hlt hp).symm.trans HJ.out)
                have HV := Lib.hid (show u = [s[k1]] ++ (s.data.toList.drop (k1 + 1)).takeWhile M.nameB by rw [← HU.out, tw_stop (M.nameB) s j hlt hp, List.append_nil])
                clear hp
                go_wp2_with fail
                go_meet
                exact ⟨⟨j, u, rfl, rfl, hsj, hj, HR.out, HV.out⟩, rfl⟩
            | false =>
              have hp : (M.nameB) s[j] = false := by simp [name_int2, h61]
              have HR := Lib.hid ((dw_stop (M.nameB) s j hlt hp).symm.trans HJ.out)
              have HV := Lib.hid (show u = [s[k1]] ++ (s.data.toList.drop (k1 + 1)).takeWhile M.nameB by rw [← HU.out, tw_stop (M.nameB) s j hlt hp, List.append_nil])
              clear hp
              go_wp2_with fail
              go_meet
              exact ⟨⟨j, u, rfl, rfl, hsj, hj, HR.out, HV.out⟩, rfl⟩
          · obtain rfl : j = s.size := by omega
            have HR := Lib.hid (show s.data.toList.drop s.size = (s.data.toList.drop (k1 + 1)).dropWhile M.nameB by rw [← HJ.out, drop_end]; rfl)
            have HV := Lib.hid (show u = [s[k1]] ++ (s.data.toList.drop (k1 + 1)).takeWhile M.nameB by rw [← HU.out, drop_end]; simp)
            go_wp2_with fail
            go_meet
            exact ⟨⟨s.size, u, rfl, rfl, hsj, hj, HR.out, HV.out⟩, rfl⟩
      case rest =>
      obtain ⟨⟨k2, nm, rfl, rfl, hk12, hk2, hl2, hnm⟩, rfl⟩ := hcut
      have hnl : nm.length ≤ s.size := by rw [hnm]; have h9 := (List.takeWhile_prefix M.nameB (l := s.data.toList.drop (k1 + 1))).length_le; rw [List.length_drop, ← Lib.size_eq] at h9; rw [List.length_append, List.length_singleton]; omega
      rw [← hnm, ← hl2] at HX
      clear hnm hl2 HN1
      go_upto_block 4 with fail
      go_cut [1] from 85 to 96 (fun v wx => (∃ j : Nat, v = .int .i64 (j : Int) ∧ k2 ≤ j ∧ j ≤ s.size ∧ s.data.toList.drop j = (s.data.toList.drop k2).dropWhile M.white) ∧ W = wx)
      case first =>
        go_wp2_with fail
        go_loop [1] (fun v => ∃ j : Nat, v = .int .i64 (j : Int) ∧ k2 ≤ j ∧ j ≤ s.size ∧ Hid ((s.data.toList.drop j).dropWhile M.white = (s.data.toList.drop k2).dropWhile M.white)) (fun v => s.size - (intOf v).toNat)
        case atStart => exact ⟨k2, by first | rfl | go_num, Nat.le_refl _, by omega, Lib.hid rfl⟩
        case round =>
          obtain ⟨j, rfl, hsj, hj, HJ⟩ := hrel
          by_cases hlt : j < s.size
          ·
            cases hw : M.white s[j] with
            | true =>
              have hp : (M.white) s[j] = true := by simp [hw]
              have HR := Lib.hid ((dw_go (M.white) s j hlt hp).trans HJ.out)
              have HW := Lib.hid hw
              clear hp hw
              go_wp2_with (go_at_call 30; refine (isWhite_any _ _).mono ?_; rintro e w' ⟨rfl, rfl⟩; rw [HW.out])
              go_round
              case rel => exact ⟨j + 1, by go_num, by omega, by omega, HR⟩
              case measure => simp [intOf]; omega
            | false =>
              have hp : (M.white) s[j] = false := by simp [hw]
              have HR := Lib.hid ((dw_stop (M.white) s j hlt hp).symm.trans HJ.out)
              have HW := Lib.hid hw
              clear hp hw
              go_wp2_with (go_at_call 30; refine (isWhite_any _ _).mono ?_; rintro e w' ⟨rfl, rfl⟩; rw [HW.out])
              go_meet
              exact ⟨⟨j, rfl, hsj, hj, HR.out⟩, rfl⟩
          · obtain rfl : j = s.size := by omega
            have HR := Lib.hid (show s.data.toList.drop s.size = (s.data.toList.drop k2).dropWhile M.white by rw [← HJ.out, drop_end]; rfl)
            go_wp2_with fail
            go_meet
            exact ⟨⟨s.size, rfl, hsj, hj, HR.out⟩, rfl⟩
      case rest =>
      obtain ⟨⟨k3, rfl, hk23, hk3, hl3⟩, rfl⟩ := hcut
      rw [← hl3] at HX
      clear hl3
      by_cases hlt3 : k3 < s.size
      ·
        have hne3 : ((k3 : Int) == (s.size : Int)) = false := by simp; omega
        have hdc := drop_cons s k3 hlt3
        have h61i : (s[k3] != 61) = ((s[k3].toNat : Int) != 61) := not_int 61 s[k3]
        cases h61 : ((s[k3].toNat : Int) != 61) with
        | true =>
          rw [h61] at h61i
          have HY := Lib.hid (show M.nextA (s.data.toList.drop k) = (some (M.fold nm, []), s.data.toList.drop k3) by rw [HX.out, hdc, M.afterA, if_neg (by simpa using h61i)])
          clear h61i hdc
          have cy0 := hy.cell 0 _ rfl
          have cy1 := hy.cell 1 _ rfl
          have fy0 := hy.frozen 0
          have fy1 := hy.frozen 1
          go_wp2_with fail
          refine (foldOf_any ⟨nm.toArray⟩ _ (by rw [size_str]; omega)).mono ?_
          rintro e W2 ⟨rfl, hbb⟩
          have hy := hy.bel hbb
          have hb := hb.trans hbb
          clear cy0 cy1 fy0 fy1 hbb
          have cy0 := hy.cell 0 _ rfl
          have cy1 := hy.cell 1 _ rfl
          have fy0 := hy.frozen 0
          have fy1 := hy.frozen 1
          go_wp2_with fail
          have hz := (hy.set 0 (.string ⟨(M.fold nm).toArray⟩)).set 1 (.string ⟨#[]⟩)
          have d0 := hz.cell 0 _ rfl
          have d1 := hz.cell 1 _ rfl
          refine bodyPost_ret (v := .tuple #[.agg #[.string ⟨(M.fold nm).toArray⟩, .string ⟨#[]⟩], .int .i64 ((k3 : Nat) : Int), .bool true]) (by simp [results, Tryd.results13, go_sem, d0, d1]) rfl ⟨?_, ?_⟩
          · exact fin_attr s.size o r _ _ (HY.out.symm.trans HN.out) _ _ rfl _ (at_of s k3 hk3 _ rfl) _ rfl
          · exact (hb.setCell (p := ⟨w.heap.size, 0, none⟩) (Nat.le_refl _) _).setCell (p := ⟨w.heap.size, 1, none⟩) (Nat.le_refl _) _
        | false =>
          rw [h61] at h61i
          have HY := Lib.hid (show M.nextA (s.data.toList.drop k) = ((M.valueA (s.data.toList.drop (k3 + 1))).1.map (fun v => (M.fold nm, M.fold v)), (M.valueA (s.data.toList.drop (k3 + 1))).2) by rw [HX.out, hdc, M.afterA, if_pos (by simpa using h61i)])
          clear h61i hdc HX
          go_upto_block 6 with fail
          go_cut [1] from 113 to 124 (fun v wx => (∃ j : Nat, v = .int .i64 (j : Int) ∧ (k3 + 1) ≤ j ∧ j ≤ s.size ∧ s.data.toList.drop j = (s.data.toList.drop (k3 + 1)).dropWhile M.white) ∧ W = wx)
          case first =>
            go_wp2_with fail
            go_loop [1] (fun v => ∃ j : Nat, v = .int .i64 (j : Int) ∧ (k3 + 1) ≤ j ∧ j ≤ s.size ∧ Hid ((s.data.toList.drop j).dropWhile M.white = (s.data.toList.drop (k3 + 1)).dropWhile M.white)) (fun v => s.size - (intOf v).toNat)
            case atStart => exact ⟨(k3 + 1), by first | rfl | go_num, Nat.le_refl _, by omega, Lib.hid rfl⟩
            case round =>
              obtain ⟨j, rfl, hsj, hj, HJ⟩ := hrel
              by_cases hlt : j < s.size
              ·
                cases hw : M.white s[j] with
                | true =>
                  have hp : (M.white) s[j] = true := by simp [hw]
                  have HR := Lib.hid ((dw_go (M.white) s j hlt hp).trans HJ.out)
                  have HW := Lib.hid hw
                  clear hp hw
                  go_wp2_with (go_at_call 30; refine (isWhite_any _ _).mono ?_; rintro e w' ⟨rfl, rfl⟩; rw [HW.out])
                  go_round
                  case rel => exact ⟨j + 1, by go_num, by omega, by omega, HR⟩
                  case measure => simp [intOf]; omega
                | false =>
                  have hp : (M.white) s[j] = false := by simp [hw]
                  have HR := Lib.hid ((dw_stop (M.white) s j hlt hp).symm.trans HJ.out)
                  have HW := Lib.hid hw
                  clear hp hw
                  go_wp2_with (go_at_call 30; refine (isWhite_any _ _).mono ?_; rintro e w' ⟨rfl, rfl⟩; rw [HW.out])
                  go_meet
                  exact ⟨⟨j, rfl, hsj, hj, HR.out⟩, rfl⟩
              · obtain rfl : j = s.size := by omega
                have HR := Lib.hid (show s.data.toList.drop s.size = (s.data.toList.drop (k3 + 1)).dropWhile M.white by rw [← HJ.out, drop_end]; rfl)
                go_wp2_with fail
                go_meet
                exact ⟨⟨s.size, rfl, hsj, hj, HR.out⟩, rfl⟩
          case rest =>
          obtain ⟨⟨k4, rfl, hk34, hk4, hl4⟩, rfl⟩ := hcut
          by_cases hlt4 : k4 < s.size
          ·
            cases h34 : ((s[k4].toNat : Int) == 34) with
            | true =>
              have hqq := quote_34 _ h34
              have HQ := Lib.hid (show (s.data.toList.drop (k3 + 1)).dropWhile M.white = s[k4] :: s.data.toList.drop (k4 + 1) by rw [← hl4, drop_cons s k4 hlt4])
              have HV := Lib.hid (show M.valueA (s.data.toList.drop (k3 + 1)) = M.quotedA s[k4] (s.data.toList.drop (k4 + 1)) by rw [M.valueA, HQ.out]; simp only; rw [if_pos hqq])
              clear hl4 HQ hqq
              go_upto_block 8 with fail
              obtain ⟨q, hq⟩ : ∃ q, s[k4] = q := ⟨_, rfl⟩
              have HQQ := Lib.hid hq
              rw [hq] at HV
              try rw [hq]
              clear hq
              go_cut [1, 8] from 146 to 165 (fun v t wx => (∃ (j : Nat) (u : List UInt8), v = .int .i64 (j : Int) ∧ t = .string ⟨u.toArray⟩ ∧ (k4 + 1) ≤ j ∧ j ≤ s.size ∧ s.data.toList.drop j = (s.data.toList.drop (k4 + 1)).dropWhile (fun c => c != q) ∧ u = ([] : List UInt8) ++ (s.data.toList.drop (k4 + 1)).takeWhile (fun c => c != q)) ∧ W = wx)
              case first =>
                go_wp2_with fail
                go_loop [1, 8] (fun v t => ∃ (j : Nat) (u : List UInt8), v = .int .i64 (j : Int) ∧ t = .string ⟨u.toArray⟩ ∧ (k4 + 1) ≤ j ∧ j ≤ s.size ∧ u.length ≤ j ∧ Hid ((s.data.toList.drop j).dropWhile (fun c => c != q) = (s.data.toList.drop (k4 + 1)).dropWhile (fun c => c != q)) ∧ Hid (u ++ (s.data.toList.drop j).takeWhile (fun c => c != q) = ([] : List UInt8) ++ (s.data.toList.drop (k4 + 1)).takeWhile (fun c => c != q))) (fun v _ => s.size - (intOf v).toNat)
                case atStart => exact ⟨(k4 + 1), ([] : List UInt8), by first | rfl | go_num, by first | rfl | assumption, Nat.le_refl _, by omega, by simp; try omega, Lib.hid rfl, Lib.hid rfl⟩
                case round =>
                  obtain ⟨j, u, rfl, rfl, hsj, hj, hul, HJ, HU⟩ := hrel
                  by_cases hlt : j < s.size
                  ·
                    cases hq : ((s[j].toNat : Int) != (q.toNat : Int)) with
                    | true =>
                      have hp : ((fun c => c != q)) s[j] = true := by simp [not_int q, hq]
                      have HR := Lib.hid ((dw_go ((fun c => c != q)) s j hlt hp).trans HJ.out)
                      have HV := Lib.hid (show (u ++ [s[j]]) ++ (s.data.toList.drop (j + 1)).takeWhile (fun c => c != q) = ([] : List UInt8) ++ (s.data.toList.drop (k4 + 1)).takeWhile (fun c => c != q) by rw [← HU.out, tw_go ((fun c => c != q)) s j hlt hp, List.append_assoc]; rfl)
                      have HS := Lib.hid (one_str s u j hlt)
                      clear hp
                      go_wp2_with fail
                      go_round
                      case rel => exact ⟨j + 1, u ++ [s[j]], by go_num, by rw [← HS.out], by omega, by omega, by rw [List.length_append, List.length_singleton]; omega, HR, HV⟩
                      case measure => simp [intOf]; omega
                    | false =>
                      have hp : ((fun c => c != q)) s[j] = false := by simp [not_int q, hq]
                      have HR := Lib.hid ((dw_stop ((fun c => c != q)) s j hlt hp).symm.trans HJ.out)
                      have HV := Lib.hid (show u = ([] : List UInt8) ++ (s.data.toList.drop (k4 + 1)).takeWhile (fun c => c != q) by rw [← HU.out, tw_stop ((fun c => c != q)) s j hlt hp, List.append_nil])
                      clear hp
                      go_wp2_with fail
                      go_meet
                      exact ⟨⟨j, u, rfl, rfl, hsj, hj, HR.out, HV.out⟩, rfl⟩
                  · obtain rfl : j = s.size := by omega
                    have HR := Lib.hid (show s.data.toList.drop s.size = (s.data.toList.drop (k4 + 1)).dropWhile (fun c => c != q) by rw [← HJ.out, drop_end]; rfl)
                    have HV := Lib.hid (show u = ([] : List UInt8) ++ (s.data.toList.drop (k4 + 1)).takeWhile (fun c => c != q) by rw [← HU.out, drop_end]; simp)
                    go_wp2_with fail
                    go_meet
                    exact ⟨⟨s.size, u, rfl, rfl, hsj, hj, HR.out, HV.out⟩, rfl⟩
              case rest =>
              obtain ⟨⟨k5, vv, rfl, rfl, hk45, hk5, hl5, hvv⟩, rfl⟩ := hcut
              by_cases hlt5 : k5 < s.size
              ·
                have hne5 : ((k5 : Int) == (s.size : Int)) = false := by simp; omega
                have hq5 : (s.data.toList.drop (k4 + 1)).dropWhile (fun c => c != q) = s[k5] :: s.data.toList.drop (k5 + 1) := by rw [← hl5, drop_cons s k5 hlt5]
                have HZ := Lib.hid (show M.nextA (s.data.toList.drop k) = (some (M.fold nm, M.fold vv), s.data.toList.drop (k5 + 1)) by rw [HY.out, HV.out, M.quotedA, hq5]; simp only; rw [hvv]; rfl)
                clear HY HV hl5 hq5
                have hvl : (vv).length ≤ s.size := by rw [hvv]; have h9 := (List.takeWhile_prefix (fun c => c != q) (l := s.data.toList.drop (k4 + 1))).length_le; rw [List.length_drop, ← Lib.size_eq] at h9; rw [List.nil_append]; omega
                clear hvv
                have cy0 := hy.cell 0 _ rfl
                have cy1 := hy.cell 1 _ rfl
                have fy0 := hy.frozen 0
                have fy1 := hy.frozen 1
                go_wp2_with fail
                refine (foldOf_any ⟨nm.toArray⟩ _ (by rw [size_str]; omega)).mono ?_
                rintro e W2 ⟨rfl, hbb⟩
                have hy := hy.bel hbb
                have hb := hb.trans hbb
                clear cy0 cy1 fy0 fy1 hbb
                go_wp2_with fail
                refine (foldOf_any ⟨(vv).toArray⟩ _ (by rw [size_str]; omega)).mono ?_
                rintro e W3 ⟨rfl, hbb⟩
                have hy := hy.bel hbb
                have hb := hb.trans hbb
                have cy0 := hy.cell 0 _ rfl
                have cy1 := hy.cell 1 _ rfl
                have fy0 := hy.frozen 0
                have fy1 := hy.frozen 1
                go_wp2_with fail
                have hz := (hy.set 0 (.string ⟨(M.fold nm).toArray⟩)).set 1 (.string ⟨(M.fold vv).toArray⟩)
                have d0 := hz.cell 0 _ rfl
                have d1 := hz.cell 1 _ rfl
                refine bodyPost_ret (v := .tuple #[.agg #[.string ⟨(M.fold nm).toArray⟩, .string ⟨(M.fold vv).toArray⟩], .int .i64 ((k5 + 1 : Nat) : Int), .bool true]) (by simp [results, Tryd.results13, go_sem, d0, d1]) rfl ⟨?_, ?_⟩
                · exact fin_attr s.size o r _ _ (HZ.out.symm.trans HN.out) _ _ rfl _ (at_of s (k5 + 1) (by omega) _ rfl) _ rfl
                · exact (hb.setCell (p := ⟨w.heap.size, 0, none⟩) (Nat.le_refl _) _).setCell (p := ⟨w.heap.size, 1, none⟩) (Nat.le_refl _) _
              · obtain rfl : k5 = s.size := by omega
                have HZ := Lib.hid (show M.nextA (s.data.toList.drop k) = (none, []) by rw [HY.out, HV.out, M.quotedA, ← hl5, drop_end]; rfl)
                clear HY HV hl5 hvv
                have cy0 := hy.cell 0 _ rfl
                have cy1 := hy.cell 1 _ rfl
                have fy0 := hy.frozen 0
                have fy1 := hy.frozen 1
                go_wp2_with fail
                have hz := (hy.set 0 (.string ⟨#[]⟩)).set 1 (.string ⟨#[]⟩)
                have d0 := hz.cell 0 _ rfl
                have d1 := hz.cell 1 _ rfl
                refine bodyPost_ret (v := .tuple #[.agg #[.string ⟨#[]⟩, .string ⟨#[]⟩], .int .i64 ((s.size : Nat) : Int), .bool false]) (by simp [results, Tryd.results13, go_sem, d0, d1]) rfl ⟨?_, ?_⟩
                · exact fin_attr s.size o r _ _ (HZ.out.symm.trans HN.out) _ _ rfl _ (by simp) _ rfl
                · exact (hb.setCell (p := ⟨w.heap.size, 0, none⟩) (Nat.le_refl _) _).setCell (p := ⟨w.heap.size, 1, none⟩) (Nat.le_refl _) _
            | false =>
              cases h39 : ((s[k4].toNat : Int) == 39) with
              | true =>
                have hqq := quote_39 _ h39
                have HQ := Lib.hid (show (s.data.toList.drop (k3 + 1)).dropWhile M.white = s[k4] :: s.data.toList.drop (k4 + 1) by rw [← hl4, drop_cons s k4 hlt4])
                have HV := Lib.hid (show M.valueA (s.data.toList.drop (k3 + 1)) = M.quotedA s[k4] (s.data.toList.drop (k4 + 1)) by rw [M.valueA, HQ.out]; simp only; rw [if_pos hqq])
                clear hl4 HQ hqq
                go_upto_block 8 with fail
                obtain ⟨q, hq⟩ : ∃ q, s[k4] = q := ⟨_, rfl⟩
                have HQQ := Lib.hid hq
                rw [hq] at HV
                try rw [hq]
                clear hq
                go_cut [1, 8] from 146 to 165 (fun v t wx => (∃ (j : Nat) (u : List UInt8), v = .int .i64 (j : Int) ∧ t = .string ⟨u.toArray⟩ ∧ (k4 + 1) ≤ j ∧ j ≤ s.size ∧ s.data.toList.drop j = (s.data.toList.drop (k4 + 1)).dropWhile (fun c => c != q) ∧ u = ([] : List UInt8) ++ (s.data.toList.drop (k4 + 1)).takeWhile (fun c => c != q)) ∧ W = wx)
                case first =>
                  go_wp2_with fail
                  go_loop [1, 8] (fun v t => ∃ (j : Nat) (u : List UInt8), v = .int .i64 (j : Int) ∧ t = .string ⟨u.toArray⟩ ∧ (k4 + 1) ≤ j ∧ j ≤ s.size ∧ u.length ≤ j ∧ Hid ((s.data.toList.drop j).dropWhile (fun c => c != q) = (s.data.toList.drop (k4 + 1)).dropWhile (fun c => c != q)) ∧ Hid (u ++ (s.data.toList.drop j).takeWhile (fun c => c != q) = ([] : List UInt8) ++ (s.data.toList.drop (k4 + 1)).takeWhile (fun c => c != q))) (fun v _ => s.size - (intOf v).toNat)
                  case atStart => exact ⟨(k4 + 1), ([] : List UInt8), by first | rfl | go_num, by first | rfl | assumption, Nat.le_refl _, by omega, by simp; try omega, Lib.hid rfl, Lib.hid rfl⟩
                  case round =>
                    obtain ⟨j, u, rfl, rfl, hsj, hj, hul, HJ, HU⟩ := hrel
                    by_cases hlt : j < s.size
                    ·
                      cases hq : ((s[j].toNat : Int) != (q.toNat : Int)) with
                      | true =>
                        have hp : ((fun c => c != q)) s[j] = true := by simp [not_int q, hq]
                        have HR := Lib.hid ((dw_go ((fun c => c != q)) s j hlt hp).trans HJ.out)
                        have HV := Lib.hid (show (u ++ [s[j]]) ++ (s.data.toList.drop (j + 1)).takeWhile (fun c => c != q) = ([] : List UInt8) ++ (s.data.toList.drop (k4 + 1)).takeWhile (fun c => c != q) by rw [← HU.out, tw_go ((fun c => c != q)) s j hlt hp, List.append_assoc]; rfl)
                        have HS := Lib.hid (one_str s u j hlt)
                        clear hp
                        go_wp2_with fail
                        go_round
                        case rel => exact ⟨j + 1, u ++ [s[j]], by go_num, by rw [← HS.out], by omega, by omega, by rw [List.length_append, List.length_singleton]; omega, HR, HV⟩
                        case measure => simp [intOf]; omega
                      | false =>
                        have hp : ((fun c => c != q)) s[j] = false := by simp [not_int q, hq]
                        have HR := Lib.hid ((dw_stop ((fun c => c != q)) s j hlt hp).symm.trans HJ.out)
                        have HV := Lib.hid (show u = ([] : List UInt8) ++ (s.data.toList.drop (k4 + 1)).takeWhile (fun c => c != q) by rw [← HU.out, tw_stop ((fun c => c != q)) s j hlt hp, List.append_nil])
                        clear hp
                        go_wp2_with fail
                        go_meet
                        exact ⟨⟨j, u, rfl, rfl, hsj, hj, HR.out, HV.out⟩, rfl⟩
                    · obtain rfl : j = s.size := by omega
                      have HR := Lib.hid (show s.data.toList.drop s.size = (s.data.toList.drop (k4 + 1)).dropWhile (fun c => c != q) by rw [← HJ.out, drop_end]; rfl)
                      have HV := Lib.hid (show u = ([] : List UInt8) ++ (s.data.toList.drop (k4 + 1)).takeWhile (fun c => c != q) by rw [← HU.out, drop_end]; simp)
                      go_wp2_with fail
                      go_meet
                      exact ⟨⟨s.size, u, rfl, rfl, hsj, hj, HR.out, HV.out⟩, rfl⟩
                case rest =>
                obtain ⟨⟨k5, vv, rfl, rfl, hk45, hk5, hl5, hvv⟩, rfl⟩ := hcut
                by_cases hlt5 : k5 < s.size
                ·
                  have hne5 : ((k5 : Int) == (s.size : Int)) = false := by simp; omega
                  have hq5 : (s.data.toList.drop (k4 + 1)).dropWhile (fun c => c != q) = s[k5] :: s.data.toList.drop (k5 + 1) := by rw [← hl5, drop_cons s k5 hlt5]
                  have HZ := Lib.hid (show M.nextA (s.data.toList.drop k) = (some (M.fold nm, M.fold vv), s.data.toList.drop (k5 + 1)) by rw [HY.out, HV.out, M.quotedA, hq5]; simp only; rw [hvv]; rfl)
                  clear HY HV hl5 hq5
                  have hvl : (vv).length ≤ s.size := by rw [hvv]; have h9 := (List.takeWhile_prefix (fun c => c != q) (l := s.data.toList.drop (k4 + 1))).length_le; rw [List.length_drop, ← Lib.size_eq] at h9; rw [List.nil_append]; omega
                  clear hvv
                  have cy0 := hy.cell 0 _ rfl
                  have cy1 := hy.cell 1 _ rfl
                  have fy0 := hy.frozen 0
                  have fy1 := hy.frozen 1
                  go_wp2_with fail
                  refine (foldOf_any ⟨nm.toArray⟩ _ (by rw [size_str]; omega)).mono ?_
                  rintro e W2 ⟨rfl, hbb⟩
                  have hy := hy.bel hbb
                  have hb := hb.trans hbb
                  clear cy0 cy1 fy0 fy1 hbb
                  go_wp2_with fail
                  refine (foldOf_any ⟨(vv).toArray⟩ _ (by rw [size_str]; omega)).mono ?_
                  rintro e W3 ⟨rfl, hbb⟩
                  have hy := hy.bel hbb
                  have hb := hb.trans hbb
                  have cy0 := hy.cell 0 _ rfl
                  have cy1 := hy.cell 1 _ rfl
                  have fy0 := hy.frozen 0
                  have fy1 := hy.frozen 1
                  go_wp2_with fail
                  have hz := (hy.set 0 (.string ⟨(M.fold nm).toArray⟩)).set 1 (.string ⟨(M.fold vv).toArray⟩)
                  have d0 := hz.cell 0 _ rfl
                  have d1 := hz.cell 1 _ rfl
                  refine bodyPost_ret (v := .tuple #[.agg #[.string ⟨(M.fold nm).toArray⟩, .string ⟨(M.fold vv).toArray⟩], .int .i64 ((k5 + 1 : Nat) : Int), .bool true]) (by simp [results, Tryd.results13, go_sem, d0, d1]) rfl ⟨?_, ?_⟩
                  · exact fin_attr s.size o r _ _ (HZ.out.symm.trans HN.out) _ _ rfl _ (at_of s (k5 + 1) (by omega) _ rfl) _ rfl
                  · exact (hb.setCell (p := ⟨w.heap.size, 0, none⟩) (Nat.le_refl _) _).setCell (p := ⟨w.heap.size, 1, none⟩) (Nat.le_refl _) _
                · obtain rfl : k5 = s.size := by omega
                  have HZ := Lib.hid (show M.nextA (s.data.toList.drop k) = (none, []) by rw [HY.out, HV.out, M.quotedA, ← hl5, drop_end]; rfl)
                  clear HY HV hl5 hvv
                  have cy0 := hy.cell 0 _ rfl
                  have cy1 := hy.cell 1 _ rfl
                  have fy0 := hy.frozen 0
                  have fy1 := hy.frozen 1
                  go_wp2_with fail
                  have hz := (hy.set 0 (.string ⟨#[]⟩)).set 1 (.string ⟨#[]⟩)
                  have d0 := hz.cell 0 _ rfl
                  have d1 := hz.cell 1 _ rfl
                  refine bodyPost_ret (v := .tuple #[.agg #[.string ⟨#[]⟩, .string ⟨#[]⟩], .int .i64 ((s.size : Nat) : Int), .bool false]) (by simp [results, Tryd.results13, go_sem, d0, d1]) rfl ⟨?_, ?_⟩
                  · exact fin_attr s.size o r _ _ (HZ.out.symm.trans HN.out) _ _ rfl _ (by simp) _ rfl
                  · exact (hb.setCell (p := ⟨w.heap.size, 0, none⟩) (Nat.le_refl _) _).setCell (p := ⟨w.heap.size, 1, none⟩) (Nat.le_refl _) _
              | false =>
                have hqq := quote_no _ h34 h39
                have HV := Lib.hid (show M.valueA (s.data.toList.drop (k3 + 1)) = (some ((s.data.toList.drop k4).takeWhile M.valB), (s.data.toList.drop k4).dropWhile M.valB) by rw [M.valueA, ← hl4, drop_cons s k4 hlt4]; simp only; rw [if_neg hqq])
                clear hqq hl4
                go_upto_block 10 with fail
                go_cut [1, 8] from 174 to 199 (fun v t wx => (∃ (j : Nat) (u : List UInt8), v = .int .i64 (j : Int) ∧ t = .string ⟨u.toArray⟩ ∧ k4 ≤ j ∧ j ≤ s.size ∧ s.data.toList.drop j = (s.data.toList.drop k4).dropWhile M.valB ∧ u = ([] : List UInt8) ++ (s.data.toList.drop k4).takeWhile M.valB) ∧ W = wx)
                case first =>
                  go_wp2_with fail
                  go_loop [1, 8] (fun v t => ∃ (j : Nat) (u : List UInt8), v = .int .i64 (j : Int) ∧ t = .string ⟨u.toArray⟩ ∧ k4 ≤ j ∧ j ≤ s.size ∧ u.length ≤ j ∧ Hid ((s.data.toList.drop j).dropWhile M.valB = (s.data.toList.drop k4).dropWhile M.valB) ∧ Hid (u ++ (s.data.toList.drop j).takeWhile M.valB = ([] : List UInt8) ++ (s.data.toList.drop k4).takeWhile M.valB)) (fun v _ => s.size - (intOf v).toNat)
                  case atStart => exact ⟨k4, ([] : List UInt8), by first | rfl | go_num, by first | rfl | assumption, Nat.le_refl _, by omega, by simp; try omega, Lib.hid rfl, Lib.hid rfl⟩
                  case round =>
                    obtain ⟨j, u, rfl, rfl, hsj, hj, hul, HJ, HU⟩ := hrel
                    by_cases hlt : j < s.size
                    ·
                      cases h62 : ((s[j].toNat : Int) != 62) with
                      | true =>
                        cases hw : M.white s[j] with
                        | true =>
                          have hp : (M.valB) s[j] = false := by simp [val_int, h62, hw]
                          have HR := Lib.hid ((dw_stop (M.valB) s j hlt hp).symm.trans HJ.out)
                          have HV := Lib.hid (show u = ([] : List UInt8) ++ (s.data.toList.drop k4).takeWhile M.valB by rw [← HU.out, tw_stop (M.valB) s j hlt hp, List.append_nil])
                          have HW := Lib.hid hw
                          clear hp hw
                          go_wp2_with (go_at_call 30; refine (isWhite_any _ _).mono ?_; rintro e w' ⟨rfl, rfl⟩; rw [HW.out])
                          go_meet
                          exact ⟨⟨j, u, rfl, rfl, hsj, hj, HR.out, HV.out⟩, rfl⟩
                        | false =>
                          have hp : (M.valB) s[j] = true := by simp [val_int, h62, hw]
                          have HR := Lib.hid ((dw_go (M.valB) s j hlt hp).trans HJ.out)
                          have HV := Lib.hid (show (u ++ [s[j]]) ++ (s.data.toList.drop (j + 1)).takeWhile M.valB = ([] : List UInt8) ++ (s.data.toList.drop k4).takeWhile M.valB by rw [← HU.out, tw_go (M.valB) s j hlt hp, List.append_assoc]; rfl)
                          have HS := Lib.hid (one_str s u j hlt)
                          have HW := Lib.hid hw
                          clear hp hw
                          go_wp2_with (go_at_call 30; refine (isWhite_any _ _).mono ?_; rintro e w' ⟨rfl, rfl⟩; rw [HW.out])
                          go_round
                          case rel => exact ⟨j + 1, u ++ [s[j]], by go_num, by rw [← HS.out], by omega, by omega, by rw [List.length_append, List.length_singleton]; omega, HR, HV⟩
                          case measure => simp [intOf]; omega
                      | false =>
                        have hp : (M.valB) s[j] = false := by simp [val_int, h62]
                        have HR := Lib.hid ((dw_stop (M.valB) s j hlt hp).symm.trans HJ.out)
                        have HV := Lib.hid (show u = ([] : List UInt8) ++ (s.data.toList.drop k4).takeWhile M.valB by rw [← HU.out, tw_stop (M.valB) s j hlt hp, List.append_nil])
                        clear hp
                        go_wp2_with fail
                        go_meet
                        exact ⟨⟨j, u, rfl, rfl, hsj, hj, HR.out, HV.out⟩, rfl⟩
                    · obtain rfl : j = s.size := by omega
                      have HR := Lib.hid (show s.data.toList.drop s.size = (s.data.toList.drop k4).dropWhile M.valB by rw [← HJ.out, drop_end]; rfl)
                      have HV := Lib.hid (show u = ([] : List UInt8) ++ (s.data.toList.drop k4).takeWhile M.valB by rw [← HU.out, drop_end]; simp)
                      go_wp2_with fail
                      go_meet
                      exact ⟨⟨s.size, u, rfl, rfl, hsj, hj, HR.out, HV.out⟩, rfl⟩
                case rest =>
                obtain ⟨⟨k6, vv, rfl, rfl, hk46, hk6, hl6, hvv⟩, rfl⟩ := hcut
                have HZ := Lib.hid (show M.nextA (s.data.toList.drop k) = (some (M.fold nm, M.fold vv), s.data.toList.drop k6) by rw [HY.out, HV.out, hl6, hvv]; rfl)
                clear HY HV hl6
                have hvl : (vv).length ≤ s.size := by rw [hvv]; have h9 := (List.takeWhile_prefix M.valB (l := s.data.toList.drop k4)).length_le; rw [List.length_drop, ← Lib.size_eq] at h9; rw [List.nil_append]; omega
                clear hvv
                have cy0 := hy.cell 0 _ rfl
                have cy1 := hy.cell 1 _ rfl
                have fy0 := hy.frozen 0
                have fy1 := hy.frozen 1
                go_wp2_with fail
                refine (foldOf_any ⟨nm.toArray⟩ _ (by rw [size_str]; omega)).mono ?_
                rintro e W2 ⟨rfl, hbb⟩
                have hy := hy.bel hbb
                have hb := hb.trans hbb
                clear cy0 cy1 fy0 fy1 hbb
                go_wp2_with fail
                refine (foldOf_any ⟨(vv).toArray⟩ _ (by rw [size_str]; omega)).mono ?_
                rintro e W3 ⟨rfl, hbb⟩
                have hy := hy.bel hbb
                have hb := hb.trans hbb
                have cy0 := hy.cell 0 _ rfl
                have cy1 := hy.cell 1 _ rfl
                have fy0 := hy.frozen 0
                have fy1 := hy.frozen 1
                go_wp2_with fail
                have hz := (hy.set 0 (.string ⟨(M.fold nm).toArray⟩)).set 1 (.string ⟨(M.fold vv).toArray⟩)
                have d0 := hz.cell 0 _ rfl
                have d1 := hz.cell 1 _ rfl
                refine bodyPost_ret (v := .tuple #[.agg #[.string ⟨(M.fold nm).toArray⟩, .string ⟨(M.fold vv).toArray⟩], .int .i64 ((k6 : Nat) : Int), .bool true]) (by simp [results, Tryd.results13, go_sem, d0, d1]) rfl ⟨?_, ?_⟩
                · exact fin_attr s.size o r _ _ (HZ.out.symm.trans HN.out) _ _ rfl _ (at_of s k6 hk6 _ rfl) _ rfl
                · exact (hb.setCell (p := ⟨w.heap.size, 0, none⟩) (Nat.le_refl _) _).setCell (p := ⟨w.heap.size, 1, none⟩) (Nat.le_refl _) _
          · obtain rfl : k4 = s.size := by omega
            have HV := Lib.hid (show M.valueA (s.data.toList.drop (k3 + 1)) = (some ((s.data.toList.drop s.size).takeWhile M.valB), (s.data.toList.drop s.size).dropWhile M.valB) by rw [M.valueA, ← hl4, drop_end]; rfl)
            have HE := Lib.hid hl4
            clear hl4
            go_upto_block 10 with fail
            go_cut [1, 8] from 174 to 199 (fun v t wx => (∃ (j : Nat) (u : List UInt8), v = .int .i64 (j : Int) ∧ t = .string ⟨u.toArray⟩ ∧ s.size ≤ j ∧ j ≤ s.size ∧ s.data.toList.drop j = (s.data.toList.drop s.size).dropWhile M.valB ∧ u = ([] : List UInt8) ++ (s.data.toList.drop s.size).takeWhile M.valB) ∧ W = wx)
            case first =>
              go_wp2_with fail
              go_loop [1, 8] (fun v t => ∃ (j : Nat) (u : List UInt8), v = .int .i64 (j : Int) ∧ t = .string ⟨u.toArray⟩ ∧ s.size ≤ j ∧ j ≤ s.size ∧ u.length ≤ j ∧ Hid ((s.data.toList.drop j).dropWhile M.valB = (s.data.toList.drop s.size).dropWhile M.valB) ∧ Hid (u ++ (s.data.toList.drop j).takeWhile M.valB = ([] : List UInt8) ++ (s.data.toList.drop s.size).takeWhile M.valB)) (fun v _ => s.size - (intOf v).toNat)
              case atStart => exact ⟨s.size, ([] : List UInt8), by first | rfl | go_num, by first | rfl | assumption, Nat.le_refl _, by omega, by simp; try omega, Lib.hid rfl, Lib.hid rfl⟩
              case round =>
                obtain ⟨j, u, rfl, rfl, hsj, hj, hul, HJ, HU⟩ := hrel
                by_cases hlt : j < s.size
                ·
                  exfalso
                  omega
                · obtain rfl : j = s.size := by omega
                  have HR := Lib.hid (show s.data.toList.drop s.size = (s.data.toList.drop s.size).dropWhile M.valB by rw [← HJ.out, drop_end]; rfl)
                  have HV := Lib.hid (show u = ([] : List UInt8) ++ (s.data.toList.drop s.size).takeWhile M.valB by rw [← HU.out, drop_end]; simp)
                  go_wp2_with fail
                  go_meet
                  exact ⟨⟨s.size, u, rfl, rfl, hsj, hj, HR.out, HV.out⟩, rfl⟩
            case rest =>
            obtain ⟨⟨k6, vv, rfl, rfl, hk46, hk6, hl6, hvv⟩, rfl⟩ := hcut
            have HZ := Lib.hid (show M.nextA (s.data.toList.drop k) = (some (M.fold nm, M.fold vv), s.data.toList.drop k6) by rw [HY.out, HV.out, hl6, hvv]; rfl)
            clear HY HV hl6
            have hvl : (vv).length ≤ s.size := by rw [hvv, drop_end]; exact Nat.zero_le _
            clear hvv
            have cy0 := hy.cell 0 _ rfl
            have cy1 := hy.cell 1 _ rfl
            have fy0 := hy.frozen 0
            have fy1 := hy.frozen 1
            go_wp2_with fail
            refine (foldOf_any ⟨nm.toArray⟩ _ (by rw [size_str]; omega)).mono ?_
            rintro e W2 ⟨rfl, hbb⟩
            have hy := hy.bel hbb
            have hb := hb.trans hbb
            clear cy0 cy1 fy0 fy1 hbb
            go_wp2_with fail
            refine (foldOf_any ⟨(vv).toArray⟩ _ (by rw [size_str]; omega)).mono ?_
            rintro e W3 ⟨rfl, hbb⟩
            have hy := hy.bel hbb
            have hb := hb.trans hbb
            have cy0 := hy.cell 0 _ rfl
            have cy1 := hy.cell 1 _ rfl
            have fy0 := hy.frozen 0
            have fy1 := hy.frozen 1
            go_wp2_with fail
            have hz := (hy.set 0 (.string ⟨(M.fold nm).toArray⟩)).set 1 (.string ⟨(M.fold vv).toArray⟩)
            have d0 := hz.cell 0 _ rfl
            have d1 := hz.cell 1 _ rfl
            refine bodyPost_ret (v := .tuple #[.agg #[.string ⟨(M.fold nm).toArray⟩, .string ⟨(M.fold vv).toArray⟩], .int .i64 ((k6 : Nat) : Int), .bool true]) (by simp [results, Tryd.results13, go_sem, d0, d1]) rfl ⟨?_, ?_⟩
            · exact fin_attr s.size o r _ _ (HZ.out.symm.trans HN.out) _ _ rfl _ (at_of s k6 hk6 _ rfl) _ rfl
            · exact (hb.setCell (p := ⟨w.heap.size, 0, none⟩) (Nat.le_refl _) _).setCell (p := ⟨w.heap.size, 1, none⟩) (Nat.le_refl _) _
      · obtain rfl : k3 = s.size := by omega
        have HY := Lib.hid (show M.nextA (s.data.toList.drop k) = (some (M.fold nm, []), s.data.toList.drop s.size) by rw [HX.out, drop_end]; rfl)
        have cy0 := hy.cell 0 _ rfl
        have cy1 := hy.cell 1 _ rfl
        have fy0 := hy.frozen 0
        have fy1 := hy.frozen 1
        go_wp2_with fail
        refine (foldOf_any ⟨nm.toArray⟩ _ (by rw [size_str]; omega)).mono ?_
        rintro e W2 ⟨rfl, hbb⟩
        have hy := hy.bel hbb
        have hb := hb.trans hbb
        clear cy0 cy1 fy0 fy1 hbb
        have cy0 := hy.cell 0 _ rfl
        have cy1 := hy.cell 1 _ rfl
        have fy0 := hy.frozen 0
        have fy1 := hy.frozen 1
        go_wp2_with fail
        have hz := (hy.set 0 (.string ⟨(M.fold nm).toArray⟩)).set 1 (.string ⟨#[]⟩)
        have d0 := hz.cell 0 _ rfl
        have d1 := hz.cell 1 _ rfl
        refine bodyPost_ret (v := .tuple #[.agg #[.string ⟨(M.fold nm).toArray⟩, .string ⟨#[]⟩], .int .i64 ((s.size : Nat) : Int), .bool true]) (by simp [results, Tryd.results13, go_sem, d0, d1]) rfl ⟨?_, ?_⟩
        · exact fin_attr s.size o r _ _ (HY.out.symm.trans HN.out) _ _ rfl _ (by rw [drop_end]; simp) _ rfl
        · exact (hb.setCell (p := ⟨w.heap.size, 0, none⟩) (Nat.le_refl _) _).setCell (p := ⟨w.heap.size, 1, none⟩) (Nat.le_refl _) _
  · obtain rfl : k1 = s.size := by omega
    have HX := Lib.hid (show M.nextA (s.data.toList.drop k) = (none, []) by rw [M.nextA, ← hl1, drop_end])
    have cy0 := hy.cell 0 _ rfl
    have cy1 := hy.cell 1 _ rfl
    have fy0 := hy.frozen 0
    have fy1 := hy.frozen 1
    go_wp2_with fail
    have hz := (hy.set 0 (.string ⟨#[]⟩)).set 1 (.string ⟨#[]⟩)
    have d0 := hz.cell 0 _ rfl
    have d1 := hz.cell 1 _ rfl
    refine bodyPost_ret (v := .tuple #[.agg #[.string ⟨#[]⟩, .string ⟨#[]⟩], .int .i64 ((s.size : Nat) : Int), .bool false]) (by simp [results, Tryd.results13, go_sem, d0, d1]) rfl ⟨?_, ?_⟩
    · exact fin_attr s.size o r _ _ (HX.out.symm.trans HN.out) _ _ rfl _ (by simp) _ rfl
    · exact (hb.setCell (p := ⟨w.heap.size, 0, none⟩) (Nat.le_refl _) _).setCell (p := ⟨w.heap.size, 1, none⟩) (Nat.le_refl _) _
end Go.Proofs.YthaoohckgilahaaDoor

/-
  What a text says of itself, in plain functions and laws.
-/
import Derived.Test.YthaoohckgilahaaDoorPlainAttr
namespace Go.Proofs.YthaoohckgilahaaDoor.M
open Go

def httpEquiv : Bs := [104, 116, 116, 112, 45, 101, 113, 117, 105, 118]
def contentB : Bs := [99, 111, 110, 116, 101, 110, 116]
def contentType : Bs := [99, 111, 110, 116, 101, 110, 116, 45, 116, 121, 112, 101]
def valOf (l : List (Bs × Bs)) (name : Bs) : Option Bs := (l.find? (fun a => a.1 == name)).map (fun a => a.2)
def toldA (l : List (Bs × Bs)) : Int := match valOf l charset7 with | some v => find v | none => if valOf l httpEquiv = some contentType then charA ((valOf l contentB).getD []) else 0
def turnA (n : Int) : Int := if n = 2 ∨ n = 3 then 1 else if n = 5 then 4 else n
def metaA (l : List (Bs × Bs)) : Int := turnA (toldA l)
def longA (l : List (Bs × Bs)) : Bool := decide (3000 < l.length) || l.any (fun a => decide (3000 < a.1.length) || decide (3000 < a.2.length))
def metaE (l : List (Bs × Bs)) : Int × Int := if longA l = true then (0, 2) else (metaA l, 0)
/-- What stands behind the first such text. -/
def behindF (sub : Bs) : Bs → Bs
  | [] => []
  | c :: t => if Lib.hasPrefix (fold (c :: t)) sub = true then (c :: t).drop sub.length else behindF sub t
def endB (c : UInt8) : Bool := white c || decide (c = 62)
def letterB (c : UInt8) : Bool := decide (97 ≤ c.toNat ∧ c.toNat ≤ 122)
def openS : Bs := [60, 33, 45, 45]
def closeS : Bs := [45, 45, 62]
def metaS : Bs := [60, 109, 101, 116, 97]
def nameEnd (l : Bs) : Option Bs :=
  match l with
  | c :: d :: t => if c = 60 ∧ (letterB (fold1 d) = true ∨ (d = 47 ∧ ∃ x, t.head? = some x ∧ letterB (fold1 x) = true)) then some (l.dropWhile (fun c => !endB c)) else none
  | _ => none
def slashW (l : Bs) : Bool := match l with | [] => false | c :: _ => skipB c
def stepS (l : Bs) : Int × Bs :=
  if Lib.hasPrefix (fold l) openS = true then (0, behindF closeS (l.drop 2))
  else if Lib.hasPrefix (fold l) metaS = true ∧ slashW (l.drop 5) = true then (metaA (attrsA (l.drop 5)).1, (attrsA (l.drop 5)).2.drop 1)
  else match nameEnd l with
    | some e => (0, (attrsA e).2.drop 1)
    | none => if Lib.hasPrefix l [60, 33] = true ∨ Lib.hasPrefix l [60, 47] = true ∨ Lib.hasPrefix l [60, 63] = true then (0, behindF [62] l) else (0, l.drop 1)
def scanF : Nat → Bs → Int
  | 0, _ => 0
  | _ + 1, [] => 0
  | f + 1, c :: t => if (stepS (c :: t)).1 = 0 then scanF f (stepS (c :: t)).2 else (stepS (c :: t)).1
def scan0 (l : Bs) : Int := scanF l.length l
def scanA (l : Bs) : Int := scan0 (l.take 256)
def scanE (l : Bs) : Int × Int := if 3000 < l.length then (0, 2) else (scanA l, 0)
theorem behindF_suf (sub : Bs) (l : Bs) : Suf (behindF sub l) l := by
  induction l with
  | nil => exact Suf.refl []
  | cons c t ih =>
    rw [behindF]
    split
    · exact Suf.drop _ _
    · exact ih.trans ⟨1, by simp, rfl⟩
theorem behindF_less (sub : Bs) (hs : sub ≠ []) (c : UInt8) (t : Bs) : (behindF sub (c :: t)).length < (c :: t).length := by
  rw [behindF]
  split
  · cases sub with
    | nil => exact absurd rfl hs
    | cons x y => simp only [List.length_cons, List.drop_succ_cons, List.length_drop]; omega
  · have := (behindF_suf sub t).len; simp only [List.length_cons]; omega
theorem drop1_less (r : Bs) (n : Nat) (h : r.length ≤ n) (hn : 0 < n) : (r.drop 1).length < n := by rw [List.length_drop]; omega
theorem stepS_less (c : UInt8) (t : Bs) : (stepS (c :: t)).2.length < (c :: t).length := by
  have ha := fun l : Bs => (attrsA_suf _ l (Nat.le_refl _)).1.len
  unfold stepS
  split
  · have h1 := (behindF_suf closeS ((c :: t).drop 2)).len
    rw [List.length_drop] at h1
    simp only [List.length_cons] at h1 ⊢; omega
  · split
    · refine drop1_less _ _ ?_ (by simp)
      have h1 := ha ((c :: t).drop 5)
      rw [List.length_drop] at h1
      simp only [List.length_cons] at h1 ⊢; omega
    · split
      · rename_i e he
        refine drop1_less _ _ ?_ (by simp)
        have h1 := ha e
        have h2 : e.length ≤ (c :: t).length := by
          unfold nameEnd at he
          split at he
          · split at he
            · injection he with he
              rw [← he]; exact (suf_dropWhile _ _).len
            · cases he
          · cases he
        omega
      · split
        · exact behindF_less [62] (by simp) c t
        · simp
theorem scanF_enough : ∀ (f g : Nat) (l : Bs), l.length ≤ f → l.length ≤ g → scanF f l = scanF g l
  | 0, g, l, h, _ => by
    have : l = [] := List.eq_nil_of_length_eq_zero (by omega)
    subst this
    cases g <;> rfl
  | f + 1, 0, l, _, h => by
    have : l = [] := List.eq_nil_of_length_eq_zero (by omega)
    subst this
    rfl
  | f + 1, g + 1, [], _, _ => rfl
  | f + 1, g + 1, c :: t, h, h2 => by
    have h1 := stepS_less c t
    rw [scanF, scanF, scanF_enough f g (stepS (c :: t)).2 (by omega) (by omega)]
theorem scan0_nil : scan0 [] = 0 := rfl
theorem scan0_cons (c : UInt8) (t : Bs) : scan0 (c :: t) = if (stepS (c :: t)).1 = 0 then scan0 (stepS (c :: t)).2 else (stepS (c :: t)).1 := by
  have h1 := stepS_less c t
  show scanF (t.length + 1) (c :: t) = _
  rw [scanF]
  split
  · exact scanF_enough _ _ _ (by simp only [List.length_cons] at h1; omega) (Nat.le_refl _)
  · rfl
/-! ## What is told is one of these -/
theorem find_range (s : Bs) : 0 ≤ find s ∧ find s ≤ 7 := by
  have key : ∀ x ∈ labels, 0 ≤ x.2 ∧ x.2 ≤ 7 := by decide
  unfold find find0
  split
  · rename_i x hx; exact key x (List.mem_of_find?_eq_some hx)
  · omega
theorem charOf_range (l : Bs) : 0 ≤ charOf l ∧ charOf l ≤ 7 := by
  unfold charOf
  split
  · exact find_range _
  · split
    · split
      · exact find_range _
      · omega
    · exact find_range _
theorem charF_range : ∀ (f : Nat) (l : Bs), 0 ≤ charF f l ∧ charF f l ≤ 7
  | 0, _ => by rw [charF]; omega
  | _ + 1, [] => by rw [charF]; omega
  | f + 1, c :: t => by
    rw [charF]
    split
    · split
      · exact charOf_range _
      · exact charF_range f _
    · exact charF_range f t
theorem metaA_range (l : List (Bs × Bs)) : metaA l = 0 ∨ metaA l = 1 ∨ metaA l = 4 ∨ metaA l = 6 ∨ metaA l = 7 := by
  have h : 0 ≤ toldA l ∧ toldA l ≤ 7 := by
    unfold toldA
    split
    · exact find_range _
    · split
      · exact charF_range _ _
      · omega
  unfold metaA turnA
  split
  · omega
  · split <;> omega
theorem stepS_range (l : Bs) : (stepS l).1 = 0 ∨ (stepS l).1 = 1 ∨ (stepS l).1 = 4 ∨ (stepS l).1 = 6 ∨ (stepS l).1 = 7 := by
  unfold stepS
  split
  · simp
  · split
    · exact metaA_range _
    · split
      · simp
      · split <;> simp
theorem scanF_range : ∀ (f : Nat) (l : Bs), scanF f l = 0 ∨ scanF f l = 1 ∨ scanF f l = 4 ∨ scanF f l = 6 ∨ scanF f l = 7
  | 0, _ => by rw [scanF]; omega
  | _ + 1, [] => by rw [scanF]; omega
  | f + 1, c :: t => by
    rw [scanF]
    split
    · exact scanF_range f _
    · exact stepS_range _
/-! ## Plain texts -/
theorem fold1_lt (c : UInt8) : fold1 c = 60 ↔ c = 60 := by
  rw [← UInt8.toNat_inj, ← UInt8.toNat_inj, fold1_nat]
  show _ = 60 ↔ c.toNat = 60
  split <;> omega
theorem prefix_cons (c x : UInt8) (t y : Bs) (h : x ≠ c) : Lib.hasPrefix (c :: t) (x :: y) = false := by
  unfold Lib.hasPrefix
  rw [List.isPrefixOf]
  simp [h]
theorem stepS_plain (c : UInt8) (t : Bs) (h : c ≠ 60) : stepS (c :: t) = (0, t) := by
  have hf : (60 : UInt8) ≠ fold1 c := fun hh => h ((fold1_lt c).1 hh.symm)
  have h1 : Lib.hasPrefix (fold (c :: t)) openS = false := prefix_cons _ _ _ _ hf
  have h2 : Lib.hasPrefix (fold (c :: t)) metaS = false := prefix_cons _ _ _ _ hf
  have h3 : nameEnd (c :: t) = none := by
    unfold nameEnd
    split
    · rename_i c' d t' e
      injection e with e1 e2
      subst e1
      rw [if_neg (by rintro ⟨hh, _⟩; exact h hh)]
    · rfl
  have h4 := fun y => prefix_cons c 60 t y (fun hh => h hh.symm)
  unfold stepS
  rw [h1, h2, h3, h4, h4, h4]
  simp
theorem scan0_skip : ∀ (a l : Bs), (∀ c ∈ a, c ≠ 60) → scan0 (a ++ l) = scan0 l
  | [], l, _ => rfl
  | c :: a, l, h => by
    rw [List.cons_append, scan0_cons, stepS_plain c _ (h c (by simp)), if_pos rfl]
    exact scan0_skip a l (fun x hx => h x (by simp [hx]))
def plainB (c : UInt8) : Bool := decide ((97 ≤ c.toNat ∧ c.toNat ≤ 122) ∨ (48 ≤ c.toNat ∧ c.toNat ≤ 57) ∨ c.toNat = 45)
theorem plainB_white (c : UInt8) (h : plainB c = true) : white c = false ∧ c.toNat ≠ 47 ∧ c.toNat ≠ 62 ∧ c.toNat ≠ 61 ∧ c.toNat ≠ 34 ∧ c.toNat ≠ 39 ∧ c.toNat ≠ 60 ∧ c.toNat ≠ 59 ∧ fold1 c = c := by
  simp only [plainB, decide_eq_true_eq] at h
  rw [white_nat, decide_eq_false_iff_not]
  refine ⟨by omega, by omega, by omega, by omega, by omega, by omega, by omega, by omega, ?_⟩
  unfold fold1
  rw [if_neg (by omega)]
theorem fold_plain (l : Bs) (h : l.all plainB = true) : fold l = l := by
  unfold fold
  induction l with
  | nil => rfl
  | cons c t ih =>
    rw [List.all_cons, Bool.and_eq_true] at h
    rw [List.map_cons, ih h.2, (plainB_white c h.1).2.2.2.2.2.2.2.2]
theorem take_all {p : UInt8 → Bool} (a : Bs) (c : UInt8) (t : Bs) (ha : a.all p = true) (hc : p c = false) : (a ++ c :: t).takeWhile p = a ∧ (a ++ c :: t).dropWhile p = c :: t := by
  induction a with
  | nil => simp [hc]
  | cons x y ih =>
    rw [List.all_cons, Bool.and_eq_true] at ha
    obtain ⟨i1, i2⟩ := ih ha.2
    simp [ha.1, i1, i2]
theorem take_end {p : UInt8 → Bool} (a : Bs) (ha : a.all p = true) : a.takeWhile p = a ∧ a.dropWhile p = [] := by
  induction a with
  | nil => simp
  | cons x y ih =>
    rw [List.all_cons, Bool.and_eq_true] at ha
    obtain ⟨i1, i2⟩ := ih ha.2
    simp [ha.1, i1, i2]
theorem all_imp {p q : UInt8 → Bool} (a : Bs) (h : ∀ c, p c = true → q c = true) (ha : a.all p = true) : a.all q = true := by
  rw [List.all_eq_true] at ha ⊢
  exact fun c hc => h c (ha c hc)
theorem plain_name (c : UInt8) (h : plainB c = true) : nameB c = true := by
  obtain ⟨h1, h2, h3, h4, _⟩ := plainB_white c h
  unfold nameB
  rw [h1]
  simp only [Bool.not_false, Bool.true_and, decide_eq_true_eq]
  refine ⟨fun e => h2 (by rw [e]; rfl), fun e => h3 (by rw [e]; rfl), fun e => h4 (by rw [e]; rfl)⟩
theorem plain_val (c : UInt8) (h : plainB c = true) : valB c = true := by
  obtain ⟨h1, h2, h3, h4, _⟩ := plainB_white c h
  unfold valB
  rw [h1]
  simp only [Bool.not_false, Bool.true_and, decide_eq_true_eq]
  exact fun e => h3 (by rw [e]; rfl)
theorem plain_lab (c : UInt8) (h : plainB c = true) : labB c = true := by
  obtain ⟨h1, h2, h3, h4, _, _, _, h8, _⟩ := plainB_white c h
  unfold labB
  rw [h1]
  simp only [Bool.not_false, Bool.true_and, decide_eq_true_eq]
  exact fun e => h8 (by rw [e]; rfl)
theorem plain_skip (c : UInt8) (h : plainB c = true) : skipB c = false := by
  obtain ⟨h1, h2, _⟩ := plainB_white c h
  unfold skipB
  rw [h1]
  simp only [Bool.false_or, decide_eq_false_iff_not]
  exact fun e => h2 (by rw [e]; rfl)
theorem plain_cons (l : Bs) (h : l.all plainB = true) (hn : l ≠ []) : ∃ c t, l = c :: t ∧ plainB c = true ∧ t.all plainB = true := by
  cases l with
  | nil => exact absurd rfl hn
  | cons c t => rw [List.all_cons, Bool.and_eq_true] at h; exact ⟨c, t, rfl, h.1, h.2⟩
theorem ne_byte (c d : UInt8) (h : c.toNat ≠ d.toNat) : c ≠ d := fun e => h (by rw [e])
/-- A value that is written plainly, ahead of a byte that ends it. -/
theorem valueA_plain (v : Bs) (e : UInt8) (t : Bs) (hv : v.all plainB = true) (hn : v ≠ []) (he : valB e = false) : valueA (v ++ e :: t) = (some v, e :: t) := by
  obtain ⟨c, u, rfl, h1, h2⟩ := plain_cons v hv hn
  have hp := plainB_white c h1
  obtain ⟨q1, q2⟩ := take_all (p := valB) (c :: u) e t (all_imp _ plain_val hv) he
  have hd : ((c :: u) ++ e :: t).dropWhile white = (c :: u) ++ e :: t := by
    rw [List.cons_append, List.dropWhile_cons, if_neg (by rw [hp.1]; decide)]
  unfold valueA
  rw [hd]
  rw [List.cons_append] at q1 q2 ⊢
  simp only
  rw [if_neg, q1, q2]
  rintro (e1 | e1)
  · exact hp.2.2.2.2.1 (by rw [e1]; rfl)
  · exact hp.2.2.2.2.2.1 (by rw [e1]; rfl)
/-- The tag. -/
theorem attrs_tag (name t : Bs) (hv : name.all plainB = true) (hn : name ≠ []) : attrsA ([32] ++ charset7 ++ [61] ++ name ++ 62 :: t) = ([(charset7, name)], 62 :: t) := by
  have h1 : nextA ([32] ++ charset7 ++ [61] ++ name ++ 62 :: t) = (some (charset7, name), 62 :: t) := by
    have e : ([32] ++ charset7 ++ [61] ++ name ++ 62 :: t : Bs) = 32 :: 99 :: ([104, 97, 114, 115, 101, 116] ++ 61 :: (name ++ 62 :: t)) := by simp [charset7]
    obtain ⟨q1, q2⟩ := take_all (p := nameB) [104, 97, 114, 115, 101, 116] 61 (name ++ 62 :: t) (by decide) (by decide)
    rw [e, nextA, List.dropWhile_cons, if_pos (by decide), List.dropWhile_cons, if_neg (by decide)]
    simp only
    rw [if_neg (by decide), q1, q2, List.dropWhile_cons, if_neg (by decide), afterA]
    simp only
    rw [if_pos trivial, valueA_plain name 62 t hv hn (by decide)]
    simp only [Option.map_some]
    rw [fold_plain name hv]
    rfl
  have h2 : nextA (62 :: t) = (none, 62 :: t) := by
    rw [nextA, List.dropWhile_cons, if_neg (by decide)]
    simp only
    rw [if_pos trivial]
  rw [attrsA_some _ _ _ h1, attrsA_none _ _ h2]
theorem metaA_tag (name : Bs) : metaA [(charset7, name)] = turnA (find name) := by
  unfold metaA toldA valOf
  rw [List.find?_cons]
  simp
def tagS (name : Bs) : Bs := [60, 109, 101, 116, 97, 32, 99, 104, 97, 114, 115, 101, 116, 61] ++ name ++ [62]
theorem scan0_tag (name t : Bs) (hv : name.all plainB = true) (hn : name ≠ []) (h0 : turnA (find name) ≠ 0) : scan0 (tagS name ++ t) = turnA (find name) := by
  have e : tagS name ++ t = 60 :: 109 :: 101 :: 116 :: 97 :: ([32] ++ charset7 ++ [61] ++ name ++ 62 :: t) := by simp [tagS, charset7]
  have hs : stepS (tagS name ++ t) = (turnA (find name), t) := by
    rw [e]
    have h1 : Lib.hasPrefix (fold (60 :: 109 :: 101 :: 116 :: 97 :: ([32] ++ charset7 ++ [61] ++ name ++ 62 :: t))) openS = false := rfl
    have h2 : Lib.hasPrefix (fold (60 :: 109 :: 101 :: 116 :: 97 :: ([32] ++ charset7 ++ [61] ++ name ++ 62 :: t))) metaS = true := rfl
    have h3 : slashW ((60 :: 109 :: 101 :: 116 :: 97 :: ([32] ++ charset7 ++ [61] ++ name ++ 62 :: t)).drop 5) = true := rfl
    have h4 : (60 :: 109 :: 101 :: 116 :: 97 :: ([32] ++ charset7 ++ [61] ++ name ++ 62 :: t)).drop 5 = [32] ++ charset7 ++ [61] ++ name ++ 62 :: t := rfl
    unfold stepS
    rw [h1, h2, h3, h4, if_neg (by decide), if_pos ⟨rfl, rfl⟩, attrs_tag name t hv hn, metaA_tag]
    rfl
  rw [e] at hs ⊢
  rw [scan0_cons, hs]
  exact if_neg h0
theorem behind_skip (c : UInt8) (t : Bs) (h : c ≠ 45) : behindF closeS (c :: t) = behindF closeS t := by
  rw [behindF, if_neg]
  rw [Bool.not_eq_true]
  refine prefix_cons _ _ _ _ (fun hh => h ?_)
  have h2 := congrArg UInt8.toNat hh
  rw [fold1_nat] at h2
  apply UInt8.toNat_inj.1
  show c.toNat = 45
  have h3 : (45 : UInt8).toNat = 45 := rfl
  rw [h3] at h2
  split at h2 <;> omega
theorem scan0_comment (name : Bs) (hv : name.all plainB = true) : scan0 (openS ++ tagS name ++ closeS) = 0 := by
  have e : openS ++ tagS name ++ closeS = 60 :: 33 :: 45 :: 45 :: ([60, 109, 101, 116, 97, 32, 99, 104, 97, 114, 115, 101, 116, 61] ++ (name ++ 62 :: closeS)) := by simp [tagS, openS]
  have hb : behindF closeS (45 :: 45 :: ([60, 109, 101, 116, 97, 32, 99, 104, 97, 114, 115, 101, 116, 61] ++ (name ++ 62 :: closeS))) = behindF closeS (name ++ 62 :: closeS) := by
    have h1 : Lib.hasPrefix (fold (45 :: 45 :: ([60, 109, 101, 116, 97, 32, 99, 104, 97, 114, 115, 101, 116, 61] ++ (name ++ 62 :: closeS)))) closeS = false := rfl
    have h2 : Lib.hasPrefix (fold (45 :: ([60, 109, 101, 116, 97, 32, 99, 104, 97, 114, 115, 101, 116, 61] ++ (name ++ 62 :: closeS)))) closeS = false := rfl
    rw [behindF, h1, if_neg (by decide), behindF, h2, if_neg (by decide)]
    simp only [List.cons_append, List.nil_append]
    repeat rw [behind_skip _ _ (by decide)]
  have hs : stepS (openS ++ tagS name ++ closeS) = (0, behindF closeS (name ++ 62 :: closeS)) := by
    rw [e]
    have h1 : Lib.hasPrefix (fold (60 :: 33 :: 45 :: 45 :: ([60, 109, 101, 116, 97, 32, 99, 104, 97, 114, 115, 101, 116, 61] ++ (name ++ 62 :: closeS)))) openS = true := rfl
    unfold stepS
    rw [h1, if_pos rfl, ← hb]
    rfl
  rw [e] at hs ⊢
  rw [scan0_cons, hs, if_pos rfl]
  have hno : ∀ c ∈ name ++ 62 :: closeS, c ≠ 60 := by
    intro c hc
    rw [List.mem_append] at hc
    rcases hc with hc | hc
    · exact ne_byte c 60 (plainB_white c (List.all_eq_true.1 hv c hc)).2.2.2.2.2.2.1
    · simp only [closeS, List.mem_cons, List.not_mem_nil, or_false] at hc
      rcases hc with rfl | rfl | rfl | rfl <;> decide
  obtain ⟨k, _, hk⟩ := behindF_suf closeS (name ++ 62 :: closeS)
  have := scan0_skip ((name ++ 62 :: closeS).drop k) [] (fun c hc => hno c (List.mem_of_mem_drop hc))
  rw [List.append_nil, ← hk] at this
  exact this
end Go.Proofs.YthaoohckgilahaaDoor.M

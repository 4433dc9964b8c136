/-
  Texts of the proof, laid together: Scan2, Scan3, PlainScan2, Scan4, Scan5, Mark, Front1, RLong, RLabel. No condition of its own.
-/
import Derived.Test.YteingkjdemlhgaaGreatDoorG3
import Derived.BigRegion
import Derived.Test.YteingkjdemlhgaaGreatDoorG1
import Derived.Test.YteingkjdemlhgaaGreatDoorProg
import Derived.Test.YteingkjdemlhgaaGreatDoorG2
import Derived.WalkLawsBesides
import Derived.WalkSpells
import Derived.Deep.QuietTactic
import Derived.BigQuiet

/-
  Package scan: the looker: begins, byteAt, to, tag.
-/
namespace Go.Proofs.YteingkjdemlhgaaGreatDoor
open Go.RowKit
set_option maxRecDepth 1000000
set_option maxHeartbeats 1000000
/-- A looker at g: it holds a text, the text in small letters, and a place. -/
def Lk (w : World) (g : Nat) (s low : ByteArray) (k : Nat) : Prop := Box w g 171 [.string s, .string low, .int .i64 (k : Int)]
theorem Lk.bel {w w' : World} {g : Nat} {s low : ByteArray} {k : Nat} (h : Lk w g s low k) (hb : Bel w w') : Lk w' g s low k := Box.bel h hb
theorem Lk.move {w : World} {g : Nat} {s low : ByteArray} {k : Nat} (h : Lk w g s low k) (j : Nat) : Lk (w.setCell ⟨g, 2, none⟩ (.int .i64 (j : Int))) g s low j := Box.set h 2 _
/-- low is s in small letters. -/
def Low (s low : ByteArray) : Prop := low.data.toList = M.fold s.data.toList
theorem Low.size {s low : ByteArray} (h : Low s low) : low.size = s.size := by rw [Lib.size_eq, h, M.fold_len, ← Lib.size_eq]
theorem Low.drop {s low : ByteArray} (h : Low s low) (k : Nat) : (low.extract k low.size).data.toList = M.fold (s.data.toList.drop k) := by rw [drop_str, h, fold_drop]
theorem begins_any (g : Nat) (s low p : ByteArray) (k : Nat) (w : World) (h : Lk w g s low k) (hl : Low s low) (hk : k ≤ s.size) : Calls Tryz.prog 167 #[.pointer (some ⟨g, 0, none⟩), .string p] w fun e w' => e = .returned (.bool (Lib.hasPrefix (M.fold (s.data.toList.drop k)) p.data.toList)) ∧ ∃ m, w' = w.drewN m := by
  have c1 := Box.cell h 1 _ rfl
  have c2 := Box.cell h 2 _ rfl
  have hsz := hl.size
  have hbd : (0 : Int) ≤ (k : Int) ∧ (k : Int) ≤ (low.size : Int) := by omega
  have hcall := fun n => Tryz.strings_HasPrefix (low.extract k low.size) p (w.drewN n)
  rw [hl.drop k] at hcall
  have HC := Lib.hid hcall
  clear hcall hl hsz
  go_enter Tryz.func167, Tryz.ntmps167
  go_wp2_with fail
  go_quiet (first | (go_at_call 69; exact Calls.quiet_of_same (HC.out _)))
  go_wp2
  go_ret
  exact ⟨rfl, _, rfl⟩
/-- The byte so many further on, in small letters; 0: there is none. -/
def byteN (l : List UInt8) (more : Nat) : UInt8 := ((M.fold l)[more]?).getD 0
theorem byteAt_any (g : Nat) (s low : ByteArray) (k more : Nat) (w : World) (h : Lk w g s low k) (hl : Low s low) (hk : k ≤ s.size) (hs : s.size ≤ 3000) (hm : more ≤ 9) : Calls Tryz.prog 169 #[.pointer (some ⟨g, 0, none⟩), .int .i64 (more : Int)] w fun e w' => e = .returned (.int .u8 ((byteN (s.data.toList.drop k) more).toNat : Int)) ∧ ∃ m, w' = w.drewN m := by
  have c0 := Box.cell h 0 _ rfl
  have c1 := Box.cell h 1 _ rfl
  have c2 := Box.cell h 2 _ rfl
  have hsz := hl.size
  obtain ⟨km, hkm⟩ : ∃ km : Nat, km = k + more := ⟨_, rfl⟩
  have hki : (k : Int) + (more : Int) = (km : Int) := by omega
  by_cases hlt : km < s.size
  · have hb : byteN (s.data.toList.drop k) more = low[km] := by
      subst hkm
      rw [byteN, ← fold_drop, List.getElem?_drop, ← hl, byte_at low (k + more) (by omega)]
      rfl
    have HB := Lib.hid hb
    have hlt2 : km < low.size := by omega
    have hf : decide ((s.size : Int) ≤ (km : Int)) = false := by simp; omega
    clear hb hl hkm
    go_enter Tryz.func169, Tryz.ntmps169
    go_wp2_with fail
    go_quiet (fail)
    go_wp2_with fail
    go_quiet (fail)
    go_wp2_with fail
    go_ret
    exact ⟨by rw [HB.out]; rfl, _, World.drewN_drewN _ _ _⟩
  · have HB := Lib.hid (show byteN (s.data.toList.drop k) more = 0 by
      rw [byteN, ← fold_drop, List.getElem?_drop, List.getElem?_eq_none (by rw [M.fold_len, ← Lib.size_eq]; omega)]
      rfl)
    have hf : decide ((s.size : Int) ≤ (km : Int)) = true := by simp; omega
    clear hl hkm
    go_enter Tryz.func169, Tryz.ntmps169
    go_wp2_with fail
    go_quiet (fail)
    go_wp2_with fail
    go_ret
    exact ⟨by rw [HB.out]; rfl, _, rfl⟩
theorem behindF_no (sub : List UInt8) : ∀ l : List UInt8, (∀ j, Lib.hasPrefix (M.fold (l.drop j)) sub = false) → M.behindF sub l = []
  | [], _ => rfl
  | c :: t, h => by
    rw [M.behindF, if_neg (by have := h 0; rw [List.drop_zero] at this; rw [this]; decide)]
    exact behindF_no sub t (fun j => h (j + 1))
theorem behindF_at (sub : List UInt8) (hs : sub ≠ []) : ∀ (i : Nat) (l : List UInt8), Lib.hasPrefix (M.fold (l.drop i)) sub = true → (∀ j, j < i → Lib.hasPrefix (M.fold (l.drop j)) sub = false) → M.behindF sub l = l.drop (i + sub.length)
  | i, [], h, _ => by
    rw [List.drop_nil] at h
    cases sub with
    | nil => exact absurd rfl hs
    | cons x y => cases h
  | 0, c :: t, h, _ => by
    rw [M.behindF, if_pos (by rw [List.drop_zero] at h; exact h), Nat.zero_add]
  | i + 1, c :: t, h, hno => by
    rw [M.behindF, if_neg (by have := hno 0 (by omega); rw [List.drop_zero] at this; rw [this]; decide), behindF_at sub hs i t h (fun j hj => hno (j + 1) (by omega)), show i + 1 + sub.length = i + sub.length + 1 by omega, List.drop_succ_cons]
theorem to_any (g : Nat) (s low sub : ByteArray) (k more : Nat) (w : World) (h : Lk w g s low k) (hl : Low s low) (hk : k + more ≤ s.size) (hs : s.size ≤ 3000) (hsub : sub.data.toList ≠ []) (hm : more ≤ 9) (hsl : sub.size ≤ 9) (hL : Len w) : Calls Tryz.prog 168 #[.pointer (some ⟨g, 0, none⟩), .string sub, .int .i64 (more : Int)] w fun e w' => e = .returned (.tuple #[]) ∧ (∃ k', k' ≤ s.size ∧ Lk w' g s low k' ∧ s.data.toList.drop k' = M.behindF sub.data.toList (s.data.toList.drop (k + more))) ∧ Bes g w w' := by
  have c0 := Box.cell h 0 _ rfl
  have c1 := Box.cell h 1 _ rfl
  have c2 := Box.cell h 2 _ rfl
  have f2 := Box.frozen h 2
  have hsz := hl.size
  obtain ⟨m, hm2⟩ := hL
  obtain ⟨km, hkm⟩ : ∃ km : Nat, km = k + more := ⟨_, rfl⟩
  rw [← hkm] at hk ⊢
  have hki : (k : Int) + (more : Int) = (km : Int) := by omega
  have hbd : (0 : Int) ≤ (km : Int) ∧ (km : Int) ≤ (low.size : Int) := by omega
  have hw : IntKind.i64.wrap (km : Int) = (km : Int) := by rw [IntKind.wrap_i64]; omega
  have hcall := fun n => Tryz.strings_Index (low.extract km low.size) sub m (w.drewN n) (by rw [drop_size]; omega) hm2
  rw [hl.drop km] at hcall
  rcases index_cases (M.fold (s.data.toList.drop km)) sub.data.toList hsub with ⟨hi, hno⟩ | ⟨i, hil, hi, hyes, hno⟩
  · rw [hi] at hcall
    have HC := Lib.hid hcall
    have HB := Lib.hid (behindF_no sub.data.toList (s.data.toList.drop km) (fun j => by rw [← fold_drop]; exact hno j))
    clear hcall hl hno hi hkm hsz
    go_enter Tryz.func168, Tryz.ntmps168
    go_wp2_with fail
    go_quiet (first | (go_at_call 113; exact Calls.quiet_of_same (HC.out _)))
    go_wp2_with fail
    exact bodyPost_ret (v := .tuple #[]) (by simp [results, Tryz.results168, go_sem]) rfl ⟨rfl, ⟨s.size, Nat.le_refl _, Lk.move (Box.drewN h nq) s.size, by rw [HB.out]; exact List.drop_eq_nil_of_le (by rw [← Lib.size_eq]; exact Nat.le_refl _)⟩, (Bes.of_bel ((Bel.refl w).drewN nq)).setCell 2 _⟩
  · rw [hi] at hcall
    have HC := Lib.hid hcall
    have HB := Lib.hid (behindF_at sub.data.toList hsub i (s.data.toList.drop km) (by rw [← fold_drop]; exact hyes) (fun j hj => by rw [← fold_drop]; exact hno j hj))
    rw [M.fold_len, List.length_drop, ← Lib.size_eq, ← Lib.size_eq] at hil
    clear hcall hl hno hi hyes hkm hsz
    go_enter Tryz.func168, Tryz.ntmps168
    go_wp2_with fail
    go_quiet (first | (go_at_call 113; exact Calls.quiet_of_same (HC.out _)))
    go_wp2_with fail
    go_end0
    rw [show (k : Int) + ((more : Int) + (i : Int) + (sub.size : Int)) = ((km + (i + sub.size) : Nat) : Int) by omega]
    exact ⟨rfl, ⟨km + (i + sub.size), by omega, Lk.move (Box.drewN h nq) _, by rw [HB.out, List.drop_drop, ← Lib.size_eq]⟩, (Bes.of_bel ((Bel.refl w).drewN nq)).setCell 2 _⟩
theorem drop_min (s : ByteArray) (en : Nat) (h : en ≤ s.size) : s.data.toList.drop (min s.size (en + 1)) = (s.data.toList.drop en).drop 1 := by
  rw [List.drop_drop]
  by_cases e : en + 1 ≤ s.size
  · rw [Nat.min_eq_right e]
  · rw [Nat.min_eq_left (by omega), List.drop_eq_nil_of_le (by rw [← Lib.size_eq]; exact Nat.le_refl _), List.drop_eq_nil_of_le (by rw [← Lib.size_eq]; omega)]
theorem tag_any (g : Nat) (s low : ByteArray) (k fr : Nat) (w : World) (h : Lk w g s low k) (hk : fr ≤ s.size) (hs : s.size ≤ 3000) (xs : List (List UInt8 × List UInt8)) (r : List UInt8) (hn : M.attrsA (s.data.toList.drop fr) = (xs, r)) : Calls Tryz.prog 171 #[.pointer (some ⟨g, 0, none⟩), .int .i64 (fr : Int)] w fun e w' => ∃ v, e = .returned v ∧ AttrSl w' v xs ∧ (∃ k', k' ≤ s.size ∧ Lk w' g s low k' ∧ s.data.toList.drop k' = r.drop 1) ∧ Bes g w w' := by
  have c0 := Box.cell h 0 _ rfl
  have hgl := Box.lt h
  have hsuf := (M.attrsA_suf _ (s.data.toList.drop fr) (Nat.le_refl _)).1
  rw [hn] at hsuf
  have hd := M.Suf.at (M.Suf.trans (a := r) hsuf (M.Suf.drop s.data.toList fr))
  rw [← Lib.size_eq] at hd
  have hrl : r.length ≤ s.size := by
    have := hsuf.len
    rw [List.length_drop, ← Lib.size_eq] at this
    have h9 : r.length ≤ s.size - fr := this
    omega
  have ff := from_any s fr hk hs xs r hn
  obtain ⟨en, hen⟩ : ∃ en : Nat, en = s.size - r.length := ⟨_, rfl⟩
  rw [← hen] at ff hd
  have HF := Lib.hid ff
  have HD := Lib.hid hd
  have henl : en ≤ s.size := by omega
  clear ff hd hsuf hn hen
  go_enter Tryz.func171, Tryz.ntmps171
  go_wp2_with fail
  refine (HF.out _).mono ?_
  rintro e w1 ⟨v, rfl, hown, b1⟩
  have h1 := h.bel b1
  have c0 := Box.cell h1 0 _ rfl
  have c2 := Box.cell h1 2 _ rfl
  have f2 := Box.frozen h1 2
  go_wp2_with fail
  rw [show min (s.size : Int) ((en : Int) + 1) = ((min s.size (en + 1) : Nat) : Int) by omega]
  go_ret
  exact ⟨v, rfl, OwnA.sl (B := w.heap.size) (hown.keep (fun kk hkk => Below.heap_setCell w1 _ _ kk (by have := (hown.lt kk hkk).1; show kk ≠ g; omega))), ⟨min s.size (en + 1), Nat.min_le_left _ _, h1.move _, by rw [drop_min s en henl, HD.out]⟩, (Bes.of_bel b1).setCell 2 _⟩
end Go.Proofs.YteingkjdemlhgaaGreatDoor

/-
  Package scan: letter, named.
-/
namespace Go.Proofs.YteingkjdemlhgaaGreatDoor
open Go.RowKit
set_option maxRecDepth 1000000
set_option maxHeartbeats 1000000
theorem letter_int (c : UInt8) : M.letterB c = (decide (97 ≤ (c.toNat : Int)) && decide ((c.toNat : Int) ≤ 122)) := by
  unfold M.letterB
  rw [Bool.eq_iff_iff]
  simp only [decide_eq_true_eq, Bool.and_eq_true]
  omega
theorem letter_to (c : UInt8) (b : Bool) (h : M.letterB c = b) (w : World) : Calls Tryz.prog 191 #[.int .u8 (c.toNat : Int)] w fun e w' => e = .returned (.bool b) ∧ w' = w := by
  rw [letter_int] at h
  have H := Lib.hid h
  clear h
  go_enter Tryz.func191, Tryz.ntmps191
  go_wp2
  · rename_i h9
    go_ret
    exact ⟨by rw [← H.out, decide_eq_true h9]; rfl, rfl⟩
  · rename_i h9
    go_ret
    exact ⟨by rw [← H.out, decide_eq_false (by omega)]; rfl, rfl⟩
/-- A rune that ends a name. -/
def endP (r : Nat) : Bool := if r < 128 then M.endB (UInt8.ofNat r) else false
theorem endP_byte (b : UInt8) (h : b.toNat < 128) : endP b.toNat = M.endB b := by
  rw [endP, if_pos h, UInt8.ofNat_toNat]
theorem endB_low (b : UInt8) (h : 128 ≤ b.toNat) : M.endB b = false := by
  unfold M.endB
  rw [Bool.or_eq_false_iff]
  constructor
  · rw [M.white_nat, decide_eq_false_iff_not]; omega
  · rw [decide_eq_false_iff_not]; rintro rfl; exact absurd h (by decide)
theorem named1_any (r : Nat) (hr : r ≤ 1114111) (w : World) : Calls Tryz.prog 193 #[.int .i32 (r : Int)] w fun e w' => e = .returned (.bool (endP r)) ∧ w' = w := by
  by_cases h128 : r < 128
  · obtain ⟨c, hc⟩ : ∃ c : UInt8, c.toNat = r := ⟨UInt8.ofNat r, by rw [UInt8.toNat_ofNat']; omega⟩
    subst hc
    have HP := Lib.hid (show endP c.toNat = (((c.toNat : Int) == 62) || M.white c) by
      rw [endP_byte c h128, M.endB, Bool.or_comm]
      congr 1
      rw [Bool.eq_iff_iff]
      simp only [decide_eq_true_eq, beq_iff_eq]
      rw [← UInt8.toNat_inj]
      show c.toNat = 62 ↔ _
      omega)
    obtain ⟨b, hb⟩ : ∃ b, M.white c = b := ⟨_, rfl⟩
    have HW := Lib.hid hb
    rw [hb] at HP
    clear hb
    have hl : decide ((c.toNat : Int) < 128) = true := by simp; omega
    go_enter Tryz.func193, Tryz.ntmps193
    go_wp2_with (go_at_call 106; refine (white_to c b HW.out _).mono ?_; rintro e w' ⟨rfl, rfl⟩)
    · rename_i h9
      go_ret
      exact ⟨by rw [HP.out, show ((c.toNat : Int) == 62) = true by simp [h9]]; rfl, rfl⟩
    · go_ret
      exact ⟨by rw [HP.out]; rfl, rfl⟩
  · have HP := Lib.hid (show endP r = false by rw [endP, if_neg h128])
    have h1 : ((r : Int) == 62) = false := by simp; omega
    have h2 : decide ((r : Int) < 128) = false := by simp; omega
    go_enter Tryz.func193, Tryz.ntmps193
    go_wp2
    go_ret
    exact ⟨by rw [HP.out]; rfl, rfl⟩
/-- Does the name of a tag begin here? -/
def nameQ (l : List UInt8) : Bool := ((byteN l 0).toNat == 60) && M.letterB (byteN l (if (byteN l 1).toNat = 47 then 2 else 1))
theorem fold1_47 (c : UInt8) : (M.fold1 c).toNat = 47 ↔ c = 47 := by
  rw [← UInt8.toNat_inj, M.fold1_nat]
  show _ ↔ c.toNat = 47
  split <;> omega
theorem fold1_60 (c : UInt8) : (M.fold1 c).toNat = 60 ↔ c = 60 := by
  rw [← UInt8.toNat_inj, M.fold1_nat]
  show _ ↔ c.toNat = 60
  split <;> omega
theorem nameEnd_eq (l : List UInt8) : M.nameEnd l = if nameQ l = true then some (l.dropWhile (fun c => !M.endB c)) else none := by
  match l with
  | [] => rfl
  | [c] =>
    have : nameQ [c] = false := by
      have h1 : byteN [c] 1 = 0 := rfl
      rw [nameQ, if_neg (by rw [h1]; decide), h1, show M.letterB 0 = false by decide, Bool.and_false]
    rw [this]; rfl
  | c :: d :: t =>
    have e0 : byteN (c :: d :: t) 0 = M.fold1 c := rfl
    have e1 : byteN (c :: d :: t) 1 = M.fold1 d := rfl
    have e2 : byteN (c :: d :: t) 2 = (t.head?.map M.fold1).getD 0 := by cases t <;> rfl
    have key : (c = 60 ∧ (M.letterB (M.fold1 d) = true ∨ (d = 47 ∧ ∃ x, t.head? = some x ∧ M.letterB (M.fold1 x) = true))) ↔ nameQ (c :: d :: t) = true := by
      rw [nameQ, e0, Bool.and_eq_true, beq_iff_eq, fold1_60, e1]
      refine and_congr_right fun _ => ?_
      by_cases h47 : d = 47
      · subst h47
        rw [if_pos (by decide), e2, show M.letterB (M.fold1 47) = false by decide]
        cases t with
        | nil => simp [show M.letterB 0 = false by decide]
        | cons x y => simp
      · rw [if_neg (by rw [fold1_47]; exact h47), e1]
        simp [h47]
    rw [M.nameEnd]
    by_cases hc : (c = 60 ∧ (M.letterB (M.fold1 d) = true ∨ (d = 47 ∧ ∃ x, t.head? = some x ∧ M.letterB (M.fold1 x) = true)))
    · rw [if_pos hc, if_pos (key.1 hc)]
    · rw [if_neg hc, if_neg (fun h9 => hc (key.2 h9))]
def endOf (s : ByteArray) : Option (List UInt8) → Int
  | some e => ((s.size - e.length : Nat) : Int)
  | none => 0
theorem pred_end (W : World) : PredAtRunes Tryz.prog 193 #[] endP W := fun W' x hx _ => (named1_any x hx W').mono (fun _ _ h => ⟨h.1, 0, h.2⟩)
theorem ix_any (s : ByteArray) (k : Nat) (r : Int) (h : Lib.idxFunc endP true (s.extract k s.size) = r) (W : World) : Calls Tryz.prog 192 #[.string (s.extract k s.size), .func (.func 193) #[] #[]] W fun e w' => e = .returned (.int .i64 r) ∧ Bel W w' := by
  subst h
  exact Tryz.strings_IndexFunc_runes 193 #[] (enters_of Tryz.func193 (by kernel_rfl) rfl) endP (s.extract k s.size) W (pred_end W)
theorem ix_end (s : ByteArray) (k : Nat) : Lib.idxFunc endP true (s.extract k s.size) = M.firstB M.endB 0 (s.data.toList.drop k) := by
  have h := M.idx_byte endP M.endB endP_byte (fun r hr => by rw [endP, if_neg (by omega)]) endB_low (s.extract k s.size) (s.extract k s.size).size 0 (Nat.zero_le _) (Nat.le_refl _)
  rw [drop_str, List.drop_zero] at h
  exact h
theorem first_end (s : ByteArray) (k : Nat) (hk : k ≤ s.size) : (M.firstB M.endB 0 (s.data.toList.drop k) = -1 ∧ endOf s (some ((s.data.toList.drop k).dropWhile (fun c => !M.endB c))) = (s.size : Int)) ∨ ∃ n : Nat, M.firstB M.endB 0 (s.data.toList.drop k) = (n : Int) ∧ endOf s (some ((s.data.toList.drop k).dropWhile (fun c => !M.endB c))) = ((k + n : Nat) : Int) ∧ k + n ≤ s.size := by
  have hl := congrArg List.length (List.takeWhile_append_dropWhile (p := fun c => !M.endB c) (l := s.data.toList.drop k))
  rw [List.length_append, List.length_drop, ← Lib.size_eq] at hl
  unfold M.firstB endOf
  by_cases hd : (s.data.toList.drop k).dropWhile (fun c => !M.endB c) = []
  · left
    rw [if_pos hd, hd]
    exact ⟨rfl, by simp⟩
  · right
    rw [if_neg hd, Nat.zero_add]
    exact ⟨_, rfl, by simp only; omega, by omega⟩
theorem named_any (g : Nat) (s low : ByteArray) (k : Nat) (w : World) (h : Lk w g s low k) (hl : Low s low) (hk : k ≤ s.size) (hs : s.size ≤ 3000) (o : Option (List UInt8)) (ho : M.nameEnd (s.data.toList.drop k) = o) : Calls Tryz.prog 166 #[.pointer (some ⟨g, 0, none⟩)] w fun e w' => e = .returned (.tuple #[.int .i64 (endOf s o), .bool o.isSome]) ∧ Bel w w' := by
  rw [nameEnd_eq, nameQ] at ho
  obtain ⟨c0, hc0⟩ : ∃ c, byteN (s.data.toList.drop k) 0 = c := ⟨_, rfl⟩
  have B0 : ∀ W, Lk W g s low k → Calls Tryz.prog 169 #[.pointer (some ⟨g, 0, none⟩), .int .i64 0] W fun e w' => e = .returned (.int .u8 (c0.toNat : Int)) ∧ ∃ m, w' = W.drewN m := fun W hW => by
    have := byteAt_any g s low k 0 W hW hl hk hs (by decide)
    rw [hc0] at this
    exact this
  obtain ⟨c1, hc1⟩ : ∃ c, byteN (s.data.toList.drop k) 1 = c := ⟨_, rfl⟩
  have B1 : ∀ W, Lk W g s low k → Calls Tryz.prog 169 #[.pointer (some ⟨g, 0, none⟩), .int .i64 1] W fun e w' => e = .returned (.int .u8 (c1.toNat : Int)) ∧ ∃ m, w' = W.drewN m := fun W hW => by
    have := byteAt_any g s low k 1 W hW hl hk hs (by decide)
    rw [hc1] at this
    exact this
  obtain ⟨c2, hc2⟩ : ∃ c, byteN (s.data.toList.drop k) 2 = c := ⟨_, rfl⟩
  have B2 : ∀ W, Lk W g s low k → Calls Tryz.prog 169 #[.pointer (some ⟨g, 0, none⟩), .int .i64 2] W fun e w' => e = .returned (.int .u8 (c2.toNat : Int)) ∧ ∃ m, w' = W.drewN m := fun W hW => by
    have := byteAt_any g s low k 2 W hW hl hk hs (by decide)
    rw [hc2] at this
    exact this
  rw [hc0, hc1] at ho
  cases h60 : ((c0.toNat : Int) != 60) with
  | true =>
    have HO := Lib.hid (show o = none by rw [← ho, if_neg (by simp at h60; simp; omega)])
    cases h47 : ((c1.toNat : Int) == 47) with
    | true =>
      clear ho hc0 hc1 hc2
      go_enter Tryz.func166, Tryz.ntmps166
      go_wp2_with fail
      refine (B1 _ h).mono ?_
      rintro e W1 ⟨rfl, m1, rfl⟩
      have h1 := Box.drewN h m1
      have hb1 : Bel w (w.drewN m1) := (Bel.refl w).drewN m1
      generalize w.drewN m1 = W1 at *
      go_wp2_with fail
      refine (B0 _ h1).mono ?_
      rintro e W2 ⟨rfl, m2, rfl⟩
      have h2 := Box.drewN h1 m2
      have hb2 : Bel w (W1.drewN m2) := hb1.drewN m2
      generalize W1.drewN m2 = W2 at *
      go_wp2_with fail
      go_ret2
      exact ⟨by rw [HO.out]; rfl, hb2⟩
    | false =>
      clear ho hc0 hc1 hc2
      go_enter Tryz.func166, Tryz.ntmps166
      go_wp2_with fail
      refine (B1 _ h).mono ?_
      rintro e W1 ⟨rfl, m1, rfl⟩
      have h1 := Box.drewN h m1
      have hb1 : Bel w (w.drewN m1) := (Bel.refl w).drewN m1
      generalize w.drewN m1 = W1 at *
      go_wp2_with fail
      refine (B0 _ h1).mono ?_
      rintro e W2 ⟨rfl, m2, rfl⟩
      have h2 := Box.drewN h1 m2
      have hb2 : Bel w (W1.drewN m2) := hb1.drewN m2
      generalize W1.drewN m2 = W2 at *
      go_wp2_with fail
      go_ret2
      exact ⟨by rw [HO.out]; rfl, hb2⟩
  | false =>
    have e60 : (c0.toNat == 60) = true := by simp at h60; simp; omega
    rw [e60, Bool.true_and] at ho
    clear e60
    have hix := ix_end s k
    have hir := first_end s k hk
    cases h47 : ((c1.toNat : Int) == 47) with
    | true =>
      have e47 : c1.toNat = 47 := by simp at h47; omega
      rw [if_pos e47, hc2] at ho
      clear e47
      cases hb : M.letterB c2 with
      | false =>
        have HB := Lib.hid hb
        have HO := Lib.hid (show o = none by rw [← ho, hb]; rfl)
        clear ho hc0 hc1 hc2 hb hix hir
        skip
        go_enter Tryz.func166, Tryz.ntmps166
        go_wp2_with fail
        refine (B1 _ h).mono ?_
        rintro e W1 ⟨rfl, m1, rfl⟩
        have h1 := Box.drewN h m1
        have hb1 : Bel w (w.drewN m1) := (Bel.refl w).drewN m1
        generalize w.drewN m1 = W1 at *
        go_wp2_with fail
        refine (B0 _ h1).mono ?_
        rintro e W2 ⟨rfl, m2, rfl⟩
        have h2 := Box.drewN h1 m2
        have hb2 : Bel w (W1.drewN m2) := hb1.drewN m2
        generalize W1.drewN m2 = W2 at *
        go_wp2_with fail
        refine (B2 _ h2).mono ?_
        rintro e W3 ⟨rfl, m3, rfl⟩
        have h3 := Box.drewN h2 m3
        have hb3 : Bel w (W2.drewN m3) := hb2.drewN m3
        generalize W2.drewN m3 = W3 at *
        go_wp2_with fail
        refine (letter_to c2 _ HB.out _).mono ?_
        rintro e W4 ⟨rfl, rfl⟩
        have c0 := Box.cell h3 0 _ rfl
        have c2 := Box.cell h3 2 _ rfl
        clear h1 h2
        go_wp2_with fail
        go_ret2
        exact ⟨by rw [HO.out]; rfl, hb3⟩
      | true =>
        have HB := Lib.hid hb
        have HO := Lib.hid (show o = some ((s.data.toList.drop k).dropWhile (fun c => !M.endB c)) by rw [← ho, hb]; rfl)
        clear ho hc0 hc1 hc2 hb
        rcases hir with ⟨hr, he⟩ | ⟨n, hr, he, hkn⟩
        · rw [hr] at hix
          have HX := Lib.hid hix
          have HE := Lib.hid he
          clear hix hr he
          skip
          go_enter Tryz.func166, Tryz.ntmps166
          go_wp2_with fail
          refine (B1 _ h).mono ?_
          rintro e W1 ⟨rfl, m1, rfl⟩
          have h1 := Box.drewN h m1
          have hb1 : Bel w (w.drewN m1) := (Bel.refl w).drewN m1
          generalize w.drewN m1 = W1 at *
          go_wp2_with fail
          refine (B0 _ h1).mono ?_
          rintro e W2 ⟨rfl, m2, rfl⟩
          have h2 := Box.drewN h1 m2
          have hb2 : Bel w (W1.drewN m2) := hb1.drewN m2
          generalize W1.drewN m2 = W2 at *
          go_wp2_with fail
          refine (B2 _ h2).mono ?_
          rintro e W3 ⟨rfl, m3, rfl⟩
          have h3 := Box.drewN h2 m3
          have hb3 : Bel w (W2.drewN m3) := hb2.drewN m3
          generalize W2.drewN m3 = W3 at *
          go_wp2_with fail
          refine (letter_to c2 _ HB.out _).mono ?_
          rintro e W4 ⟨rfl, rfl⟩
          have c0 := Box.cell h3 0 _ rfl
          have c2 := Box.cell h3 2 _ rfl
          clear h1 h2
          go_wp2_with fail
          go_region_with ((go_at_call 192; refine (ix_any s k _ HX.out _).mono ?_; rintro e W5 ⟨rfl, b5⟩))
          all_goals (
            have hb5 := (Bel.drew hb3).trans b5
            have h5 := Box.bel h3 ((Bel.drew (Bel.refl W4)).trans b5)
            have e0 := Box.cell h5 0 _ rfl
            have e2 := Box.cell h5 2 _ rfl
            go_wp2_with fail
            go_ret2
            exact ⟨by rw [HO.out, HE.out]; rfl, hb5⟩)
        · rw [hr] at hix
          have HX := Lib.hid hix
          have HE := Lib.hid he
          clear hix hr he
          skip
          go_enter Tryz.func166, Tryz.ntmps166
          go_wp2_with fail
          refine (B1 _ h).mono ?_
          rintro e W1 ⟨rfl, m1, rfl⟩
          have h1 := Box.drewN h m1
          have hb1 : Bel w (w.drewN m1) := (Bel.refl w).drewN m1
          generalize w.drewN m1 = W1 at *
          go_wp2_with fail
          refine (B0 _ h1).mono ?_
          rintro e W2 ⟨rfl, m2, rfl⟩
          have h2 := Box.drewN h1 m2
          have hb2 : Bel w (W1.drewN m2) := hb1.drewN m2
          generalize W1.drewN m2 = W2 at *
          go_wp2_with fail
          refine (B2 _ h2).mono ?_
          rintro e W3 ⟨rfl, m3, rfl⟩
          have h3 := Box.drewN h2 m3
          have hb3 : Bel w (W2.drewN m3) := hb2.drewN m3
          generalize W2.drewN m3 = W3 at *
          go_wp2_with fail
          refine (letter_to c2 _ HB.out _).mono ?_
          rintro e W4 ⟨rfl, rfl⟩
          have c0 := Box.cell h3 0 _ rfl
          have c2 := Box.cell h3 2 _ rfl
          clear h1 h2
          go_wp2_with fail
          go_region_with ((go_at_call 192; refine (ix_any s k _ HX.out _).mono ?_; rintro e W5 ⟨rfl, b5⟩))
          all_goals (
            have hb5 := (Bel.drew hb3).trans b5
            have h5 := Box.bel h3 ((Bel.drew (Bel.refl W4)).trans b5)
            have e0 := Box.cell h5 0 _ rfl
            have e2 := Box.cell h5 2 _ rfl
            go_wp2_with fail
            go_ret2
            exact ⟨by rw [HO.out, HE.out]; rfl, hb5⟩)
    | false =>
      have e47 : ¬ c1.toNat = 47 := by simp at h47; omega
      rw [if_neg e47, hc1] at ho
      clear e47
      cases hb : M.letterB c1 with
      | false =>
        have HB := Lib.hid hb
        have HO := Lib.hid (show o = none by rw [← ho, hb]; rfl)
        clear ho hc0 hc1 hc2 hb hix hir
        skip
        go_enter Tryz.func166, Tryz.ntmps166
        go_wp2_with fail
        refine (B1 _ h).mono ?_
        rintro e W1 ⟨rfl, m1, rfl⟩
        have h1 := Box.drewN h m1
        have hb1 : Bel w (w.drewN m1) := (Bel.refl w).drewN m1
        generalize w.drewN m1 = W1 at *
        go_wp2_with fail
        refine (B0 _ h1).mono ?_
        rintro e W2 ⟨rfl, m2, rfl⟩
        have h2 := Box.drewN h1 m2
        have hb2 : Bel w (W1.drewN m2) := hb1.drewN m2
        generalize W1.drewN m2 = W2 at *
        go_wp2_with fail
        refine (B1 _ h2).mono ?_
        rintro e W3 ⟨rfl, m3, rfl⟩
        have h3 := Box.drewN h2 m3
        have hb3 : Bel w (W2.drewN m3) := hb2.drewN m3
        generalize W2.drewN m3 = W3 at *
        go_wp2_with fail
        refine (letter_to c1 _ HB.out _).mono ?_
        rintro e W4 ⟨rfl, rfl⟩
        have c0 := Box.cell h3 0 _ rfl
        have c2 := Box.cell h3 2 _ rfl
        clear h1 h2
        go_wp2_with fail
        go_ret2
        exact ⟨by rw [HO.out]; rfl, hb3⟩
      | true =>
        have HB := Lib.hid hb
        have HO := Lib.hid (show o = some ((s.data.toList.drop k).dropWhile (fun c => !M.endB c)) by rw [← ho, hb]; rfl)
        clear ho hc0 hc1 hc2 hb
        rcases hir with ⟨hr, he⟩ | ⟨n, hr, he, hkn⟩
        · rw [hr] at hix
          have HX := Lib.hid hix
          have HE := Lib.hid he
          clear hix hr he
          skip
          go_enter Tryz.func166, Tryz.ntmps166
          go_wp2_with fail
          refine (B1 _ h).mono ?_
          rintro e W1 ⟨rfl, m1, rfl⟩
          have h1 := Box.drewN h m1
          have hb1 : Bel w (w.drewN m1) := (Bel.refl w).drewN m1
          generalize w.drewN m1 = W1 at *
          go_wp2_with fail
          refine (B0 _ h1).mono ?_
          rintro e W2 ⟨rfl, m2, rfl⟩
          have h2 := Box.drewN h1 m2
          have hb2 : Bel w (W1.drewN m2) := hb1.drewN m2
          generalize W1.drewN m2 = W2 at *
          go_wp2_with fail
          refine (B1 _ h2).mono ?_
          rintro e W3 ⟨rfl, m3, rfl⟩
          have h3 := Box.drewN h2 m3
          have hb3 : Bel w (W2.drewN m3) := hb2.drewN m3
          generalize W2.drewN m3 = W3 at *
          go_wp2_with fail
          refine (letter_to c1 _ HB.out _).mono ?_
          rintro e W4 ⟨rfl, rfl⟩
          have c0 := Box.cell h3 0 _ rfl
          have c2 := Box.cell h3 2 _ rfl
          clear h1 h2
          go_wp2_with fail
          go_region_with ((go_at_call 192; refine (ix_any s k _ HX.out _).mono ?_; rintro e W5 ⟨rfl, b5⟩))
          all_goals (
            have hb5 := (Bel.drew hb3).trans b5
            have h5 := Box.bel h3 ((Bel.drew (Bel.refl W4)).trans b5)
            have e0 := Box.cell h5 0 _ rfl
            have e2 := Box.cell h5 2 _ rfl
            go_wp2_with fail
            go_ret2
            exact ⟨by rw [HO.out, HE.out]; rfl, hb5⟩)
        · rw [hr] at hix
          have HX := Lib.hid hix
          have HE := Lib.hid he
          clear hix hr he
          skip
          go_enter Tryz.func166, Tryz.ntmps166
          go_wp2_with fail
          refine (B1 _ h).mono ?_
          rintro e W1 ⟨rfl, m1, rfl⟩
          have h1 := Box.drewN h m1
          have hb1 : Bel w (w.drewN m1) := (Bel.refl w).drewN m1
          generalize w.drewN m1 = W1 at *
          go_wp2_with fail
          refine (B0 _ h1).mono ?_
          rintro e W2 ⟨rfl, m2, rfl⟩
          have h2 := Box.drewN h1 m2
          have hb2 : Bel w (W1.drewN m2) := hb1.drewN m2
          generalize W1.drewN m2 = W2 at *
          go_wp2_with fail
          refine (B1 _ h2).mono ?_
          rintro e W3 ⟨rfl, m3, rfl⟩
          have h3 := Box.drewN h2 m3
          have hb3 : Bel w (W2.drewN m3) := hb2.drewN m3
          generalize W2.drewN m3 = W3 at *
          go_wp2_with fail
          refine (letter_to c1 _ HB.out _).mono ?_
          rintro e W4 ⟨rfl, rfl⟩
          have c0 := Box.cell h3 0 _ rfl
          have c2 := Box.cell h3 2 _ rfl
          clear h1 h2
          go_wp2_with fail
          go_region_with ((go_at_call 192; refine (ix_any s k _ HX.out _).mono ?_; rintro e W5 ⟨rfl, b5⟩))
          all_goals (
            have hb5 := (Bel.drew hb3).trans b5
            have h5 := Box.bel h3 ((Bel.drew (Bel.refl W4)).trans b5)
            have e0 := Box.cell h5 0 _ rfl
            have e2 := Box.cell h5 2 _ rfl
            go_wp2_with fail
            go_ret2
            exact ⟨by rw [HO.out, HE.out]; rfl, hb5⟩)
end Go.Proofs.YteingkjdemlhgaaGreatDoor

/-
  What a scan needs of attributes and of first bytes, in plain laws.
-/
namespace Go.Proofs.YteingkjdemlhgaaGreatDoor.M
open Go
theorem quotedA_val (q : UInt8) (t v : Bs) (h : (quotedA q t).1 = some v) : v.length ≤ t.length := by
  unfold quotedA at h
  split at h
  · cases h
  · injection h with h
    subst h
    exact (List.takeWhile_prefix (fun c => c != q) (l := t)).length_le
theorem valueA_val (l v : Bs) (h : (valueA l).1 = some v) : v.length ≤ l.length := by
  have h0 := (suf_dropWhile white l).len
  unfold valueA at h
  split at h
  · injection h with h
    subst h
    exact Nat.zero_le _
  · rename_i q t ht
    rw [ht, List.length_cons] at h0
    split at h
    · have := quotedA_val q t v h
      omega
    · injection h with h
      subst h
      have := (List.takeWhile_prefix valB (l := q :: t)).length_le
      rw [List.length_cons] at this
      omega
theorem nextA_val (l : Bs) (p : Bs × Bs) (r : Bs) (h : nextA l = (some p, r)) : p.2.length ≤ l.length := by
  have h0 := (suf_dropWhile skipB l).len
  unfold nextA at h
  split at h
  · cases h
  · rename_i c t hc
    rw [hc, List.length_cons] at h0
    split at h
    · cases h
    · have h2 := (suf_dropWhile white (t.dropWhile nameB)).len
      have h3 := (suf_dropWhile nameB t).len
      unfold afterA at h
      split at h
      · injection h with h _
        injection h with h
        subst h
        exact Nat.zero_le _
      · rename_i e u he
        rw [he, List.length_cons] at h2
        split at h
        · injection h with h _
          cases hv : (valueA u).1 with
          | none => rw [hv] at h; cases h
          | some v =>
            rw [hv] at h
            injection h with h
            subst h
            have := valueA_val u v hv
            show (fold v).length ≤ _
            rw [fold_len]
            omega
        · injection h with h _
          injection h with h
          subst h
          exact Nat.zero_le _
theorem attrsA_val : ∀ (k : Nat) (l : Bs), l.length ≤ k → ∀ p ∈ (attrsA l).1, p.2.length ≤ l.length
  | k, l, h => by
    cases hn : nextA l with
    | mk o r =>
      cases o with
      | none => rw [attrsA_none l r hn]; intro p hp; cases hp
      | some a =>
        have hl := nextA_less l a (by rw [hn])
        rw [hn] at hl
        simp only at hl
        match k, h with
        | 0, h => omega
        | k + 1, h =>
          have ih := attrsA_val k r (by omega)
          rw [attrsA_some l a r hn]
          intro p hp
          rcases List.mem_cons.1 hp with rfl | hp
          · exact nextA_val l _ r hn
          · have := ih p hp; omega
theorem fold1_eq (x : UInt8) (hx : x.toNat < 65 ∨ (90 < x.toNat ∧ x.toNat < 97)) (c : UInt8) : fold1 c = x ↔ c = x := by
  rw [← UInt8.toNat_inj, ← UInt8.toNat_inj, fold1_nat]
  split <;> omega
theorem pre2_fold (x : UInt8) (hx : x.toNat < 65 ∨ (90 < x.toNat ∧ x.toNat < 97)) (l : Bs) : Lib.hasPrefix (fold l) [60, x] = Lib.hasPrefix l [60, x] := by
  have e1 := fold1_eq 60 (.inl (by decide))
  have e2 := fold1_eq x hx
  match l with
  | [] => rfl
  | [c] =>
    show ((60 == fold1 c) && false) = ((60 == c) && false)
    rw [Bool.and_false, Bool.and_false]
  | c :: d :: t =>
    show ((60 == fold1 c) && ((x == fold1 d) && true)) = ((60 == c) && ((x == d) && true))
    have a1 : (60 == fold1 c) = (60 == c) := by rw [Bool.eq_iff_iff, beq_iff_eq, beq_iff_eq]; exact ⟨fun h => ((e1 c).1 h.symm).symm, fun h => ((e1 c).2 h.symm).symm⟩
    have a2 : (x == fold1 d) = (x == d) := by rw [Bool.eq_iff_iff, beq_iff_eq, beq_iff_eq]; exact ⟨fun h => ((e2 d).1 h.symm).symm, fun h => ((e2 d).2 h.symm).symm⟩
    rw [a1, a2]
theorem nameEnd_suf (l e : Bs) (h : nameEnd l = some e) : Suf e l := by
  unfold nameEnd at h
  split at h
  · split at h
    · injection h with h
      subst h
      exact suf_dropWhile _ _
    · cases h
  · cases h
end Go.Proofs.YteingkjdemlhgaaGreatDoor.M

/-
  Package scan: the looker's step.
-/
namespace Go.Proofs.YteingkjdemlhgaaGreatDoor
open Go.RowKit
set_option maxRecDepth 1000000
set_option maxHeartbeats 4000000
theorem pre_roomS (l sub : List UInt8) (h : Lib.hasPrefix (M.fold l) sub = true) (hs : sub ≠ []) : sub.length ≤ l.length := by
  have h1 : Lib.occAt (M.fold l) sub 0 = true := h
  rcases Lib.occAt_room h1 with h2 | h2
  · rw [M.fold_len] at h2
    omega
  · exact absurd h2 hs
theorem byteN_slash (l : List UInt8) : M.slashW (l.drop 5) = (M.white (byteN l 5) || (((byteN l 5).toNat : Int) == 47)) := by
  have e : byteN l 5 = (((l.drop 5).head?).map M.fold1).getD 0 := by
    unfold byteN M.fold
    rw [List.head?_drop, List.getElem?_map]
  rw [e]
  cases l.drop 5 with
  | nil => decide
  | cons c t =>
    show M.skipB c = (M.white (M.fold1 c) || (((M.fold1 c).toNat : Int) == 47))
    have hw : M.white (M.fold1 c) = M.white c := by
      rw [M.white_nat, M.white_nat, Bool.eq_iff_iff, decide_eq_true_eq, decide_eq_true_eq, M.fold1_nat]
      split <;> omega
    rw [hw, M.skipB]
    congr 1
    rw [Bool.eq_iff_iff, decide_eq_true_eq, beq_iff_eq, ← fold1_47]
    omega
theorem Len.bes {g : Nat} {w w' : World} {s low : ByteArray} {k : Nat} (hL : Len w) (h : Lk w g s low k) (hb : Bes g w w') : Len w' := by
  obtain ⟨m, hm⟩ := hL
  have hg : 0 ≠ g := by
    rintro rfl
    have := Box.cell h 0 _ rfl
    rw [hm] at this
    cases this
  refine ⟨m, ?_⟩
  have hlt := World.block_lt_of_cell? w _ hm
  have hblk := hb.block _ hlt hg
  unfold World.cell? at hm ⊢
  rw [hblk]
  exact hm
theorem step_any (g : Nat) (s low : ByteArray) (k : Nat) (w : World) (h : Lk w g s low k) (hl : Low s low) (hk : k ≤ s.size) (hlt : k < s.size) (hs : s.size ≤ 3000) (hL : Len w) (n : Int) (t : List UInt8) (hst : M.stepS (s.data.toList.drop k) = (n, t)) : Calls Tryz.prog 142 #[.pointer (some ⟨g, 0, none⟩)] w fun e w' => e = .returned (.int .i64 n) ∧ (∃ k', k' ≤ s.size ∧ Lk w' g s low k' ∧ s.data.toList.drop k' = t) ∧ Bes g w w' := by
  have h0 := h
  obtain ⟨o, ho⟩ : ∃ o, M.nameEnd (s.data.toList.drop k) = o := ⟨_, rfl⟩
  have NM := Lib.hid (fun W hW => named_any g s low k W hW hl hk hs o ho)
  obtain ⟨c5, hc5⟩ : ∃ c, byteN (s.data.toList.drop k) 5 = c := ⟨_, rfl⟩
  have B5 : ∀ W, Lk W g s low k → Calls Tryz.prog 169 #[.pointer (some ⟨g, 0, none⟩), .int .i64 5] W fun e w' => e = .returned (.int .u8 (c5.toNat : Int)) ∧ ∃ m, w' = W.drewN m := fun W hW => by
    have := byteAt_any g s low k 5 W hW hl hk hs (by decide)
    rw [hc5] at this
    exact this
  have G5 := Lib.hid B5
  obtain ⟨b1, hb1⟩ : ∃ b, Lib.hasPrefix (M.fold (s.data.toList.drop k)) M.openS = b := ⟨_, rfl⟩
  have B1 := fun W hW => begins_any g s low ⟨#[60, 33, 45, 45]⟩ k W hW hl hk
  rw [show (⟨#[60, 33, 45, 45]⟩ : ByteArray).data.toList = M.openS from rfl, hb1] at B1
  have G1 := Lib.hid B1
  obtain ⟨b2, hb2⟩ : ∃ b, Lib.hasPrefix (M.fold (s.data.toList.drop k)) M.metaS = b := ⟨_, rfl⟩
  have B2 := fun W hW => begins_any g s low ⟨#[60, 109, 101, 116, 97]⟩ k W hW hl hk
  rw [show (⟨#[60, 109, 101, 116, 97]⟩ : ByteArray).data.toList = M.metaS from rfl, hb2] at B2
  have G2 := Lib.hid B2
  obtain ⟨b3, hb3⟩ : ∃ b, Lib.hasPrefix (M.fold (s.data.toList.drop k)) [60, 33] = b := ⟨_, rfl⟩
  have B3 := fun W hW => begins_any g s low ⟨#[60, 33]⟩ k W hW hl hk
  rw [show (⟨#[60, 33]⟩ : ByteArray).data.toList = [60, 33] from rfl, hb3] at B3
  have G3 := Lib.hid B3
  obtain ⟨b4, hb4⟩ : ∃ b, Lib.hasPrefix (M.fold (s.data.toList.drop k)) [60, 47] = b := ⟨_, rfl⟩
  have B4 := fun W hW => begins_any g s low ⟨#[60, 47]⟩ k W hW hl hk
  rw [show (⟨#[60, 47]⟩ : ByteArray).data.toList = [60, 47] from rfl, hb4] at B4
  have G4 := Lib.hid B4
  obtain ⟨b6, hb6⟩ : ∃ b, Lib.hasPrefix (M.fold (s.data.toList.drop k)) [60, 63] = b := ⟨_, rfl⟩
  have B6 := fun W hW => begins_any g s low ⟨#[60, 63]⟩ k W hW hl hk
  rw [show (⟨#[60, 63]⟩ : ByteArray).data.toList = [60, 63] from rfl, hb6] at B6
  have G6 := Lib.hid B6
  rw [M.pre2_fold _ (by decide)] at hb3 hb4 hb6
  have HST := Lib.hid hst
  unfold M.stepS at hst
  rw [byteN_slash, hc5, ho, hb1, hb2, hb3, hb4, hb6] at hst
  have hroom1 := pre_roomS (s.data.toList.drop k) M.openS
  rw [hb1, List.length_drop, ← Lib.size_eq, show M.openS.length = 4 from rfl] at hroom1
  have hroom2 := pre_roomS (s.data.toList.drop k) M.metaS
  rw [hb2, List.length_drop, ← Lib.size_eq, show M.metaS.length = 5 from rfl] at hroom2
  clear hc5 hb1 hb2 hb3 hb4 hb6 HST B5 B1 B2 B3 B4 B6
  cases b1 with
  | true =>
    have hr4 := hroom1 rfl (by decide)
    rw [if_pos rfl] at hst
    injection hst with e1 e2
    subst e1
    have HE := Lib.hid e2
    clear e2 hroom1 hroom2 ho
    go_enter Tryz.func142, Tryz.ntmps142
    go_wp2_with fail
    refine (NM.out _ h).mono ?_
    rintro e W1 ⟨rfl, b1⟩
    have h := Box.bel h b1
    have hB : Bes g w W1 := Bes.of_bel b1
    clear b1
    go_wp2_with fail
    refine (G1.out _ h).mono ?_
    rintro e W2 ⟨rfl, m, rfl⟩
    have h := Box.drewN h m
    have hB := hB.trans (Bes.of_bel ((Bel.refl W1).drewN m))
    generalize World.drewN W1 m = W2 at h hB ⊢
    go_wp2_with fail
    refine (to_any g s low ⟨#[45, 45, 62]⟩ k 2 _ h hl (by omega) hs (by decide) (by decide) (by decide) (Len.bes hL h0 hB)).mono ?_
    rintro e W9 ⟨rfl, ⟨k', hk', h9, hd⟩, hB9⟩
    go_wp2_with fail
    go_ret
    exact ⟨rfl, ⟨k', hk', h9, by rw [hd, ← HE.out]; first | rfl | (rw [List.drop_drop]; rfl)⟩, hB.trans hB9⟩
  | false =>
    rw [if_neg (by decide)] at hst
    cases b2 with
    | false =>
      rw [if_neg (by rintro ⟨h9, _⟩; cases h9)] at hst
      cases o with
      | some en =>
        have hsuf := M.nameEnd_suf _ _ ho
        have hd0 := M.Suf.at (M.Suf.trans (a := en) hsuf (M.Suf.drop s.data.toList k))
        rw [← Lib.size_eq] at hd0
        obtain ⟨xs, r, hn⟩ : ∃ xs r, M.attrsA en = (xs, r) := ⟨_, _, rfl⟩
        have hst : ((0 : Int), (M.attrsA en).2.drop 1) = (n, t) := hst
        rw [hn] at hst
        rw [hd0] at hn
        have T := fun W hW => tag_any g s low k (s.size - en.length) W hW (by omega) hs xs r hn
        rw [show ((s.size - en.length : Nat) : Int) = endOf s (some en) from rfl] at T
        have TG := Lib.hid T
        clear T hn hd0 hsuf
        injection hst with e1 e2
        subst e1
        have HE := Lib.hid e2
        clear e2 hroom1 hroom2 ho
        have ho9 : (some en).isSome = true := rfl
        go_enter Tryz.func142, Tryz.ntmps142
        go_wp2_with fail
        refine (NM.out _ h).mono ?_
        rintro e W1 ⟨rfl, b1⟩
        have h := Box.bel h b1
        have hB : Bes g w W1 := Bes.of_bel b1
        clear b1
        go_wp2_with fail
        refine (G1.out _ h).mono ?_
        rintro e W2 ⟨rfl, m, rfl⟩
        have h := Box.drewN h m
        have hB := hB.trans (Bes.of_bel ((Bel.refl W1).drewN m))
        generalize World.drewN W1 m = W2 at h hB ⊢
        go_wp2_with fail
        refine (G2.out _ h).mono ?_
        rintro e W3 ⟨rfl, m, rfl⟩
        have h := Box.drewN h m
        have hB := hB.trans (Bes.of_bel ((Bel.refl W2).drewN m))
        generalize World.drewN W2 m = W3 at h hB ⊢
        go_wp2_with fail
        refine (TG.out _ h).mono ?_
        rintro e W9 ⟨v, rfl, hsl, ⟨k', hk', h9, hd⟩, hB9⟩
        go_wp2_with fail
        go_ret
        exact ⟨rfl, ⟨k', hk', h9, hd.trans HE.out⟩, hB.trans hB9⟩
      | none =>
        have ho9 : (none : Option (List UInt8)).isSome = false := rfl
        have hst : (if b3 = true ∨ b4 = true ∨ b6 = true then ((0 : Int), M.behindF [62] (s.data.toList.drop k)) else (0, (s.data.toList.drop k).drop 1)) = (n, t) := hst
        cases b3 with
        | true =>
          rw [if_pos (.inl rfl)] at hst
          injection hst with e1 e2
          subst e1
          have HE := Lib.hid e2
          clear e2 hroom1 hroom2 ho
          go_enter Tryz.func142, Tryz.ntmps142
          go_wp2_with fail
          refine (NM.out _ h).mono ?_
          rintro e W1 ⟨rfl, b1⟩
          have h := Box.bel h b1
          have hB : Bes g w W1 := Bes.of_bel b1
          clear b1
          go_wp2_with fail
          refine (G1.out _ h).mono ?_
          rintro e W2 ⟨rfl, m, rfl⟩
          have h := Box.drewN h m
          have hB := hB.trans (Bes.of_bel ((Bel.refl W1).drewN m))
          generalize World.drewN W1 m = W2 at h hB ⊢
          go_wp2_with fail
          refine (G2.out _ h).mono ?_
          rintro e W3 ⟨rfl, m, rfl⟩
          have h := Box.drewN h m
          have hB := hB.trans (Bes.of_bel ((Bel.refl W2).drewN m))
          generalize World.drewN W2 m = W3 at h hB ⊢
          go_wp2_with fail
          refine (G3.out _ h).mono ?_
          rintro e W20 ⟨rfl, m, rfl⟩
          have h := Box.drewN h m
          have hB := hB.trans (Bes.of_bel ((Bel.refl W3).drewN m))
          generalize World.drewN W3 m = W20 at h hB ⊢
          go_wp2_with fail
          refine (to_any g s low ⟨#[62]⟩ k 0 _ h hl (by omega) hs (by decide) (by decide) (by decide) (Len.bes hL h0 hB)).mono ?_
          rintro e W9 ⟨rfl, ⟨k', hk', h9, hd⟩, hB9⟩
          go_wp2_with fail
          go_ret
          exact ⟨rfl, ⟨k', hk', h9, by rw [hd, ← HE.out]; first | rfl | (rw [List.drop_drop]; rfl)⟩, hB.trans hB9⟩
        | false =>
          cases b4 with
          | true =>
            rw [if_pos (.inr (.inl rfl))] at hst
            injection hst with e1 e2
            subst e1
            have HE := Lib.hid e2
            clear e2 hroom1 hroom2 ho
            go_enter Tryz.func142, Tryz.ntmps142
            go_wp2_with fail
            refine (NM.out _ h).mono ?_
            rintro e W1 ⟨rfl, b1⟩
            have h := Box.bel h b1
            have hB : Bes g w W1 := Bes.of_bel b1
            clear b1
            go_wp2_with fail
            refine (G1.out _ h).mono ?_
            rintro e W2 ⟨rfl, m, rfl⟩
            have h := Box.drewN h m
            have hB := hB.trans (Bes.of_bel ((Bel.refl W1).drewN m))
            generalize World.drewN W1 m = W2 at h hB ⊢
            go_wp2_with fail
            refine (G2.out _ h).mono ?_
            rintro e W3 ⟨rfl, m, rfl⟩
            have h := Box.drewN h m
            have hB := hB.trans (Bes.of_bel ((Bel.refl W2).drewN m))
            generalize World.drewN W2 m = W3 at h hB ⊢
            go_wp2_with fail
            refine (G3.out _ h).mono ?_
            rintro e W20 ⟨rfl, m, rfl⟩
            have h := Box.drewN h m
            have hB := hB.trans (Bes.of_bel ((Bel.refl W3).drewN m))
            generalize World.drewN W3 m = W20 at h hB ⊢
            go_wp2_with fail
            refine (G4.out _ h).mono ?_
            rintro e W21 ⟨rfl, m, rfl⟩
            have h := Box.drewN h m
            have hB := hB.trans (Bes.of_bel ((Bel.refl W20).drewN m))
            generalize World.drewN W20 m = W21 at h hB ⊢
            go_wp2_with fail
            refine (to_any g s low ⟨#[62]⟩ k 0 _ h hl (by omega) hs (by decide) (by decide) (by decide) (Len.bes hL h0 hB)).mono ?_
            rintro e W9 ⟨rfl, ⟨k', hk', h9, hd⟩, hB9⟩
            go_wp2_with fail
            go_ret
            exact ⟨rfl, ⟨k', hk', h9, by rw [hd, ← HE.out]; first | rfl | (rw [List.drop_drop]; rfl)⟩, hB.trans hB9⟩
          | false =>
            cases b6 with
            | true =>
              rw [if_pos (.inr (.inr rfl))] at hst
              injection hst with e1 e2
              subst e1
              have HE := Lib.hid e2
              clear e2 hroom1 hroom2 ho
              go_enter Tryz.func142, Tryz.ntmps142
              go_wp2_with fail
              refine (NM.out _ h).mono ?_
              rintro e W1 ⟨rfl, b1⟩
              have h := Box.bel h b1
              have hB : Bes g w W1 := Bes.of_bel b1
              clear b1
              go_wp2_with fail
              refine (G1.out _ h).mono ?_
              rintro e W2 ⟨rfl, m, rfl⟩
              have h := Box.drewN h m
              have hB := hB.trans (Bes.of_bel ((Bel.refl W1).drewN m))
              generalize World.drewN W1 m = W2 at h hB ⊢
              go_wp2_with fail
              refine (G2.out _ h).mono ?_
              rintro e W3 ⟨rfl, m, rfl⟩
              have h := Box.drewN h m
              have hB := hB.trans (Bes.of_bel ((Bel.refl W2).drewN m))
              generalize World.drewN W2 m = W3 at h hB ⊢
              go_wp2_with fail
              refine (G3.out _ h).mono ?_
              rintro e W20 ⟨rfl, m, rfl⟩
              have h := Box.drewN h m
              have hB := hB.trans (Bes.of_bel ((Bel.refl W3).drewN m))
              generalize World.drewN W3 m = W20 at h hB ⊢
              go_wp2_with fail
              refine (G4.out _ h).mono ?_
              rintro e W21 ⟨rfl, m, rfl⟩
              have h := Box.drewN h m
              have hB := hB.trans (Bes.of_bel ((Bel.refl W20).drewN m))
              generalize World.drewN W20 m = W21 at h hB ⊢
              go_wp2_with fail
              refine (G6.out _ h).mono ?_
              rintro e W22 ⟨rfl, m, rfl⟩
              have h := Box.drewN h m
              have hB := hB.trans (Bes.of_bel ((Bel.refl W21).drewN m))
              generalize World.drewN W21 m = W22 at h hB ⊢
              go_wp2_with fail
              refine (to_any g s low ⟨#[62]⟩ k 0 _ h hl (by omega) hs (by decide) (by decide) (by decide) (Len.bes hL h0 hB)).mono ?_
              rintro e W9 ⟨rfl, ⟨k', hk', h9, hd⟩, hB9⟩
              go_wp2_with fail
              go_ret
              exact ⟨rfl, ⟨k', hk', h9, by rw [hd, ← HE.out]; first | rfl | (rw [List.drop_drop]; rfl)⟩, hB.trans hB9⟩
            | false =>
              rw [if_neg (by decide)] at hst
              injection hst with e1 e2
              subst e1
              have HE := Lib.hid e2
              clear e2 hroom1 hroom2 ho
              go_enter Tryz.func142, Tryz.ntmps142
              go_wp2_with fail
              refine (NM.out _ h).mono ?_
              rintro e W1 ⟨rfl, b1⟩
              have h := Box.bel h b1
              have hB : Bes g w W1 := Bes.of_bel b1
              clear b1
              go_wp2_with fail
              refine (G1.out _ h).mono ?_
              rintro e W2 ⟨rfl, m, rfl⟩
              have h := Box.drewN h m
              have hB := hB.trans (Bes.of_bel ((Bel.refl W1).drewN m))
              generalize World.drewN W1 m = W2 at h hB ⊢
              go_wp2_with fail
              refine (G2.out _ h).mono ?_
              rintro e W3 ⟨rfl, m, rfl⟩
              have h := Box.drewN h m
              have hB := hB.trans (Bes.of_bel ((Bel.refl W2).drewN m))
              generalize World.drewN W2 m = W3 at h hB ⊢
              go_wp2_with fail
              refine (G3.out _ h).mono ?_
              rintro e W20 ⟨rfl, m, rfl⟩
              have h := Box.drewN h m
              have hB := hB.trans (Bes.of_bel ((Bel.refl W3).drewN m))
              generalize World.drewN W3 m = W20 at h hB ⊢
              go_wp2_with fail
              refine (G4.out _ h).mono ?_
              rintro e W21 ⟨rfl, m, rfl⟩
              have h := Box.drewN h m
              have hB := hB.trans (Bes.of_bel ((Bel.refl W20).drewN m))
              generalize World.drewN W20 m = W21 at h hB ⊢
              go_wp2_with fail
              refine (G6.out _ h).mono ?_
              rintro e W22 ⟨rfl, m, rfl⟩
              have h := Box.drewN h m
              have hB := hB.trans (Bes.of_bel ((Bel.refl W21).drewN m))
              generalize World.drewN W21 m = W22 at h hB ⊢
              have c2 := Box.cell h 2 _ rfl
              have f2 := Box.frozen h 2
              go_wp2_with fail
              go_ret
              exact ⟨rfl, ⟨k + 1, by omega, by rw [show (k : Int) + 1 = ((k + 1 : Nat) : Int) by omega]; exact Lk.move h (k + 1), by rw [← HE.out, List.drop_drop]⟩, hB.setCell 2 _⟩
    | true =>
      cases hw : M.white c5 with
      | true =>
        rw [if_pos ⟨rfl, by rw [hw]; rfl⟩] at hst
        have HW := Lib.hid hw
        clear hw
        have hr5 := hroom2 rfl (by decide)
        obtain ⟨xs, r, hn⟩ : ∃ xs r, M.attrsA ((s.data.toList.drop k).drop 5) = (xs, r) := ⟨_, _, rfl⟩
        rw [hn] at hst
        rw [List.drop_drop] at hn
        have hshort : ShortV xs := fun q hq => by have h9 := M.attrsA_val _ (s.data.toList.drop (k + 5)) (Nat.le_refl _) q (by rw [hn]; exact hq); rw [List.length_drop, ← Lib.size_eq] at h9; omega
        have T := fun W hW => tag_any g s low k (k + 5) W hW (by omega) hs xs r hn
        rw [show ((k + 5 : Nat) : Int) = (k : Int) + 5 by omega] at T
        have TG := Lib.hid T
        clear T hn
        injection hst with e1 e2
        subst e1
        have HE := Lib.hid e2
        clear e2 hroom1 hroom2 ho
        go_enter Tryz.func142, Tryz.ntmps142
        go_wp2_with fail
        refine (NM.out _ h).mono ?_
        rintro e W1 ⟨rfl, b1⟩
        have h := Box.bel h b1
        have hB : Bes g w W1 := Bes.of_bel b1
        clear b1
        go_wp2_with fail
        refine (G1.out _ h).mono ?_
        rintro e W2 ⟨rfl, m, rfl⟩
        have h := Box.drewN h m
        have hB := hB.trans (Bes.of_bel ((Bel.refl W1).drewN m))
        generalize World.drewN W1 m = W2 at h hB ⊢
        go_wp2_with fail
        refine (G2.out _ h).mono ?_
        rintro e W3 ⟨rfl, m, rfl⟩
        have h := Box.drewN h m
        have hB := hB.trans (Bes.of_bel ((Bel.refl W2).drewN m))
        generalize World.drewN W2 m = W3 at h hB ⊢
        go_wp2_with fail
        refine (G5.out _ h).mono ?_
        rintro e W4 ⟨rfl, m, rfl⟩
        have h := Box.drewN h m
        have hB := hB.trans (Bes.of_bel ((Bel.refl W3).drewN m))
        generalize World.drewN W3 m = W4 at h hB ⊢
        have c2 := Box.cell h 2 _ rfl
        go_wp2_with fail
        refine (white_to c5 _ HW.out _).mono ?_
        rintro e W' ⟨rfl, hW'⟩
        have hW' := hW'.symm
        subst hW'
        go_wp2_with fail
        refine (TG.out _ h).mono ?_
        rintro e W9 ⟨v, rfl, hsl, ⟨k', hk', h9, hd⟩, hB9⟩
        have hB9 := hB.trans hB9
        have hL9 := Len.bes hL h0 hB9
        go_wp2_with fail
        refine (metaS_any v xs W9 hsl hshort hL9).mono ?_
        rintro e W10 ⟨rfl, b10⟩
        go_wp2_with fail
        go_ret
        exact ⟨rfl, ⟨k', hk', Lk.bel h9 b10, hd.trans HE.out⟩, hB9.trans (Bes.of_bel b10)⟩
      | false =>
        have HW := Lib.hid hw
        cases h47 : ((c5.toNat : Int) == 47) with
        | true =>
          rw [if_pos ⟨rfl, by rw [hw, h47]; rfl⟩] at hst
          clear hw
          have hr5 := hroom2 rfl (by decide)
          obtain ⟨xs, r, hn⟩ : ∃ xs r, M.attrsA ((s.data.toList.drop k).drop 5) = (xs, r) := ⟨_, _, rfl⟩
          rw [hn] at hst
          rw [List.drop_drop] at hn
          have hshort : ShortV xs := fun q hq => by have h9 := M.attrsA_val _ (s.data.toList.drop (k + 5)) (Nat.le_refl _) q (by rw [hn]; exact hq); rw [List.length_drop, ← Lib.size_eq] at h9; omega
          have T := fun W hW => tag_any g s low k (k + 5) W hW (by omega) hs xs r hn
          rw [show ((k + 5 : Nat) : Int) = (k : Int) + 5 by omega] at T
          have TG := Lib.hid T
          clear T hn
          injection hst with e1 e2
          subst e1
          have HE := Lib.hid e2
          clear e2 hroom1 hroom2 ho
          go_enter Tryz.func142, Tryz.ntmps142
          go_wp2_with fail
          refine (NM.out _ h).mono ?_
          rintro e W1 ⟨rfl, b1⟩
          have h := Box.bel h b1
          have hB : Bes g w W1 := Bes.of_bel b1
          clear b1
          go_wp2_with fail
          refine (G1.out _ h).mono ?_
          rintro e W2 ⟨rfl, m, rfl⟩
          have h := Box.drewN h m
          have hB := hB.trans (Bes.of_bel ((Bel.refl W1).drewN m))
          generalize World.drewN W1 m = W2 at h hB ⊢
          go_wp2_with fail
          refine (G2.out _ h).mono ?_
          rintro e W3 ⟨rfl, m, rfl⟩
          have h := Box.drewN h m
          have hB := hB.trans (Bes.of_bel ((Bel.refl W2).drewN m))
          generalize World.drewN W2 m = W3 at h hB ⊢
          go_wp2_with fail
          refine (G5.out _ h).mono ?_
          rintro e W4 ⟨rfl, m, rfl⟩
          have h := Box.drewN h m
          have hB := hB.trans (Bes.of_bel ((Bel.refl W3).drewN m))
          generalize World.drewN W3 m = W4 at h hB ⊢
          go_wp2_with fail
          refine (white_to c5 _ HW.out _).mono ?_
          rintro e W' ⟨rfl, hW'⟩
          have hW' := hW'.symm
          subst hW'
          go_wp2_with fail
          refine (G5.out _ h).mono ?_
          rintro e W5 ⟨rfl, m, rfl⟩
          have h := Box.drewN h m
          have hB := hB.trans (Bes.of_bel ((Bel.refl W4).drewN m))
          generalize World.drewN W4 m = W5 at h hB ⊢
          have c2 := Box.cell h 2 _ rfl
          go_wp2_with fail
          refine (TG.out _ h).mono ?_
          rintro e W9 ⟨v, rfl, hsl, ⟨k', hk', h9, hd⟩, hB9⟩
          have hB9 := hB.trans hB9
          have hL9 := Len.bes hL h0 hB9
          go_wp2_with fail
          refine (metaS_any v xs W9 hsl hshort hL9).mono ?_
          rintro e W10 ⟨rfl, b10⟩
          go_wp2_with fail
          go_ret
          exact ⟨rfl, ⟨k', hk', Lk.bel h9 b10, hd.trans HE.out⟩, hB9.trans (Bes.of_bel b10)⟩
        | false =>
          rw [if_neg (by rintro ⟨_, h9⟩; rw [hw, h47] at h9; cases h9)] at hst
          clear hw
          cases o with
          | some en =>
            have hsuf := M.nameEnd_suf _ _ ho
            have hd0 := M.Suf.at (M.Suf.trans (a := en) hsuf (M.Suf.drop s.data.toList k))
            rw [← Lib.size_eq] at hd0
            obtain ⟨xs, r, hn⟩ : ∃ xs r, M.attrsA en = (xs, r) := ⟨_, _, rfl⟩
            have hst : ((0 : Int), (M.attrsA en).2.drop 1) = (n, t) := hst
            rw [hn] at hst
            rw [hd0] at hn
            have T := fun W hW => tag_any g s low k (s.size - en.length) W hW (by omega) hs xs r hn
            rw [show ((s.size - en.length : Nat) : Int) = endOf s (some en) from rfl] at T
            have TG := Lib.hid T
            clear T hn hd0 hsuf
            injection hst with e1 e2
            subst e1
            have HE := Lib.hid e2
            clear e2 hroom1 hroom2 ho
            have ho9 : (some en).isSome = true := rfl
            go_enter Tryz.func142, Tryz.ntmps142
            go_wp2_with fail
            refine (NM.out _ h).mono ?_
            rintro e W1 ⟨rfl, b1⟩
            have h := Box.bel h b1
            have hB : Bes g w W1 := Bes.of_bel b1
            clear b1
            go_wp2_with fail
            refine (G1.out _ h).mono ?_
            rintro e W2 ⟨rfl, m, rfl⟩
            have h := Box.drewN h m
            have hB := hB.trans (Bes.of_bel ((Bel.refl W1).drewN m))
            generalize World.drewN W1 m = W2 at h hB ⊢
            go_wp2_with fail
            refine (G2.out _ h).mono ?_
            rintro e W3 ⟨rfl, m, rfl⟩
            have h := Box.drewN h m
            have hB := hB.trans (Bes.of_bel ((Bel.refl W2).drewN m))
            generalize World.drewN W2 m = W3 at h hB ⊢
            go_wp2_with fail
            refine (G5.out _ h).mono ?_
            rintro e W4 ⟨rfl, m, rfl⟩
            have h := Box.drewN h m
            have hB := hB.trans (Bes.of_bel ((Bel.refl W3).drewN m))
            generalize World.drewN W3 m = W4 at h hB ⊢
            go_wp2_with fail
            refine (white_to c5 _ HW.out _).mono ?_
            rintro e W' ⟨rfl, hW'⟩
            have hW' := hW'.symm
            subst hW'
            go_wp2_with fail
            refine (G5.out _ h).mono ?_
            rintro e W5 ⟨rfl, m, rfl⟩
            have h := Box.drewN h m
            have hB := hB.trans (Bes.of_bel ((Bel.refl W4).drewN m))
            generalize World.drewN W4 m = W5 at h hB ⊢
            have c2 := Box.cell h 2 _ rfl
            go_wp2_with fail
            refine (TG.out _ h).mono ?_
            rintro e W9 ⟨v, rfl, hsl, ⟨k', hk', h9, hd⟩, hB9⟩
            go_wp2_with fail
            go_ret
            exact ⟨rfl, ⟨k', hk', h9, hd.trans HE.out⟩, hB.trans hB9⟩
          | none =>
            have ho9 : (none : Option (List UInt8)).isSome = false := rfl
            have hst : (if b3 = true ∨ b4 = true ∨ b6 = true then ((0 : Int), M.behindF [62] (s.data.toList.drop k)) else (0, (s.data.toList.drop k).drop 1)) = (n, t) := hst
            cases b3 with
            | true =>
              rw [if_pos (.inl rfl)] at hst
              injection hst with e1 e2
              subst e1
              have HE := Lib.hid e2
              clear e2 hroom1 hroom2 ho
              go_enter Tryz.func142, Tryz.ntmps142
              go_wp2_with fail
              refine (NM.out _ h).mono ?_
              rintro e W1 ⟨rfl, b1⟩
              have h := Box.bel h b1
              have hB : Bes g w W1 := Bes.of_bel b1
              clear b1
              go_wp2_with fail
              refine (G1.out _ h).mono ?_
              rintro e W2 ⟨rfl, m, rfl⟩
              have h := Box.drewN h m
              have hB := hB.trans (Bes.of_bel ((Bel.refl W1).drewN m))
              generalize World.drewN W1 m = W2 at h hB ⊢
              go_wp2_with fail
              refine (G2.out _ h).mono ?_
              rintro e W3 ⟨rfl, m, rfl⟩
              have h := Box.drewN h m
              have hB := hB.trans (Bes.of_bel ((Bel.refl W2).drewN m))
              generalize World.drewN W2 m = W3 at h hB ⊢
              go_wp2_with fail
              refine (G5.out _ h).mono ?_
              rintro e W4 ⟨rfl, m, rfl⟩
              have h := Box.drewN h m
              have hB := hB.trans (Bes.of_bel ((Bel.refl W3).drewN m))
              generalize World.drewN W3 m = W4 at h hB ⊢
              go_wp2_with fail
              refine (white_to c5 _ HW.out _).mono ?_
              rintro e W' ⟨rfl, hW'⟩
              have hW' := hW'.symm
              subst hW'
              go_wp2_with fail
              refine (G5.out _ h).mono ?_
              rintro e W5 ⟨rfl, m, rfl⟩
              have h := Box.drewN h m
              have hB := hB.trans (Bes.of_bel ((Bel.refl W4).drewN m))
              generalize World.drewN W4 m = W5 at h hB ⊢
              have c2 := Box.cell h 2 _ rfl
              go_wp2_with fail
              refine (G3.out _ h).mono ?_
              rintro e W20 ⟨rfl, m, rfl⟩
              have h := Box.drewN h m
              have hB := hB.trans (Bes.of_bel ((Bel.refl W5).drewN m))
              generalize World.drewN W5 m = W20 at h hB ⊢
              go_wp2_with fail
              refine (to_any g s low ⟨#[62]⟩ k 0 _ h hl (by omega) hs (by decide) (by decide) (by decide) (Len.bes hL h0 hB)).mono ?_
              rintro e W9 ⟨rfl, ⟨k', hk', h9, hd⟩, hB9⟩
              go_wp2_with fail
              go_ret
              exact ⟨rfl, ⟨k', hk', h9, by rw [hd, ← HE.out]; first | rfl | (rw [List.drop_drop]; rfl)⟩, hB.trans hB9⟩
            | false =>
              cases b4 with
              | true =>
                rw [if_pos (.inr (.inl rfl))] at hst
                injection hst with e1 e2
                subst e1
                have HE := Lib.hid e2
                clear e2 hroom1 hroom2 ho
                go_enter Tryz.func142, Tryz.ntmps142
                go_wp2_with fail
                refine (NM.out _ h).mono ?_
                rintro e W1 ⟨rfl, b1⟩
                have h := Box.bel h b1
                have hB : Bes g w W1 := Bes.of_bel b1
                clear b1
                go_wp2_with fail
                refine (G1.out _ h).mono ?_
                rintro e W2 ⟨rfl, m, rfl⟩
                have h := Box.drewN h m
                have hB := hB.trans (Bes.of_bel ((Bel.refl W1).drewN m))
                generalize World.drewN W1 m = W2 at h hB ⊢
                go_wp2_with fail
                refine (G2.out _ h).mono ?_
                rintro e W3 ⟨rfl, m, rfl⟩
                have h := Box.drewN h m
                have hB := hB.trans (Bes.of_bel ((Bel.refl W2).drewN m))
                generalize World.drewN W2 m = W3 at h hB ⊢
                go_wp2_with fail
                refine (G5.out _ h).mono ?_
                rintro e W4 ⟨rfl, m, rfl⟩
                have h := Box.drewN h m
                have hB := hB.trans (Bes.of_bel ((Bel.refl W3).drewN m))
                generalize World.drewN W3 m = W4 at h hB ⊢
                go_wp2_with fail
                refine (white_to c5 _ HW.out _).mono ?_
                rintro e W' ⟨rfl, hW'⟩
                have hW' := hW'.symm
                subst hW'
                go_wp2_with fail
                refine (G5.out _ h).mono ?_
                rintro e W5 ⟨rfl, m, rfl⟩
                have h := Box.drewN h m
                have hB := hB.trans (Bes.of_bel ((Bel.refl W4).drewN m))
                generalize World.drewN W4 m = W5 at h hB ⊢
                have c2 := Box.cell h 2 _ rfl
                go_wp2_with fail
                refine (G3.out _ h).mono ?_
                rintro e W20 ⟨rfl, m, rfl⟩
                have h := Box.drewN h m
                have hB := hB.trans (Bes.of_bel ((Bel.refl W5).drewN m))
                generalize World.drewN W5 m = W20 at h hB ⊢
                go_wp2_with fail
                refine (G4.out _ h).mono ?_
                rintro e W21 ⟨rfl, m, rfl⟩
                have h := Box.drewN h m
                have hB := hB.trans (Bes.of_bel ((Bel.refl W20).drewN m))
                generalize World.drewN W20 m = W21 at h hB ⊢
                go_wp2_with fail
                refine (to_any g s low ⟨#[62]⟩ k 0 _ h hl (by omega) hs (by decide) (by decide) (by decide) (Len.bes hL h0 hB)).mono ?_
                rintro e W9 ⟨rfl, ⟨k', hk', h9, hd⟩, hB9⟩
                go_wp2_with fail
                go_ret
                exact ⟨rfl, ⟨k', hk', h9, by rw [hd, ← HE.out]; first | rfl | (rw [List.drop_drop]; rfl)⟩, hB.trans hB9⟩
              | false =>
                cases b6 with
                | true =>
                  rw [if_pos (.inr (.inr rfl))] at hst
                  injection hst with e1 e2
                  subst e1
                  have HE := Lib.hid e2
                  clear e2 hroom1 hroom2 ho
                  go_enter Tryz.func142, Tryz.ntmps142
                  go_wp2_with fail
                  refine (NM.out _ h).mono ?_
                  rintro e W1 ⟨rfl, b1⟩
                  have h := Box.bel h b1
                  have hB : Bes g w W1 := Bes.of_bel b1
                  clear b1
                  go_wp2_with fail
                  refine (G1.out _ h).mono ?_
                  rintro e W2 ⟨rfl, m, rfl⟩
                  have h := Box.drewN h m
                  have hB := hB.trans (Bes.of_bel ((Bel.refl W1).drewN m))
                  generalize World.drewN W1 m = W2 at h hB ⊢
                  go_wp2_with fail
                  refine (G2.out _ h).mono ?_
                  rintro e W3 ⟨rfl, m, rfl⟩
                  have h := Box.drewN h m
                  have hB := hB.trans (Bes.of_bel ((Bel.refl W2).drewN m))
                  generalize World.drewN W2 m = W3 at h hB ⊢
                  go_wp2_with fail
                  refine (G5.out _ h).mono ?_
                  rintro e W4 ⟨rfl, m, rfl⟩
                  have h := Box.drewN h m
                  have hB := hB.trans (Bes.of_bel ((Bel.refl W3).drewN m))
                  generalize World.drewN W3 m = W4 at h hB ⊢
                  go_wp2_with fail
                  refine (white_to c5 _ HW.out _).mono ?_
                  rintro e W' ⟨rfl, hW'⟩
                  have hW' := hW'.symm
                  subst hW'
                  go_wp2_with fail
                  refine (G5.out _ h).mono ?_
                  rintro e W5 ⟨rfl, m, rfl⟩
                  have h := Box.drewN h m
                  have hB := hB.trans (Bes.of_bel ((Bel.refl W4).drewN m))
                  generalize World.drewN W4 m = W5 at h hB ⊢
                  have c2 := Box.cell h 2 _ rfl
                  go_wp2_with fail
                  refine (G3.out _ h).mono ?_
                  rintro e W20 ⟨rfl, m, rfl⟩
                  have h := Box.drewN h m
                  have hB := hB.trans (Bes.of_bel ((Bel.refl W5).drewN m))
                  generalize World.drewN W5 m = W20 at h hB ⊢
                  go_wp2_with fail
                  refine (G4.out _ h).mono ?_
                  rintro e W21 ⟨rfl, m, rfl⟩
                  have h := Box.drewN h m
                  have hB := hB.trans (Bes.of_bel ((Bel.refl W20).drewN m))
                  generalize World.drewN W20 m = W21 at h hB ⊢
                  go_wp2_with fail
                  refine (G6.out _ h).mono ?_
                  rintro e W22 ⟨rfl, m, rfl⟩
                  have h := Box.drewN h m
                  have hB := hB.trans (Bes.of_bel ((Bel.refl W21).drewN m))
                  generalize World.drewN W21 m = W22 at h hB ⊢
                  go_wp2_with fail
                  refine (to_any g s low ⟨#[62]⟩ k 0 _ h hl (by omega) hs (by decide) (by decide) (by decide) (Len.bes hL h0 hB)).mono ?_
                  rintro e W9 ⟨rfl, ⟨k', hk', h9, hd⟩, hB9⟩
                  go_wp2_with fail
                  go_ret
                  exact ⟨rfl, ⟨k', hk', h9, by rw [hd, ← HE.out]; first | rfl | (rw [List.drop_drop]; rfl)⟩, hB.trans hB9⟩
                | false =>
                  rw [if_neg (by decide)] at hst
                  injection hst with e1 e2
                  subst e1
                  have HE := Lib.hid e2
                  clear e2 hroom1 hroom2 ho
                  go_enter Tryz.func142, Tryz.ntmps142
                  go_wp2_with fail
                  refine (NM.out _ h).mono ?_
                  rintro e W1 ⟨rfl, b1⟩
                  have h := Box.bel h b1
                  have hB : Bes g w W1 := Bes.of_bel b1
                  clear b1
                  go_wp2_with fail
                  refine (G1.out _ h).mono ?_
                  rintro e W2 ⟨rfl, m, rfl⟩
                  have h := Box.drewN h m
                  have hB := hB.trans (Bes.of_bel ((Bel.refl W1).drewN m))
                  generalize World.drewN W1 m = W2 at h hB ⊢
                  go_wp2_with fail
                  refine (G2.out _ h).mono ?_
                  rintro e W3 ⟨rfl, m, rfl⟩
                  have h := Box.drewN h m
                  have hB := hB.trans (Bes.of_bel ((Bel.refl W2).drewN m))
                  generalize World.drewN W2 m = W3 at h hB ⊢
                  go_wp2_with fail
                  refine (G5.out _ h).mono ?_
                  rintro e W4 ⟨rfl, m, rfl⟩
                  have h := Box.drewN h m
                  have hB := hB.trans (Bes.of_bel ((Bel.refl W3).drewN m))
                  generalize World.drewN W3 m = W4 at h hB ⊢
                  go_wp2_with fail
                  refine (white_to c5 _ HW.out _).mono ?_
                  rintro e W' ⟨rfl, hW'⟩
                  have hW' := hW'.symm
                  subst hW'
                  go_wp2_with fail
                  refine (G5.out _ h).mono ?_
                  rintro e W5 ⟨rfl, m, rfl⟩
                  have h := Box.drewN h m
                  have hB := hB.trans (Bes.of_bel ((Bel.refl W4).drewN m))
                  generalize World.drewN W4 m = W5 at h hB ⊢
                  have c2 := Box.cell h 2 _ rfl
                  go_wp2_with fail
                  refine (G3.out _ h).mono ?_
                  rintro e W20 ⟨rfl, m, rfl⟩
                  have h := Box.drewN h m
                  have hB := hB.trans (Bes.of_bel ((Bel.refl W5).drewN m))
                  generalize World.drewN W5 m = W20 at h hB ⊢
                  go_wp2_with fail
                  refine (G4.out _ h).mono ?_
                  rintro e W21 ⟨rfl, m, rfl⟩
                  have h := Box.drewN h m
                  have hB := hB.trans (Bes.of_bel ((Bel.refl W20).drewN m))
                  generalize World.drewN W20 m = W21 at h hB ⊢
                  go_wp2_with fail
                  refine (G6.out _ h).mono ?_
                  rintro e W22 ⟨rfl, m, rfl⟩
                  have h := Box.drewN h m
                  have hB := hB.trans (Bes.of_bel ((Bel.refl W21).drewN m))
                  generalize World.drewN W21 m = W22 at h hB ⊢
                  have c2 := Box.cell h 2 _ rfl
                  have f2 := Box.frozen h 2
                  go_wp2_with fail
                  go_ret
                  exact ⟨rfl, ⟨k + 1, by omega, by rw [show (k : Int) + 1 = ((k + 1 : Nat) : Int) by omega]; exact Lk.move h (k + 1), by rw [← HE.out, List.drop_drop]⟩, hB.setCell 2 _⟩
end Go.Proofs.YteingkjdemlhgaaGreatDoor

/-
  Package scan: Of, Scan.
-/
namespace Go.Proofs.YteingkjdemlhgaaGreatDoor
open Go.RowKit
set_option maxRecDepth 1000000
set_option maxHeartbeats 4000000
theorem scanOf_any (s : ByteArray) (hs : s.size ≤ 9000) (w : World) (hL : Len w) : Calls Tryz.prog 103 #[.string s] w fun e w' => e = .returned (.int .i64 (M.scanA s.data.toList)) ∧ Bel w w' := by
  obtain ⟨mn, hmn⟩ : ∃ mn : Nat, mn = min s.size 256 := ⟨_, rfl⟩
  have hmi : min (s.size : Int) 256 = (mn : Int) := by omega
  have hms : mn ≤ s.size := by omega
  have hbd : (0 : Int) ≤ (mn : Int) ∧ (mn : Int) ≤ (s.size : Int) := by omega
  obtain ⟨u, hu⟩ : ∃ u : ByteArray, s.extract 0 mn = u := ⟨_, rfl⟩
  have hul : u.data.toList = s.data.toList.take 256 := by
    rw [← hu, Lib.extract_data, List.drop_zero, Nat.sub_zero, hmn, Lib.size_eq]
    by_cases h9 : s.data.toList.length ≤ 256
    · rw [Nat.min_eq_left h9, List.take_length, List.take_of_length_le h9]
    · rw [Nat.min_eq_right (by omega)]
  have hus : u.size ≤ 256 := by rw [Lib.size_eq, hul, List.length_take]; omega
  have HA := Lib.hid (show M.scanA s.data.toList = M.scan0 u.data.toList by rw [M.scanA, hul])
  clear hul hmn
  go_enter Tryz.func103, Tryz.ntmps103
  go_wp2_with fail
  clear hu hmi hbd
  refine (folded_any u w (by omega)).mono ?_
  rintro e W0 ⟨rfl, b0⟩
  obtain ⟨low, hlow⟩ : ∃ low : ByteArray, low = ⟨(M.fold u.data.toList).toArray⟩ := ⟨_, rfl⟩
  have hl : Low u low := by rw [hlow, Low]
  rw [← hlow]
  clear hlow
  go_wp2_with fail
  have hr1 : Lk (W0.alloc (.cells #[.string u, .string low, .int .i64 0] 171)) W0.heap.size u low 0 := Box.new W0 171 [.string u, .string low, .int .i64 0]
  have hb2 := b0.alloc (.cells #[.string u, .string low, .int .i64 0] 171)
  have hgs := b0.size
  generalize (W0.alloc (.cells #[.string u, .string low, .int .i64 0] 171)) = W1 at *
  generalize W0.heap.size = g at *
  go_loopg [4] (u.size + 1) (fun gg _ wr => ∃ (j : Nat), j ≤ u.size ∧ u.size - j ≤ gg ∧ Lk wr g u low j ∧ Bel w wr ∧ Hid (M.scanA s.data.toList = M.scan0 (u.data.toList.drop j)))
  case atStart => exact ⟨0, by omega, by omega, hr1, hb2, HA⟩
  case round =>
    clear hr1 hb2
    obtain ⟨j, hj, hg, hr, hb, HJ⟩ := hrel
    have c2 := Box.cell hr 2 _ rfl
    by_cases hlt : j < u.size
    · obtain ⟨n, t, hst⟩ : ∃ n t, M.stepS (u.data.toList.drop j) = (n, t) := ⟨_, _, rfl⟩
      have st := step_any g u low j wr hr hl hj hlt (by omega) (hL.bel hb) n t hst
      obtain ⟨c, l, hcl⟩ : ∃ c l, u.data.toList.drop j = c :: l := by
        cases hd : u.data.toList.drop j with
        | nil =>
          have := congrArg List.length hd
          rw [List.length_drop, ← Lib.size_eq, List.length_nil] at this
          omega
        | cons c l => exact ⟨c, l, rfl⟩
      have hless := M.stepS_less c l
      rw [← hcl, hst, List.length_drop, ← Lib.size_eq] at hless
      have hless : t.length < u.size - j := hless
      have hsc := M.scan0_cons c l
      rw [← hcl, hst] at hsc
      have hs2 : M.scan0 (u.data.toList.drop j) = if n = 0 then M.scan0 t else n := hsc
      clear hst hcl hsc
      by_cases hn : n = 0
      · rw [if_pos hn] at hs2
        subst hn
        have HR := Lib.hid (HJ.out.trans hs2)
        clear hs2 HJ
        go_wp2_with fail
        refine st.mono ?_
        rintro e W2 ⟨rfl, ⟨k', hk', hr2, hd⟩, hB⟩
        have hlen := congrArg List.length hd
        rw [List.length_drop, ← Lib.size_eq] at hlen
        have HD := Lib.hid hd
        clear hd
        go_wp2_with fail
        go_roundg (u.size - k')
        case measure => omega
        case rel => exact ⟨k', hk', Nat.le_refl _, hr2, hB.bel hb hgs, Lib.hid (by rw [HR.out, HD.out])⟩
      · rw [if_neg hn] at hs2
        have HR := Lib.hid (HJ.out.trans hs2)
        have hn9 : (n == 0) = false := by simp [hn]
        clear hs2 HJ hn
        go_wp2_with fail
        refine st.mono ?_
        rintro e W2 ⟨rfl, ⟨k', hk', hr2, hd⟩, hB⟩
        clear hd
        go_wp2_with fail
        go_ret
        exact ⟨by rw [HR.out]; rfl, hB.bel hb hgs⟩
    · obtain rfl : j = u.size := by omega
      have HR := Lib.hid (show M.scanA s.data.toList = 0 by rw [HJ.out, List.drop_eq_nil_of_le (by rw [← Lib.size_eq]; exact Nat.le_refl _)]; rfl)
      go_wp2_with fail
      go_ret
      exact ⟨by rw [HR.out]; rfl, hb⟩
end Go.Proofs.YteingkjdemlhgaaGreatDoor

/-
  Package mark: what Sniff, May, Ahead and Put compute.
-/
namespace Go.Proofs.YteingkjdemlhgaaGreatDoor
open Go.RowKit
theorem litePrefix (s p : ByteArray) (w : World) : Calls Tryz.prog 100 #[.string s, .string p] w fun e w' => e = .returned (.bool (Lib.hasPrefix s.data.toList p.data.toList)) ∧ w = w' := by
  have H := Lib.hid (Lib.hasPrefix_raw s p)
  by_cases h : p.size ≤ s.size
  · go_enter Tryz.func100, Tryz.ntmps100
    go_wp2
    go_ret
    refine ⟨?_, rfl⟩
    rw [← H.out]; simp [h]
  · go_enter Tryz.func100, Tryz.ntmps100
    go_wp2
    go_ret
    refine ⟨?_, rfl⟩
    rw [← H.out]; simp [h]
theorem hasPrefix_any (s p : ByteArray) (w : World) : Calls Tryz.prog 69 #[.string s, .string p] w fun e w' => e = .returned (.bool (Lib.hasPrefix s.data.toList p.data.toList)) ∧ w = w' := by
  go_enter Tryz.func69, Tryz.ntmps69
  go_wp2_with (go_at_call 100; refine (litePrefix _ _ _).mono ?_; rintro e w' ⟨rfl, rfl⟩)
  go_ret
  exact ⟨rfl, rfl⟩
theorem marks_any (w : World) : Calls Tryz.prog 68 #[] w fun e w' => e = .returned (.slice (some ⟨w.heap.size, 0, none⟩) 3 3) ∧ w.alloc (.cells #[.int .i64 1, .string ⟨#[239, 187, 191]⟩, .int .i64 3, .string ⟨#[254, 255]⟩, .int .i64 2, .string ⟨#[255, 254]⟩] 108) = w' := by
  go_enter Tryz.func68, Tryz.ntmps68
  go_wp2
  go_ret
  exact ⟨rfl, rfl⟩
theorem sniff_any (s : ByteArray) (w : World) : Calls Tryz.prog 36 #[.string s] w fun e w' => e = .returned (.tuple #[.int .i64 (M.sniff s.data.toList).1, .int .i64 (M.sniff s.data.toList).2]) ∧ Bel w w' := by
  go_enter Tryz.func36, Tryz.ntmps36
  go_wp2_with (first | (go_at_call 68; refine (marks_any _).mono ?_; rintro e w' ⟨rfl, rfl⟩) | (go_at_call 69; refine (hasPrefix_any _ _ _).mono ?_; rintro e w' ⟨rfl, rfl⟩))
  refine wp_loop_rounds 4 ?_
  rw [rounds_succ]
  go_wp2_with (first | (go_at_call 68; refine (marks_any _).mono ?_; rintro e w' ⟨rfl, rfl⟩) | (go_at_call 69; refine (hasPrefix_any _ _ _).mono ?_; rintro e w' ⟨rfl, rfl⟩))
  all_goals try (rw [rounds_succ]; go_wp2_with (first | (go_at_call 68; refine (marks_any _).mono ?_; rintro e w' ⟨rfl, rfl⟩) | (go_at_call 69; refine (hasPrefix_any _ _ _).mono ?_; rintro e w' ⟨rfl, rfl⟩)))
  all_goals try (rw [rounds_succ]; go_wp2_with (first | (go_at_call 68; refine (marks_any _).mono ?_; rintro e w' ⟨rfl, rfl⟩) | (go_at_call 69; refine (hasPrefix_any _ _ _).mono ?_; rintro e w' ⟨rfl, rfl⟩)))
  all_goals try (rw [rounds_succ]; go_wp2_with (first | (go_at_call 68; refine (marks_any _).mono ?_; rintro e w' ⟨rfl, rfl⟩) | (go_at_call 69; refine (hasPrefix_any _ _ _).mono ?_; rintro e w' ⟨rfl, rfl⟩)))
  all_goals try (go_quiet (fail); go_wp2)
  all_goals go_ret2
  all_goals refine ⟨?_, (by repeat (first | exact Bel.refl _ | refine Bel.drewN ?_ _ | refine Bel.drew ?_ | refine Bel.alloc ?_ _ | refine Bel.trans ?_ (by assumption) | refine Bel.setCell ?_ (by simp; omega) _))⟩
  all_goals simp [M.sniff, *]
theorem ahead_any (n : Int) (w : World) : Calls Tryz.prog 64 #[.int .i64 n] w fun e w' => e = .returned (.string ⟨(M.markOf n).toArray⟩) ∧ Bel w w' := by
  go_enter Tryz.func64, Tryz.ntmps64
  go_wp2_with (first | (go_at_call 68; refine (marks_any _).mono ?_; rintro e w' ⟨rfl, rfl⟩) | (go_at_call 69; refine (hasPrefix_any _ _ _).mono ?_; rintro e w' ⟨rfl, rfl⟩))
  refine wp_loop_rounds 4 ?_
  rw [rounds_succ]
  go_wp2_with (first | (go_at_call 68; refine (marks_any _).mono ?_; rintro e w' ⟨rfl, rfl⟩) | (go_at_call 69; refine (hasPrefix_any _ _ _).mono ?_; rintro e w' ⟨rfl, rfl⟩))
  all_goals try (rw [rounds_succ]; go_wp2_with (first | (go_at_call 68; refine (marks_any _).mono ?_; rintro e w' ⟨rfl, rfl⟩) | (go_at_call 69; refine (hasPrefix_any _ _ _).mono ?_; rintro e w' ⟨rfl, rfl⟩)))
  all_goals try (rw [rounds_succ]; go_wp2_with (first | (go_at_call 68; refine (marks_any _).mono ?_; rintro e w' ⟨rfl, rfl⟩) | (go_at_call 69; refine (hasPrefix_any _ _ _).mono ?_; rintro e w' ⟨rfl, rfl⟩)))
  all_goals try (rw [rounds_succ]; go_wp2_with (first | (go_at_call 68; refine (marks_any _).mono ?_; rintro e w' ⟨rfl, rfl⟩) | (go_at_call 69; refine (hasPrefix_any _ _ _).mono ?_; rintro e w' ⟨rfl, rfl⟩)))
  all_goals go_ret
  all_goals refine ⟨?_, (by repeat (first | exact Bel.refl _ | refine Bel.drewN ?_ _ | refine Bel.drew ?_ | refine Bel.alloc ?_ _ | refine Bel.trans ?_ (by assumption) | refine Bel.setCell ?_ (by simp; omega) _))⟩
  all_goals simp_all [M.markOf]
end Go.Proofs.YteingkjdemlhgaaGreatDoor

/-
  Package front: chosen, Choose, Begin, enough.
-/
namespace Go.Proofs.YteingkjdemlhgaaGreatDoor
open Go.RowKit
set_option maxRecDepth 1000000
set_option maxHeartbeats 2000000
theorem sniffF_to (s : ByteArray) (n k : Int) (h : M.sniff s.data.toList = (n, k)) (w : World) : Calls Tryz.prog 36 #[.string s] w fun e w' => e = .returned (.tuple #[.int .i64 n, .int .i64 k]) ∧ Bel w w' := by
  have := sniff_any s w; rw [h] at this; exact this
theorem ofF_to (s : ByteArray) (n : Int) (h : M.find s.data.toList = n) (hs : s.size ≤ 68719476735) (w : World) : Calls Tryz.prog 102 #[.string s] w fun e w' => e = .returned (.int .i64 n) ∧ Bel w w' := by
  have := of_any s w hs; rw [h] at this; exact this
theorem scanF_to (s : ByteArray) (n : Int) (h : M.scanA s.data.toList = n) (hs : s.size ≤ 9000) (w : World) (hL : Len w) : Calls Tryz.prog 103 #[.string s] w fun e w' => e = .returned (.int .i64 n) ∧ Bel w w' := by
  have := scanOf_any s hs w hL; rw [h] at this; exact this
theorem chosen_to (nm s : ByteArray) (n y k : Int) (h : M.chosen nm.data.toList s.data.toList = (n, y, k)) (hn : nm.size ≤ 68719476735) (hs : s.size ≤ 9000) (w : World) (hL : Len w) : Calls Tryz.prog 71 #[.string nm, .string s] w fun e w' => e = .returned (.tuple #[.int .i64 n, .int .i64 y, .int .i64 k]) ∧ Bel w w' := by
  obtain ⟨a, b, hsn⟩ : ∃ a b, M.sniff s.data.toList = (a, b) := ⟨_, _, rfl⟩
  have HSN := Lib.hid hsn
  obtain ⟨f, hf⟩ : ∃ f, M.find nm.data.toList = f := ⟨_, rfl⟩
  have HF := Lib.hid hf
  obtain ⟨m, hm⟩ : ∃ m, M.scanA s.data.toList = m := ⟨_, rfl⟩
  have HM := Lib.hid hm
  rw [M.chosen, hsn, hf, hm] at h
  simp only at h
  by_cases h1 : a = 0
  · rw [if_neg (by simp [h1])] at h
    by_cases h2 : f = 0
    · rw [if_neg (by simp [h2])] at h
      by_cases h3 : m = 0
      · rw [if_neg (by simp [h3])] at h
        simp only [Prod.mk.injEq] at h
        obtain ⟨rfl, rfl, rfl⟩ := h
        subst h1; subst h2; subst h3
        clear hsn hf hm
        go_enter Tryz.func71, Tryz.ntmps71
        go_wp2_with fail
        refine (sniffF_to s _ _ HSN.out _).mono ?_
        rintro e w1 ⟨rfl, b1⟩
        go_wp2_with fail
        refine (ofF_to nm _ HF.out hn _).mono ?_
        rintro e w2 ⟨rfl, b2⟩
        have b2 := b1.trans b2
        go_wp2_with fail
        refine (scanF_to s _ HM.out hs _ (hL.bel b2)).mono ?_
        rintro e w3 ⟨rfl, b3⟩
        have b3 := b2.trans b3
        go_wp2_with fail
        refine bodyPost_ret (v := .tuple #[.int .i64 4, .int .i64 4, .int .i64 0]) (by simp [results, Tryz.results71, go_sem]) rfl ?_
        exact ⟨rfl, b3⟩
      · rw [if_pos h3] at h
        simp only [Prod.mk.injEq] at h
        obtain ⟨rfl, rfl, rfl⟩ := h
        subst h1; subst h2
        have g3 : (m != 0) = true := by simpa using h3
        clear hsn hf hm h3
        go_enter Tryz.func71, Tryz.ntmps71
        go_wp2_with fail
        refine (sniffF_to s _ _ HSN.out _).mono ?_
        rintro e w1 ⟨rfl, b1⟩
        go_wp2_with fail
        refine (ofF_to nm _ HF.out hn _).mono ?_
        rintro e w2 ⟨rfl, b2⟩
        have b2 := b1.trans b2
        go_wp2_with fail
        refine (scanF_to s _ HM.out hs _ (hL.bel b2)).mono ?_
        rintro e w3 ⟨rfl, b3⟩
        have b3 := b2.trans b3
        go_wp2_with fail
        refine bodyPost_ret (v := .tuple #[.int .i64 m, .int .i64 3, .int .i64 0]) (by simp [results, Tryz.results71, go_sem]) rfl ?_
        exact ⟨rfl, b3⟩
    · rw [if_pos h2] at h
      simp only [Prod.mk.injEq] at h
      obtain ⟨rfl, rfl, rfl⟩ := h
      subst h1
      have g2 : (f != 0) = true := by simpa using h2
      clear hsn hf hm h2
      go_enter Tryz.func71, Tryz.ntmps71
      go_wp2_with fail
      refine (sniffF_to s _ _ HSN.out _).mono ?_
      rintro e w1 ⟨rfl, b1⟩
      go_wp2_with fail
      refine (ofF_to nm _ HF.out hn _).mono ?_
      rintro e w2 ⟨rfl, b2⟩
      have b2 := b1.trans b2
      go_wp2_with fail
      refine bodyPost_ret (v := .tuple #[.int .i64 f, .int .i64 2, .int .i64 0]) (by simp [results, Tryz.results71, go_sem]) rfl ?_
      exact ⟨rfl, b2⟩
  · rw [if_pos h1] at h
    simp only [Prod.mk.injEq] at h
    obtain ⟨rfl, rfl, rfl⟩ := h
    have g1 : (a != 0) = true := by simpa using h1
    clear hsn hf hm h1
    go_enter Tryz.func71, Tryz.ntmps71
    go_wp2_with fail
    refine (sniffF_to s _ _ HSN.out _).mono ?_
    rintro e w1 ⟨rfl, b1⟩
    go_wp2_with fail
    refine bodyPost_ret (v := .tuple #[.int .i64 a, .int .i64 1, .int .i64 b]) (by simp [results, Tryz.results71, go_sem]) rfl ?_
    exact ⟨rfl, b1⟩
theorem longF_any (s : ByteArray) (w : World) : Calls Tryz.prog 38 #[.string s] w fun e w' => e = .returned (.bool (decide (3000 < s.size))) ∧ w = w' := by
  go_enter Tryz.func38, Tryz.ntmps38
  go_wp2
  all_goals go_ret
  all_goals exact ⟨by simp; omega, rfl⟩
theorem longF_to (s : ByteArray) (b : Bool) (h : decide (3000 < s.size) = b) (w : World) : Calls Tryz.prog 38 #[.string s] w fun e w' => e = .returned (.bool b) ∧ w = w' := by
  have := longF_any s w; rw [h] at this; exact this
theorem choose_to (nm s : ByteArray) (n y k x : Int) (h : M.chooseE nm.data.toList s.data.toList = (n, y, k, x)) (w : World) (hL : Len w) : Calls Tryz.prog 39 #[.string nm, .string s] w fun e w' => e = .returned (.tuple #[.int .i64 n, .int .i64 y, .int .i64 k, .int .i64 x]) ∧ Bel w w' := by
  rw [M.chooseE, ← Lib.size_eq, ← Lib.size_eq] at h
  by_cases h1 : 3000 < nm.size
  · rw [if_pos (.inl h1)] at h
    simp only [Prod.mk.injEq] at h
    obtain ⟨rfl, rfl, rfl, rfl⟩ := h
    have H1 := Lib.hid (decide_eq_true h1)
    clear h1
    go_enter Tryz.func39, Tryz.ntmps39
    go_wp2_with fail
    refine (longF_to nm _ H1.out _).mono ?_
    rintro e _ ⟨rfl, rfl⟩
    go_wp2_with fail
    refine bodyPost_ret (v := .tuple #[.int .i64 0, .int .i64 0, .int .i64 0, .int .i64 2]) (by simp [results, Tryz.results39, go_sem]) rfl ?_
    exact ⟨rfl, Bel.refl _⟩
  · have H1 := Lib.hid (decide_eq_false h1)
    have hn : nm.size ≤ 68719476735 := by omega
    by_cases h2 : 3000 < s.size
    · rw [if_pos (.inr h2)] at h
      simp only [Prod.mk.injEq] at h
      obtain ⟨rfl, rfl, rfl, rfl⟩ := h
      have H2 := Lib.hid (decide_eq_true h2)
      clear h1 h2
      go_enter Tryz.func39, Tryz.ntmps39
      go_wp2_with fail
      refine (longF_to nm _ H1.out _).mono ?_
      rintro e _ ⟨rfl, rfl⟩
      go_wp2_with fail
      refine (longF_to s _ H2.out _).mono ?_
      rintro e _ ⟨rfl, rfl⟩
      go_wp2_with fail
      refine bodyPost_ret (v := .tuple #[.int .i64 0, .int .i64 0, .int .i64 0, .int .i64 2]) (by simp [results, Tryz.results39, go_sem]) rfl ?_
      exact ⟨rfl, Bel.refl _⟩
    · rw [if_neg (fun h9 => h9.elim h1 h2)] at h
      have H2 := Lib.hid (decide_eq_false h2)
      have hs : s.size ≤ 9000 := by omega
      obtain ⟨n2, y2, k2, hc⟩ : ∃ n2 y2 k2, M.chosen nm.data.toList s.data.toList = (n2, y2, k2) := ⟨_, _, _, rfl⟩
      rw [hc] at h
      simp only [Prod.mk.injEq] at h
      obtain ⟨rfl, rfl, rfl, rfl⟩ := h
      have HC := Lib.hid hc
      clear h1 h2 hc
      go_enter Tryz.func39, Tryz.ntmps39
      go_wp2_with fail
      refine (longF_to nm _ H1.out _).mono ?_
      rintro e _ ⟨rfl, rfl⟩
      go_wp2_with fail
      refine (longF_to s _ H2.out _).mono ?_
      rintro e _ ⟨rfl, rfl⟩
      go_wp2_with fail
      refine (chosen_to nm s _ _ _ HC.out hn hs _ hL).mono ?_
      rintro e w1 ⟨rfl, b1⟩
      go_wp2_with fail
      refine bodyPost_ret (v := .tuple #[.int .i64 n2, .int .i64 y2, .int .i64 k2, .int .i64 0]) (by simp [results, Tryz.results39, go_sem]) rfl ?_
      exact ⟨rfl, b1⟩
theorem enough_to (nm s : ByteArray) (r : Bool) (h : M.enough nm.data.toList s.data.toList = r) (hn : nm.size ≤ 68719476735) (w : World) : Calls Tryz.prog 72 #[.string nm, .string s] w fun e w' => e = .returned (.bool r) ∧ Bel w w' := by
  obtain ⟨a, b, hsn⟩ : ∃ a b, M.sniff s.data.toList = (a, b) := ⟨_, _, rfl⟩
  have HSN := Lib.hid hsn
  obtain ⟨f, hf⟩ : ∃ f, M.find nm.data.toList = f := ⟨_, rfl⟩
  have HF := Lib.hid hf
  rw [M.enough, hsn, hf, ← Lib.size_eq] at h
  simp only at h
  by_cases h2 : f = 0
  · rw [if_neg (by simp [h2])] at h
    subst h2
    by_cases h1 : a = 0
    · have HR := Lib.hid (show r = decide (256 ≤ s.size) by rw [← h, decide_eq_false (by simp [h1])]; rfl)
      subst h1
      clear hsn hf h
      go_enter Tryz.func72, Tryz.ntmps72
      go_wp2_with fail
      refine (sniffF_to s _ _ HSN.out _).mono ?_
      rintro e w1 ⟨rfl, b1⟩
      go_wp2_with fail
      refine (ofF_to nm _ HF.out hn _).mono ?_
      rintro e w2 ⟨rfl, b2⟩
      have b2 := b1.trans b2
      go_wp2
      all_goals go_ret
      all_goals exact ⟨by rw [HR.out]; simp; omega, b2⟩
    · have HR := Lib.hid (show r = true by rw [← h, decide_eq_true h1]; rfl)
      have g1 : (a != 0) = true := by simpa using h1
      clear hsn hf h h1
      go_enter Tryz.func72, Tryz.ntmps72
      go_wp2_with fail
      refine (sniffF_to s _ _ HSN.out _).mono ?_
      rintro e w1 ⟨rfl, b1⟩
      go_wp2_with fail
      refine (ofF_to nm _ HF.out hn _).mono ?_
      rintro e w2 ⟨rfl, b2⟩
      have b2 := b1.trans b2
      go_wp2
      all_goals go_ret
      all_goals exact ⟨by rw [HR.out]; rfl, b2⟩
  · rw [if_pos h2] at h
    have g2 : (f != 0) = true := by simpa using h2
    by_cases h1 : a = 0
    · have HR := Lib.hid (show r = decide (3 ≤ s.size) by rw [← h, decide_eq_false (by simp [h1])]; rfl)
      subst h1
      clear hsn hf h h2
      go_enter Tryz.func72, Tryz.ntmps72
      go_wp2_with fail
      refine (sniffF_to s _ _ HSN.out _).mono ?_
      rintro e w1 ⟨rfl, b1⟩
      go_wp2_with fail
      refine (ofF_to nm _ HF.out hn _).mono ?_
      rintro e w2 ⟨rfl, b2⟩
      have b2 := b1.trans b2
      go_wp2
      all_goals go_ret
      all_goals exact ⟨by rw [HR.out]; simp; omega, b2⟩
    · have HR := Lib.hid (show r = true by rw [← h, decide_eq_true h1]; rfl)
      have g1 : (a != 0) = true := by simpa using h1
      clear hsn hf h h1 h2
      go_enter Tryz.func72, Tryz.ntmps72
      go_wp2_with fail
      refine (sniffF_to s _ _ HSN.out _).mono ?_
      rintro e w1 ⟨rfl, b1⟩
      go_wp2_with fail
      refine (ofF_to nm _ HF.out hn _).mono ?_
      rintro e w2 ⟨rfl, b2⟩
      have b2 := b1.trans b2
      go_wp2
      all_goals go_ret
      all_goals exact ⟨by rw [HR.out]; rfl, b2⟩
end Go.Proofs.YteingkjdemlhgaaGreatDoor

/-
  Small answers: is a number between two, is it an encoding, is a text too long.
-/
namespace Go.Proofs.YteingkjdemlhgaaGreatDoor
open Go.RowKit
theorem between_any (n a b : Int) (w : World) : Calls Tryz.prog 76 #[.int .i64 n, .int .i64 a, .int .i64 b] w fun e w' => e = .returned (.bool (decide (a ≤ n ∧ n ≤ b))) ∧ w = w' := by
  by_cases h : a ≤ n <;> by_cases h2 : n ≤ b
  all_goals
    go_enter Tryz.func76, Tryz.ntmps76
    go_wp2
    go_ret
    refine ⟨?_, rfl⟩
    simp
    omega
theorem isEncoding_any (n : Int) (w : World) : Calls Tryz.prog 46 #[.int .i64 n] w fun e w' => e = .returned (.bool (M.isEnc n)) ∧ w = w' := by
  have H := Lib.hid (show decide (1 ≤ n ∧ n ≤ 7) = M.isEnc n from rfl)
  go_enter Tryz.func46, Tryz.ntmps46
  go_wp2_with (go_at_call 76; refine (between_any _ _ _ _).mono ?_; rintro e w' ⟨rfl, rfl⟩)
  go_ret
  refine ⟨?_, rfl⟩
  rw [← H.out]
  exact ret_bool (by simp)
theorem tooLong_any (s : ByteArray) (w : World) : Calls Tryz.prog 20 #[.string s] w fun e w' => e = .returned (.int .i64 (M.long s.data.toList)) ∧ w = w' := by
  by_cases h : 3000 < s.size
  · have H := Lib.hid (show M.long s.data.toList = 2 by rw [M.long, if_pos (by rw [← Lib.size_eq]; exact h)])
    go_enter Tryz.func20, Tryz.ntmps20
    go_wp2
    go_ret
    exact ⟨by rw [H.out]; rfl, rfl⟩
  · have H := Lib.hid (show M.long s.data.toList = 0 by rw [M.long, if_neg (by rw [← Lib.size_eq]; exact h)])
    go_enter Tryz.func20, Tryz.ntmps20
    go_wp2
    go_ret
    exact ⟨by rw [H.out]; rfl, rfl⟩
end Go.Proofs.YteingkjdemlhgaaGreatDoor

/-
  The document's answers on labels: TrimOf, FoldOf, FindOf, NameOf.
-/
namespace Go.Proofs.YteingkjdemlhgaaGreatDoor
open Go.RowKit
set_option maxRecDepth 1000000
theorem trimL_cons (c : UInt8) (l : List UInt8) (h : M.white c = true) : M.trimL (c :: l) = M.trimL l := by
  rw [M.trimL, List.dropWhile_cons, if_pos h]; rfl
theorem trimR_snoc (c : UInt8) (l : List UInt8) (h : M.white c = true) : M.trimR (l ++ [c]) = M.trimR l := by
  rw [M.trimR, List.reverse_append, List.reverse_cons, List.reverse_nil, List.nil_append, List.singleton_append, List.dropWhile_cons, if_pos h]; rfl
theorem trimR_stop (c : UInt8) (l : List UInt8) (h : M.white c = false) : M.trimR (l ++ [c]) = l ++ [c] := by
  rw [M.trimR, List.reverse_append, List.reverse_cons, List.reverse_nil, List.nil_append, List.singleton_append, List.dropWhile_cons, if_neg (by rw [h]; decide), List.reverse_cons, List.reverse_reverse]
theorem take_str (s : ByteArray) (k : Nat) : (s.extract 0 k).data.toList = s.data.toList.take k := by
  rw [Lib.extract_data, List.drop_zero, Nat.sub_zero]
theorem snoc_of (u : ByteArray) (h : 0 < u.size) : u.data.toList = u.data.toList.take (u.size - 1) ++ [u[u.size - 1]] := by
  have e : u.size - 1 + 1 = u.data.toList.length := by rw [← Lib.size_eq]; omega
  have := List.take_add_one (l := u.data.toList) (i := u.size - 1)
  rw [e, List.take_length, byte_at u (u.size - 1) (by omega)] at this
  exact this
theorem M.trim_lr (l : List UInt8) : M.trim l = M.trimR (M.trimL l) := rfl
theorem trimOf_any (s : ByteArray) (w : World) (hs : s.size ≤ 68719476735) : Calls Tryz.prog 119 #[.string s] w fun e w' => e = .returned (.string ⟨(M.trim s.data.toList).toArray⟩) ∧ w = w' := by
  go_enter Tryz.func119, Tryz.ntmps119
  go_wp2_with fail
  go_loop [0] (fun v => ∃ t : ByteArray, v = .string t ∧ t.size ≤ s.size ∧ Hid (M.trimL t.data.toList = M.trimL s.data.toList)) (fun v => strLen v)
  case atStart => exact ⟨s, rfl, Nat.le_refl _, Lib.hid rfl⟩
  case round =>
    obtain ⟨t, rfl, ht, HT⟩ := hrel
    by_cases hlt : 0 < t.size
    · have HB := Lib.hid (byte_at t 0 hlt)
      have HS := Lib.hid (drop_size t 1)
      have HD := Lib.hid (drop_str t 1)
      cases hw : M.white t[0] with
      | true =>
        have HW := Lib.hid hw
        clear hw
        go_wp2_with (go_at_call 122; refine (isWhite_any _ _).mono ?_; rintro e w' ⟨rfl, rfl⟩; rw [HW.out])
        go_round
        case rel =>
          refine ⟨_, rfl, by rw [HS.out]; omega, Lib.hid ?_⟩
          rw [← HT.out, HD.out]
          cases hl : t.data.toList with
          | nil => rw [hl] at HB; cases HB.out
          | cons c l =>
            have h2 := HB.out
            rw [hl] at h2
            injection h2 with h2
            rw [trimL_cons c l (by rw [h2]; exact HW.out)]; rfl
        case measure => simp only [strLen, HS.out]; omega
      | false =>
        have HE := Lib.hid (show t.data.toList = M.trimL s.data.toList by
          rw [← HT.out, M.trimL_of_head]
          intro c hc
          have h2 := HB.out
          rw [List.head?_eq_getElem?, h2] at hc
          injection hc with hc
          rw [← hc]; exact hw)
        have HW := Lib.hid hw
        clear hw
        go_wp2_with (go_at_call 122; refine (isWhite_any _ _).mono ?_; rintro e w' ⟨rfl, rfl⟩; rw [HW.out])
        clear HB HS HD HT HW
        go_loop [0] (fun v => ∃ u : ByteArray, v = .string u ∧ u.size ≤ t.size ∧ Hid (M.trimR u.data.toList = M.trimR t.data.toList)) (fun v => strLen v)
        case atStart => exact ⟨t, rfl, Nat.le_refl _, Lib.hid rfl⟩
        case round =>
          obtain ⟨u, rfl, hu, HT⟩ := hrel
          by_cases hlt2 : 0 < u.size
          · have HB := Lib.hid (byte_at u (u.size - 1) (by omega))
            have hlast : ((u.size : Int) - 1).toNat = u.size - 1 := by omega
            cases hw : M.white (u[u.size - 1]'(by omega)) with
            | true =>
              have HW := Lib.hid hw
              clear hw
              go_wp2_with (go_at_call 122; refine (isWhite_any _ _).mono ?_; rintro e w' ⟨rfl, rfl⟩; rw [HW.out])
              go_round
              case rel =>
                refine ⟨_, rfl, ?_, Lib.hid ?_⟩
                · rw [Lib.size_eq, take_str, List.length_take, ← Lib.size_eq]; omega
                · rw [← HT.out, take_str]
                  have e := snoc_of u hlt2
                  conv => rhs; rw [e]
                  rw [trimR_snoc _ _ HW.out]
              case measure => simp only [strLen]; rw [Lib.size_eq, take_str, List.length_take, ← Lib.size_eq]; omega
            | false =>
              have HW := Lib.hid hw
              clear hw
              go_wp2_with (go_at_call 122; refine (isWhite_any _ _).mono ?_; rintro e w' ⟨rfl, rfl⟩; rw [HW.out])
              go_ret
              refine ⟨?_, rfl⟩
              rw [M.trim_lr, ← HE.out, ← HT.out]
              have e := snoc_of u hlt2
              rw [e, trimR_stop _ _ HW.out, ← e, str_eq]; rfl
          · have hz : u.data.toList = [] := by
              rw [← List.length_eq_zero_iff, ← Lib.size_eq]; omega
            have HZ := Lib.hid hz
            clear hz
            go_wp2_with fail
            go_ret
            refine ⟨?_, rfl⟩
            rw [M.trim_lr, ← HE.out, ← HT.out, HZ.out]
            have e : u = ⟨(M.trimR []).toArray⟩ := by rw [← str_eq u, HZ.out]; rfl
            rw [← e]; rfl
    · have hz : t.data.toList = [] := by
        rw [← List.length_eq_zero_iff, ← Lib.size_eq]; omega
      have HZ := Lib.hid hz
      clear hz
      go_wp2_with fail
      refine wp_loop_rounds 2 ?_
      rw [rounds_succ]
      go_wp2_with fail
      go_ret
      refine ⟨?_, rfl⟩
      rw [M.trim_lr, ← HT.out, HZ.out]
      have e : t = ⟨(M.trimR (M.trimL [])).toArray⟩ := by rw [← str_eq t, HZ.out]; rfl
      rw [← e]; rfl
theorem foldOf_any (s : ByteArray) (w : World) (hs : s.size ≤ 68719476735) : Calls Tryz.prog 118 #[.string s] w fun e w' => e = .returned (.string ⟨(M.fold s.data.toList).toArray⟩) ∧ Bel w w' := by
  have HL := Lib.hid (show (M.fold s.data.toList).length = s.size by rw [M.fold_len, ← Lib.size_eq])
  go_enter Tryz.func118, Tryz.ntmps118
  go_wp2_with fail
  go_loopw [3, 4] (fun v i wr => ∃ k : Nat, k ≤ s.size ∧ i = .int .i64 k ∧ Own w.heap.size 5 wr v (((M.fold s.data.toList).take k).map byteVal) ∧ Bel w wr) (fun _ i _ => s.size - (intOf i).toNat)
  case atStart => exact ⟨0, by omega, rfl, Own.nil _ _ _, Bel.refl _⟩
  case round =>
    obtain ⟨k, hk, rfl, hown, hb⟩ := hrel
    by_cases hlt : k < s.size
    · have HT := Lib.hid (take_snoc byteVal (M.fold s.data.toList) k (M.fold1 s[k]) (by unfold M.fold; rw [List.getElem?_map, byte_at s k hlt]; rfl))
      have hlen : ((M.fold s.data.toList).take k).length ≤ k := List.length_take_le _ _
      have hc0 : s[k].toNat < 256 := s[k].toNat_lt
      by_cases h1 : 65 ≤ s[k].toNat ∧ s[k].toNat ≤ 90
      · have HF := Lib.hid (show byteVal (M.fold1 s[k]) = .int .u8 ((s[k].toNat : Int) + 32) by
          rw [byteVal, M.fold1, if_pos h1, M.add32 s[k] h1]; rfl)
        have e1 : decide ((65 : Int) ≤ (s[k].toNat : Int) ∧ (s[k].toNat : Int) ≤ 90) = true := by rw [decide_eq_true_eq]; omega
        have h2 := h1.2
        go_wp2_with (first | (go_at_call 76; refine (between_any _ _ _ _).mono ?_; rintro e w' ⟨rfl, rfl⟩; rw [e1]) | (at_builtin; refine wpList_app rfl (.tmp 20) (.tmp 22) 120 rfl elemByte (by decide) w.heap.size _ _ _ rfl rfl hown rfl (by simp; omega) (by first | exact Nat.le_refl _ | assumption | (have := hb.size; omega)) ?_; intro v' w1 hown' hb1))
        go_roundw
        case rel => exact ⟨k + 1, by omega, by go_num, by rw [HT.out, HF.out]; exact hown', hb.upto hb1 (Nat.le_refl _)⟩
        case measure => simp [intOf]; omega
      · have HF := Lib.hid (show byteVal (M.fold1 s[k]) = .int .u8 (s[k].toNat : Int) by
          rw [byteVal, M.fold1, if_neg h1])
        have e1 : decide ((65 : Int) ≤ (s[k].toNat : Int) ∧ (s[k].toNat : Int) ≤ 90) = false := by rw [decide_eq_false_iff_not]; omega
        go_wp2_with (first | (go_at_call 76; refine (between_any _ _ _ _).mono ?_; rintro e w' ⟨rfl, rfl⟩; rw [e1]) | (at_builtin; refine wpList_app rfl (.tmp 20) (.tmp 22) 120 rfl elemByte (by decide) w.heap.size _ _ _ rfl rfl hown rfl (by simp; omega) (by first | exact Nat.le_refl _ | assumption | (have := hb.size; omega)) ?_; intro v' w1 hown' hb1))
        go_roundw
        case rel => exact ⟨k + 1, by omega, by go_num, by rw [HT.out, HF.out]; exact hown', hb.upto hb1 (Nat.le_refl _)⟩
        case measure => simp [intOf]; omega
    · obtain rfl : k = s.size := by omega
      have HT := Lib.hid (show (M.fold s.data.toList).take s.size = M.fold s.data.toList by rw [← HL.out, List.take_length])
      rw [HT.out] at hown
      go_wp2_with ((with_reducible show wpList _ _ _ _ _ _); refine wpList_toString rfl (.tmp 24) _ _ 5 rfl Tryz.underlying120 Tryz.underlying5 Tryz.underlying9 w.heap.size _ _ rfl hown ?_)
      go_ret
      exact ⟨rfl, hb⟩
theorem findOf_any (s : ByteArray) (w : World) (hs : s.size ≤ 68719476735) : Calls Tryz.prog 82 #[.string s] w fun e w' => e = .returned (.int .i64 (M.find s.data.toList)) ∧ Bel w w' := by
  have HF := Lib.hid (M.find_first (M.fold (M.trim s.data.toList)))
  have HN := Lib.hid (M.find_none (M.fold (M.trim s.data.toList)))
  have HL := Lib.hid (M.trim_len s.data.toList)
  have HS := Lib.hid (Lib.size_eq s)
  go_enter Tryz.func82, Tryz.ntmps82
  go_wp2_with (first | (go_at_call 120; refine (labels_any _).mono ?_; rintro e w' ⟨rfl, hc, b3, hg1⟩) | (go_at_call 119; refine (trimOf_any s _ (by omega)).mono ?_; rintro e w' ⟨rfl, rfl⟩) | (go_at_call 118; refine (foldOf_any _ _ (by rw [size_str]; have := HL.out; rw [← HS.out] at this; omega)).mono ?_; rintro e wA ⟨rfl, b1⟩))
  obtain ⟨z, hz⟩ : ∃ z : ByteArray, z = ⟨(M.fold (M.trim s.data.toList)).toArray⟩ := ⟨_, rfl⟩
  rw [← hz]
  have HZ := Lib.hid hz
  clear hz
  have HC := Lib.hid hc
  clear hc
  go_loop [4] (fun i => ∃ k : Nat, k ≤ 22 ∧ i = .int .i64 k ∧ Hid (∀ j, j < k → ((M.labelAt j).1 == M.fold (M.trim s.data.toList)) = false)) (fun i => 22 - (intOf i).toNat)
  case atStart => exact ⟨0, by omega, rfl, Lib.hid (fun j hj => by omega)⟩
  case round =>
    obtain ⟨k, hk, rfl, HNO⟩ := hrel
    by_cases hlt : k < 22
    · obtain ⟨c1, c2⟩ := HC.out k hlt
      rw [Nat.zero_add] at c1 c2
      have HA := Lib.hid (show ((⟨(M.labelAt k).1.toArray⟩ : ByteArray).toList == z.toList) = ((M.labelAt k).1 == M.fold (M.trim s.data.toList)) by
        rw [Lib.toList_data, HZ.out, Lib.toList_data])
      generalize (⟨(M.labelAt k).1.toArray⟩ : ByteArray) = a at c1 HA
      cases hq : ((M.labelAt k).1 == M.fold (M.trim s.data.toList)) with
      | true =>
        have ha : (a.toList == z.toList) = true := by rw [HA.out, hq]
        have HE := Lib.hid (HF.out k hlt hq HNO.out)
        clear hq
        go_wp2_with fail
        go_ret
        exact ⟨by rw [M.find, HE.out]; rfl, b1.trans b3⟩
      | false =>
        have ha : (a.toList == z.toList) = false := by rw [HA.out, hq]
        have HR := Lib.hid (show ∀ j, j < k + 1 → ((M.labelAt j).1 == M.fold (M.trim s.data.toList)) = false by
          intro j hj
          by_cases e : j = k
          · subst e; exact hq
          · exact HNO.out j (by omega))
        clear hq
        go_wp2_with fail
        go_round
        case rel => exact ⟨k + 1, by omega, by go_num, HR⟩
        case measure => simp [intOf]; omega
    · obtain rfl : k = 22 := by omega
      have HE := Lib.hid (HN.out HNO.out)
      go_wp2_with fail
      go_ret
      exact ⟨by rw [M.find, HE.out]; rfl, b1.trans b3⟩
end Go.Proofs.YteingkjdemlhgaaGreatDoor

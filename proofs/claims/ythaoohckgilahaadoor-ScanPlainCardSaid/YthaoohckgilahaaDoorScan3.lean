/-
  Package scan: letter, named.
-/
import Derived.Test.YthaoohckgilahaaDoorScan2
namespace Go.Proofs.YthaoohckgilahaaDoor
open Go.RowKit
set_option maxRecDepth 1000000
set_option maxHeartbeats 1000000

theorem letter_int (c : UInt8) : M.letterB c = (decide (97 ≤ (c.toNat : Int)) && decide ((c.toNat : Int) ≤ 122)) := by
  unfold M.letterB
  rw [Bool.eq_iff_iff]
  simp only [decide_eq_true_eq, Bool.and_eq_true]
  omega
theorem letter_to (c : UInt8) (b : Bool) (h : M.letterB c = b) (w : World) : Calls Tryd.prog 84 #[.int .u8 (c.toNat : Int)] w fun e w' => e = .returned (.bool b) ∧ w' = w := by
  rw [letter_int] at h
  have H := Lib.hid h
  clear h
  go_enter Tryd.func84, Tryd.ntmps84
  go_wp2
  · rename_i h9
    go_ret
    exact ⟨by rw [← H.out, decide_eq_true h9]; rfl, rfl⟩
  · rename_i h9
    go_ret
    exact ⟨by rw [← H.out, decide_eq_false (by omega)]; rfl, rfl⟩
/-- A rune that ends a name. -/
def endP (r : Nat) : Bool := if r < 128 then M.endB (UInt8.ofNat r) else false
theorem endP_byte (b : UInt8) (h : b.toNat < 128) : endP b.toNat = M.endB b := by
  rw [endP, if_pos h, UInt8.ofNat_toNat]
theorem endB_low (b : UInt8) (h : 128 ≤ b.toNat) : M.endB b = false := by
  unfold M.endB
  rw [Bool.or_eq_false_iff]
  constructor
  · rw [M.white_nat, decide_eq_false_iff_not]; omega
  · rw [decide_eq_false_iff_not]; rintro rfl; exact absurd h (by decide)
theorem named1_any (r : Nat) (hr : r ≤ 1114111) (w : World) : Calls Tryd.prog 86 #[.int .i32 (r : Int)] w fun e w' => e = .returned (.bool (endP r)) ∧ w' = w := by
  by_cases h128 : r < 128
  · obtain ⟨c, hc⟩ : ∃ c : UInt8, c.toNat = r := ⟨UInt8.ofNat r, by rw [UInt8.toNat_ofNat']; omega⟩
    subst hc
    have HP := Lib.hid (show endP c.toNat = (((c.toNat : Int) == 62) || M.white c) by
      rw [endP_byte c h128, M.endB, Bool.or_comm]
      congr 1
      rw [Bool.eq_iff_iff]
      simp only [decide_eq_true_eq, beq_iff_eq]
      rw [← UInt8.toNat_inj]
      show c.toNat = 62 ↔ _
      omega)
    obtain ⟨b, hb⟩ : ∃ b, M.white c = b := ⟨_, rfl⟩
    have HW := Lib.hid hb
    rw [hb] at HP
    clear hb
    have hl : decide ((c.toNat : Int) < 128) = true := by simp; omega
    go_enter Tryd.func86, Tryd.ntmps86
    go_wp2_with (go_at_call 45; refine (white_to c b HW.out _).mono ?_; rintro e w' ⟨rfl, rfl⟩)
    · rename_i h9
      go_ret
      exact ⟨by rw [HP.out, show ((c.toNat : Int) == 62) = true by simp [h9]]; rfl, rfl⟩
    · go_ret
      exact ⟨by rw [HP.out]; rfl, rfl⟩
  · have HP := Lib.hid (show endP r = false by rw [endP, if_neg h128])
    have h1 : ((r : Int) == 62) = false := by simp; omega
    have h2 : decide ((r : Int) < 128) = false := by simp; omega
    go_enter Tryd.func86, Tryd.ntmps86
    go_wp2
    go_ret
    exact ⟨by rw [HP.out]; rfl, rfl⟩
/-- Does the name of a tag begin here? -/
def nameQ (l : List UInt8) : Bool := ((byteN l 0).toNat == 60) && M.letterB (byteN l (if (byteN l 1).toNat = 47 then 2 else 1))
theorem fold1_47 (c : UInt8) : (M.fold1 c).toNat = 47 ↔ c = 47 := by
  rw [← UInt8.toNat_inj, M.fold1_nat]
  show _ ↔ c.toNat = 47
  split <;> omega
theorem fold1_60 (c : UInt8) : (M.fold1 c).toNat = 60 ↔ c = 60 := by
  rw [← UInt8.toNat_inj, M.fold1_nat]
  show _ ↔ c.toNat = 60
  split <;> omega
theorem nameEnd_eq (l : List UInt8) : M.nameEnd l = if nameQ l = true then some (l.dropWhile (fun c => !M.endB c)) else none := by
  match l with
  | [] => rfl
  | [c] =>
    have : nameQ [c] = false := by
      have h1 : byteN [c] 1 = 0 := rfl
      rw [nameQ, if_neg (by rw [h1]; decide), h1, show M.letterB 0 = false by decide, Bool.and_false]
    rw [this]; rfl
  | c :: d :: t =>
    have e0 : byteN (c :: d :: t) 0 = M.fold1 c := rfl
    have e1 : byteN (c :: d :: t) 1 = M.fold1 d := rfl
    have e2 : byteN (c :: d :: t) 2 = (t.head?.map M.fold1).getD 0 := by cases t <;> rfl
    have key : (c = 60 ∧ (M.letterB (M.fold1 d) = true ∨ (d = 47 ∧ ∃ x, t.head? = some x ∧ M.letterB (M.fold1 x) = true))) ↔ nameQ (c :: d :: t) = true := by
      rw [nameQ, e0, Bool.and_eq_true, beq_iff_eq, fold1_60, e1]
      refine and_congr_right fun _ => ?_
      by_cases h47 : d = 47
      · subst h47
        rw [if_pos (by decide), e2, show M.letterB (M.fold1 47) = false by decide]
        cases t with
        | nil => simp [show M.letterB 0 = false by decide]
        | cons x y => simp
      · rw [if_neg (by rw [fold1_47]; exact h47), e1]
        simp [h47]
    rw [M.nameEnd]
    by_cases hc : (c = 60 ∧ (M.letterB (M.fold1 d) = true ∨ (d = 47 ∧ ∃ x, t.head? = some x ∧ M.letterB (M.fold1 x) = true)))
    · rw [if_pos hc, if_pos (key.1 hc)]
    · rw [if_neg hc, if_neg (fun h9 => hc (key.2 h9))]
def endOf (s : ByteArray) : Option (List UInt8) → Int
  | some e => ((s.size - e.length : Nat) : Int)
  | none => 0
theorem pred_end (W : World) : PredAtRunes Tryd.prog 86 #[] endP W := fun W' x hx _ => (named1_any x hx W').mono (fun _ _ h => ⟨h.1, 0, h.2⟩)
theorem ix_any (s : ByteArray) (k : Nat) (r : Int) (h : Lib.idxFunc endP true (s.extract k s.size) = r) (W : World) : Calls Tryd.prog 85 #[.string (s.extract k s.size), .func (.func 86) #[] #[]] W fun e w' => e = .returned (.int .i64 r) ∧ Bel W w' := by
  subst h
  exact Tryd.strings_IndexFunc_runes 86 #[] (enters_of Tryd.func86 (by kernel_rfl) rfl) endP (s.extract k s.size) W (pred_end W)
theorem ix_end (s : ByteArray) (k : Nat) : Lib.idxFunc endP true (s.extract k s.size) = M.firstB M.endB 0 (s.data.toList.drop k) := by
  have h := M.idx_byte endP M.endB endP_byte (fun r hr => by rw [endP, if_neg (by omega)]) endB_low (s.extract k s.size) (s.extract k s.size).size 0 (Nat.zero_le _) (Nat.le_refl _)
  rw [drop_str, List.drop_zero] at h
  exact h
theorem first_end (s : ByteArray) (k : Nat) (hk : k ≤ s.size) : (M.firstB M.endB 0 (s.data.toList.drop k) = -1 ∧ endOf s (some ((s.data.toList.drop k).dropWhile (fun c => !M.endB c))) = (s.size : Int)) ∨ ∃ n : Nat, M.firstB M.endB 0 (s.data.toList.drop k) = (n : Int) ∧ endOf s (some ((s.data.toList.drop k).dropWhile (fun c => !M.endB c))) = ((k + n : Nat) : Int) ∧ k + n ≤ s.size := by
  have hl := congrArg List.length (List.takeWhile_append_dropWhile (p := fun c => !M.endB c) (l := s.data.toList.drop k))
  rw [List.length_append, List.length_drop, ← Lib.size_eq] at hl
  unfold M.firstB endOf
  by_cases hd : (s.data.toList.drop k).dropWhile (fun c => !M.endB c) = []
  · left
    rw [if_pos hd, hd]
    exact ⟨rfl, by simp⟩
  · right
    rw [if_neg hd, Nat.zero_add]
    exact ⟨_, rfl, by simp only; omega, by omega⟩
theorem named_any (g : Nat) (s low : ByteArray) (k : Nat) (w : World) (h : Lk w g s low k) (hl : Low s low) (hk : k ≤ s.size) (hs : s.size ≤ 3000) (o : Option (List UInt8)) (ho : M.nameEnd (s.data.toList.drop k) = o) : Calls Tryd.prog 72 #[.pointer (some ⟨g, 0, none⟩)] w fun e w' => e = .returned (.tuple #[.int .i64 (endOf s o), .bool o.isSome]) ∧ Bel w w' := by
  rw [nameEnd_eq, nameQ] at ho
  obtain ⟨c0, hc0⟩ : ∃ c, byteN (s.data.toList.drop k) 0 = c := ⟨_, rfl⟩
  have B0 : ∀ W, Lk W g s low k → Calls Tryd.prog 75 #[.pointer (some ⟨g, 0, none⟩), .int .i64 0] W fun e w' => e = .returned (.int .u8 (c0.toNat : Int)) ∧ ∃ m, w' = W.drewN m := fun W hW => by
    have := byteAt_any g s low k 0 W hW hl hk hs (by decide)
    rw [hc0] at this
    exact this
  obtain ⟨c1, hc1⟩ : ∃ c, byteN (s.data.toList.drop k) 1 = c := ⟨_, rfl⟩
  have B1 : ∀ W, Lk W g s low k → Calls Tryd.prog 75 #[.pointer (some ⟨g, 0, none⟩), .int .i64 1] W fun e w' => e = .returned (.int .u8 (c1.toNat : Int)) ∧ ∃ m, w' = W.drewN m := fun W hW => by
    have := byteAt_any g s low k 1 W hW hl hk hs (by decide)
    rw [hc1] at this
    exact this
  obtain ⟨c2, hc2⟩ : ∃ c, byteN (s.data.toList.drop k) 2 = c := ⟨_, rfl⟩
  have B2 : ∀ W, Lk W g s low k → Calls Tryd.prog 75 #[.pointer (some ⟨g, 0, none⟩), .int .i64 2] W fun e w' => e = .returned (.int .u8 (c2.toNat : Int)) ∧ ∃ m, w' = W.drewN m := fun W hW => by
    have := byteAt_any g s low k 2 W hW hl hk hs (by decide)
    rw [hc2] at this
    exact this
  rw [hc0, hc1] at ho
  cases h60 : ((c0.toNat : Int) != 60) with
  | true =>
    have HO := Lib.hid (show o = none by rw [← ho, if_neg (by simp at h60; simp; omega)])
    cases h47 : ((c1.toNat : Int) == 47) with
    | true =>
      clear ho hc0 hc1 hc2
      go_enter Tryd.func72, Tryd.ntmps72
      go_wp2_with fail
      refine (B1 _ h).mono ?_
      rintro e W1 ⟨rfl, m1, rfl⟩
      have h1 := Box.drewN h m1
      have hb1 : Bel w (w.drewN m1) := (Bel.refl w).drewN m1
      generalize w.drewN m1 = W1 at *
      go_wp2_with fail
      refine (B0 _ h1).mono ?_
      rintro e W2 ⟨rfl, m2, rfl⟩
      have h2 := Box.drewN h1 m2
      have hb2 : Bel w (W1.drewN m2) := hb1.drewN m2
      generalize W1.drewN m2 = W2 at *
      go_wp2_with fail
      go_ret2
      exact ⟨by rw [HO.out]; rfl, hb2⟩
    | false =>
      clear ho hc0 hc1 hc2
      go_enter Tryd.func72, Tryd.ntmps72
      go_wp2_with fail
      refine (B1 _ h).mono ?_
      rintro e W1 ⟨rfl, m1, rfl⟩
      have h1 := Box.drewN h m1
      have hb1 : Bel w (w.drewN m1) := (Bel.refl w).drewN m1
      generalize w.drewN m1 = W1 at *
      go_wp2_with fail
      refine (B0 _ h1).mono ?_
      rintro e W2 ⟨rfl, m2, rfl⟩
      have h2 := Box.drewN h1 m2
      have hb2 : Bel w (W1.drewN m2) := hb1.drewN m2
      generalize W1.drewN m2 = W2 at *
      go_wp2_with fail
      go_ret2
      exact ⟨by rw [HO.out]; rfl, hb2⟩
  | false =>
    have e60 : (c0.toNat == 60) = true := by simp at h60; simp; omega
    rw [e60, Bool.true_and] at ho
    clear e60
    have hix := ix_end s k
    have hir := first_end s k hk
    cases h47 : ((c1.toNat : Int) == 47) with
    | true =>
      have e47 : c1.toNat = 47 := by simp at h47; omega
      rw [if_pos e47, hc2] at ho
      clear e47
      cases hb : M.letterB c2 with
      | false =>
        have HB := Lib.hid hb
        have HO := Lib.hid (show o = none by rw [← ho, hb]; rfl)
        clear ho hc0 hc1 hc2 hb hix hir
        skip
        go_enter Tryd.func72, Tryd.ntmps72
        go_wp2_with fail
        refine (B1 _ h).mono ?_
        rintro e W1 ⟨rfl, m1, rfl⟩
        have h1 := Box.drewN h m1
        have hb1 : Bel w (w.drewN m1) := (Bel.refl w).drewN m1
        generalize w.drewN m1 = W1 at *
        go_wp2_with fail
        refine (B0 _ h1).mono ?_
        rintro e W2 ⟨rfl, m2, rfl⟩
        have h2 := Box.drewN h1 m2
        have hb2 : Bel w (W1.drewN m2) := hb1.drewN m2
        generalize W1.drewN m2 = W2 at *
        go_wp2_with fail
        refine (B2 _ h2).mono ?_
        rintro e W3 ⟨rfl, m3, rfl⟩
        have h3 := Box.drewN h2 m3
        have hb3 : Bel w (W2.drewN m3) := hb2.drewN m3
        generalize W2.drewN m3 = W3 at *
        go_wp2_with fail
        refine (letter_to c2 _ HB.out _).mono ?_
        rintro e W4 ⟨rfl, rfl⟩
        have c0 := Box.cell h3 0 _ rfl
        have c2 := Box.cell h3 2 _ rfl
        clear h1 h2
        go_wp2_with fail
        go_ret2
        exact ⟨by rw [HO.out]; rfl, hb3⟩
      | true =>
        have HB := Lib.hid hb
        have HO := Lib.hid (show o = some ((s.data.toList.drop k).dropWhile (fun c => !M.endB c)) by rw [← ho, hb]; rfl)
        clear ho hc0 hc1 hc2 hb
        rcases hir with ⟨hr, he⟩ | ⟨n, hr, he, hkn⟩
        · rw [hr] at hix
          have HX := Lib.hid hix
          have HE := Lib.hid he
          clear hix hr he
          skip
          go_enter Tryd.func72, Tryd.ntmps72
          go_wp2_with fail
          refine (B1 _ h).mono ?_
          rintro e W1 ⟨rfl, m1, rfl⟩
          have h1 := Box.drewN h m1
          have hb1 : Bel w (w.drewN m1) := (Bel.refl w).drewN m1
          generalize w.drewN m1 = W1 at *
          go_wp2_with fail
          refine (B0 _ h1).mono ?_
          rintro e W2 ⟨rfl, m2, rfl⟩
          have h2 := Box.drewN h1 m2
          have hb2 : Bel w (W1.drewN m2) := hb1.drewN m2
          generalize W1.drewN m2 = W2 at *
          go_wp2_with fail
          refine (B2 _ h2).mono ?_
          rintro e W3 ⟨rfl, m3, rfl⟩
          have h3 := Box.drewN h2 m3
          have hb3 : Bel w (W2.drewN m3) := hb2.drewN m3
          generalize W2.drewN m3 = W3 at *
          go_wp2_with fail
          refine (letter_to c2 _ HB.out _).mono ?_
          rintro e W4 ⟨rfl, rfl⟩
          have c0 := Box.cell h3 0 _ rfl
          have c2 := Box.cell h3 2 _ rfl
          clear h1 h2
          go_wp2_with fail
          go_region_with ((go_at_call 85; refine (ix_any s k _ HX.out _).mono ?_; rintro e W5 ⟨rfl, b5⟩))
          all_goals (
            have hb5 := (Bel.drew hb3).trans b5
            have h5 := Box.bel h3 ((Bel.drew (Bel.refl W4)).trans b5)
            have e0 := Box.cell h5 0 _ rfl
            have e2 := Box.cell h5 2 _ rfl
            go_wp2_with fail
            go_ret2
            exact ⟨by rw [HO.out, HE.out]; rfl, hb5⟩)
        · rw [hr] at hix
          have HX := Lib.hid hix
          have HE := Lib.hid he
          clear hix hr he
          skip
          go_enter Tryd.func72, Tryd.ntmps72
          go_wp2_with fail
          refine (B1 _ h).mono ?_
          rintro e W1 ⟨rfl, m1, rfl⟩
          have h1 := Box.drewN h m1
          have hb1 : Bel w (w.drewN m1) := (Bel.refl w).drewN m1
          generalize w.drewN m1 = W1 at *
          go_wp2_with fail
          refine (B0 _ h1).mono ?_
          rintro e W2 ⟨rfl, m2, rfl⟩
          have h2 := Box.drewN h1 m2
          have hb2 : Bel w (W1.drewN m2) := hb1.drewN m2
          generalize W1.drewN m2 = W2 at *
          go_wp2_with fail
          refine (B2 _ h2).mono ?_
          rintro e W3 ⟨rfl, m3, rfl⟩
          have h3 := Box.drewN h2 m3
          have hb3 : Bel w (W2.drewN m3) := hb2.drewN m3
          generalize W2.drewN m3 = W3 at *
          go_wp2_with fail
          refine (letter_to c2 _ HB.out _).mono ?_
          rintro e W4 ⟨rfl, rfl⟩
          have c0 := Box.cell h3 0 _ rfl
          have c2 := Box.cell h3 2 _ rfl
          clear h1 h2
          go_wp2_with fail
          go_region_with ((go_at_call 85; refine (ix_any s k _ HX.out _).mono ?_; rintro e W5 ⟨rfl, b5⟩))
          all_goals (
            have hb5 := (Bel.drew hb3).trans b5
            have h5 := Box.bel h3 ((Bel.drew (Bel.refl W4)).trans b5)
            have e0 := Box.cell h5 0 _ rfl
            have e2 := Box.cell h5 2 _ rfl
            go_wp2_with fail
            go_ret2
            exact ⟨by rw [HO.out, HE.out]; rfl, hb5⟩)
    | false =>
      have e47 : ¬ c1.toNat = 47 := by simp at h47; omega
      rw [if_neg e47, hc1] at ho
      clear e47
      cases hb : M.letterB c1 with
      | false =>
        have HB := Lib.hid hb
        have HO := Lib.hid (show o = none by rw [← ho, hb]; rfl)
        clear ho hc0 hc1 hc2 hb hix hir
        skip
        go_enter Tryd.func72, Tryd.ntmps72
        go_wp2_with fail
        refine (B1 _ h).mono ?_
        rintro e W1 ⟨rfl, m1, rfl⟩
        have h1 := Box.drewN h m1
        have hb1 : Bel w (w.drewN m1) := (Bel.refl w).drewN m1
        generalize w.drewN m1 = W1 at *
        go_wp2_with fail
        refine (B0 _ h1).mono ?_
        rintro e W2 ⟨rfl, m2, rfl⟩
        have h2 := Box.drewN h1 m2
        have hb2 : Bel w (W1.drewN m2) := hb1.drewN m2
        generalize W1.drewN m2 = W2 at *
        go_wp2_with fail
        refine (B1 _ h2).mono ?_
        rintro e W3 ⟨rfl, m3, rfl⟩
        have h3 := Box.drewN h2 m3
        have hb3 : Bel w (W2.drewN m3) := hb2.drewN m3
        generalize W2.drewN m3 = W3 at *
        go_wp2_with fail
        refine (letter_to c1 _ HB.out _).mono ?_
        rintro e W4 ⟨rfl, rfl⟩
        have c0 := Box.cell h3 0 _ rfl
        have c2 := Box.cell h3 2 _ rfl
        clear h1 h2
        go_wp2_with fail
        go_ret2
        exact ⟨by rw [HO.out]; rfl, hb3⟩
      | true =>
        have HB := Lib.hid hb
        have HO := Lib.hid (show o = some ((s.data.toList.drop k).dropWhile (fun c => !M.endB c)) by rw [← ho, hb]; rfl)
        clear ho hc0 hc1 hc2 hb
        rcases hir with ⟨hr, he⟩ | ⟨n, hr, he, hkn⟩
        · rw [hr] at hix
          have HX := Lib.hid hix
          have HE := Lib.hid he
          clear hix hr he
          skip
          go_enter Tryd.func72, Tryd.ntmps72
          go_wp2_with fail
          refine (B1 _ h).mono ?_
          rintro e W1 ⟨rfl, m1, rfl⟩
          have h1 := Box.drewN h m1
          have hb1 : Bel w (w.drewN m1) := (Bel.refl w).drewN m1
          generalize w.drewN m1 = W1 at *
          go_wp2_with fail
          refine (B0 _ h1).mono ?_
          rintro e W2 ⟨rfl, m2, rfl⟩
          have h2 := Box.drewN h1 m2
          have hb2 : Bel w (W1.drewN m2) := hb1.drewN m2
          generalize W1.drewN m2 = W2 at *
          go_wp2_with fail
          refine (B1 _ h2).mono ?_
          rintro e W3 ⟨rfl, m3, rfl⟩
          have h3 := Box.drewN h2 m3
          have hb3 : Bel w (W2.drewN m3) := hb2.drewN m3
          generalize W2.drewN m3 = W3 at *
          go_wp2_with fail
          refine (letter_to c1 _ HB.out _).mono ?_
          rintro e W4 ⟨rfl, rfl⟩
          have c0 := Box.cell h3 0 _ rfl
          have c2 := Box.cell h3 2 _ rfl
          clear h1 h2
          go_wp2_with fail
          go_region_with ((go_at_call 85; refine (ix_any s k _ HX.out _).mono ?_; rintro e W5 ⟨rfl, b5⟩))
          all_goals (
            have hb5 := (Bel.drew hb3).trans b5
            have h5 := Box.bel h3 ((Bel.drew (Bel.refl W4)).trans b5)
            have e0 := Box.cell h5 0 _ rfl
            have e2 := Box.cell h5 2 _ rfl
            go_wp2_with fail
            go_ret2
            exact ⟨by rw [HO.out, HE.out]; rfl, hb5⟩)
        · rw [hr] at hix
          have HX := Lib.hid hix
          have HE := Lib.hid he
          clear hix hr he
          skip
          go_enter Tryd.func72, Tryd.ntmps72
          go_wp2_with fail
          refine (B1 _ h).mono ?_
          rintro e W1 ⟨rfl, m1, rfl⟩
          have h1 := Box.drewN h m1
          have hb1 : Bel w (w.drewN m1) := (Bel.refl w).drewN m1
          generalize w.drewN m1 = W1 at *
          go_wp2_with fail
          refine (B0 _ h1).mono ?_
          rintro e W2 ⟨rfl, m2, rfl⟩
          have h2 := Box.drewN h1 m2
          have hb2 : Bel w (W1.drewN m2) := hb1.drewN m2
          generalize W1.drewN m2 = W2 at *
          go_wp2_with fail
          refine (B1 _ h2).mono ?_
          rintro e W3 ⟨rfl, m3, rfl⟩
          have h3 := Box.drewN h2 m3
          have hb3 : Bel w (W2.drewN m3) := hb2.drewN m3
          generalize W2.drewN m3 = W3 at *
          go_wp2_with fail
          refine (letter_to c1 _ HB.out _).mono ?_
          rintro e W4 ⟨rfl, rfl⟩
          have c0 := Box.cell h3 0 _ rfl
          have c2 := Box.cell h3 2 _ rfl
          clear h1 h2
          go_wp2_with fail
          go_region_with ((go_at_call 85; refine (ix_any s k _ HX.out _).mono ?_; rintro e W5 ⟨rfl, b5⟩))
          all_goals (
            have hb5 := (Bel.drew hb3).trans b5
            have h5 := Box.bel h3 ((Bel.drew (Bel.refl W4)).trans b5)
            have e0 := Box.cell h5 0 _ rfl
            have e2 := Box.cell h5 2 _ rfl
            go_wp2_with fail
            go_ret2
            exact ⟨by rw [HO.out, HE.out]; rfl, hb5⟩)
end Go.Proofs.YthaoohckgilahaaDoor

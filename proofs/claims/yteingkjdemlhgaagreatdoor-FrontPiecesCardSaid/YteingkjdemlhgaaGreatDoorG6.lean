/-
  Texts of the proof, laid together: RScan2, RMark, FrontR1, Bits, Utf8, Utf8b, Utf16, Utf8c, Utf16b. No condition of its own.
-/
import Derived.Test.YteingkjdemlhgaaGreatDoorG5
import Derived.Test.YteingkjdemlhgaaGreatDoorG4
import Derived.Deep.CutBlock
import Derived.Deep.Cut
import Derived.Deep.CutRange
import Derived.Test.YteingkjdemlhgaaGreatDoorG2
import Derived.WalkKit
import Derived.Laws.BitsAllLaws
import Derived.Laws.BitsLemmas
import Derived.Test.YteingkjdemlhgaaGreatDoorG1

/-
  The document's answers on scans: isLetter, ScanOf.
-/
namespace Go.Proofs.YteingkjdemlhgaaGreatDoor
open Go.RowKit
set_option maxRecDepth 1000000
set_option maxHeartbeats 16000000
theorem letter_fold (c : UInt8) : M.letterB (M.fold1 c) = (decide ((97 : Int) ≤ (c.toNat : Int) ∧ (c.toNat : Int) ≤ 122) || decide ((65 : Int) ≤ (c.toNat : Int) ∧ (c.toNat : Int) ≤ 90)) := by
  unfold M.letterB
  rw [Bool.eq_iff_iff, M.fold1_nat]
  simp only [decide_eq_true_eq, Bool.or_eq_true]
  split <;> omega
theorem isLetter_to (c : UInt8) (b : Bool) (h : M.letterB (M.fold1 c) = b) (w : World) : Calls Tryz.prog 125 #[.int .u8 (c.toNat : Int)] w fun e w' => e = .returned (.bool b) ∧ w = w' := by
  have hcl : c.toNat < 256 := c.toNat_lt
  rw [letter_fold] at h
  cases d1 : decide ((97 : Int) ≤ (c.toNat : Int) ∧ (c.toNat : Int) ≤ 122) with
  | true =>
    rw [d1] at h
    have H := Lib.hid h
    have HD := Lib.hid d1
    clear h d1
    go_enter Tryz.func125, Tryz.ntmps125
    go_wp2_with fail
    refine (between_any _ _ _ _).mono ?_
    rintro e w' ⟨rfl, rfl⟩
    rw [HD.out]
    go_wp2_with fail
    go_ret
    exact ⟨by rw [← H.out]; rfl, rfl⟩
  | false =>
    rw [d1, Bool.false_or] at h
    have H := Lib.hid h
    have HD := Lib.hid d1
    clear h d1
    go_enter Tryz.func125, Tryz.ntmps125
    go_wp2_with fail
    refine (between_any _ _ _ _).mono ?_
    rintro e w' ⟨rfl, rfl⟩
    rw [HD.out]
    go_wp2_with fail
    refine (between_any _ _ _ _).mono ?_
    rintro e w' ⟨rfl, rfl⟩
    rw [H.out]
    go_wp2_with fail
    go_ret
    exact ⟨rfl, rfl⟩
theorem byteN_in (s : ByteArray) (j i k : Nat) (hk : j + i = k) (h : k < s.size) : byteN (s.data.toList.drop j) i = M.fold1 s[k] := by
  subst hk
  unfold byteN M.fold
  rw [List.getElem?_map, List.getElem?_drop, byte_at s (j + i) h]
  rfl
theorem byteN_out (s : ByteArray) (j i : Nat) (h : s.size ≤ j + i) : byteN (s.data.toList.drop j) i = 0 := by
  unfold byteN M.fold
  rw [List.getElem?_map, List.getElem?_drop, List.getElem?_eq_none (by rw [← Lib.size_eq]; exact h)]
  rfl
theorem end_int2 (c : UInt8) : M.endB c = (M.white c || !((c.toNat : Int) != 62)) := by
  unfold M.endB
  congr 1
  rw [Bool.eq_iff_iff, decide_eq_true_eq, ← UInt8.toNat_inj]
  show c.toNat = 62 ↔ _
  simp
  omega
def p62 (c : UInt8) : Bool := ((c.toNat : Int) != 62)
theorem behind_62 : ∀ l : List UInt8, M.behindF [62] l = (l.dropWhile p62).drop 1
  | [] => rfl
  | c :: t => by
    rw [M.behindF]
    have hp : Lib.hasPrefix (M.fold (c :: t)) [62] = !p62 c := by
      show ((62 == M.fold1 c) && true) = !p62 c
      rw [Bool.and_true, Bool.eq_iff_iff, beq_iff_eq, Bool.not_eq_true', p62, bne_eq_false_iff_eq]
      have h62 := M.fold1_eq 62 (.inl (by decide)) c
      constructor
      · intro h
        rw [h62.1 h.symm]; rfl
      · intro h
        have hc : c = 62 := by rw [← UInt8.toNat_inj]; show c.toNat = 62; omega
        rw [hc]; rfl
    cases hc : p62 c with
    | true => rw [hp, hc, if_neg (by decide), List.dropWhile_cons_of_pos hc, behind_62 t]
    | false => rw [hp, hc, if_pos (show (!false) = true from rfl), List.dropWhile_cons_of_neg (by rw [hc]; decide)]; rfl
/-- Where the name of a tag begins that stands here; 0: none does. -/
def nameAt (l : List UInt8) (j : Nat) : Nat := if nameQ l = true then (if M.letterB (byteN l 1) = true then j + 1 else j + 2) else 0
theorem fold1_47b (c : UInt8) : ((M.fold1 c).toNat == 47) = ((c.toNat : Int) == 47) := by
  rw [Bool.eq_iff_iff, beq_iff_eq, beq_iff_eq, fold1_47, ← UInt8.toNat_inj]
  show c.toNat = 47 ↔ _
  omega
theorem fold1_60b (c : UInt8) : ((M.fold1 c).toNat == 60) = ((c.toNat : Int) == 60) := by
  rw [Bool.eq_iff_iff, beq_iff_eq, beq_iff_eq, fold1_60, ← UInt8.toNat_inj]
  show c.toNat = 60 ↔ _
  omega
theorem letter_47 (b : UInt8) (h : b.toNat = 47) : M.letterB b = false := by unfold M.letterB; rw [h]; decide
theorem end_ne60 (c : UInt8) (h : (M.fold1 c).toNat = 60) : M.endB c = false := by rw [fold1_60] at h; subst h; decide
theorem end_ne47 (c : UInt8) (h : (M.fold1 c).toNat = 47) : M.endB c = false := by rw [fold1_47] at h; subst h; decide
theorem name_from (s : ByteArray) (j : Nat) (h : nameQ (s.data.toList.drop j) = true) : nameAt (s.data.toList.drop j) j ≤ s.size ∧ 0 < nameAt (s.data.toList.drop j) j ∧ j < nameAt (s.data.toList.drop j) j ∧ (s.data.toList.drop (nameAt (s.data.toList.drop j) j)).dropWhile (fun c => !M.endB c) = (s.data.toList.drop j).dropWhile (fun c => !M.endB c) := by
  have hq := h
  unfold nameQ at h
  rw [Bool.and_eq_true, beq_iff_eq] at h
  obtain ⟨h0, h1⟩ := h
  have hj : j + 0 < s.size := by
    by_cases hh : j + 0 < s.size
    · exact hh
    · rw [byteN_out s j 0 (by omega)] at h0; exact absurd h0 (by decide)
  rw [byteN_in s j 0 j rfl hj] at h0
  have d0 := dw_go (fun c => !M.endB c) s j hj (by show (!M.endB s[j]) = true; rw [end_ne60 _ h0]; rfl)
  unfold nameAt
  rw [if_pos hq]
  have hj1 : j + 1 < s.size := by
    by_cases hh : j + 1 < s.size
    · exact hh
    · rw [byteN_out s j 1 (by omega), if_neg (by decide), byteN_out s j 1 (by omega)] at h1; exact absurd h1 (by decide)
  by_cases hl : M.letterB (byteN (s.data.toList.drop j) 1) = true
  · rw [if_pos hl]
    exact ⟨by omega, by omega, by omega, d0⟩
  · rw [if_neg hl]
    have h47 : (byteN (s.data.toList.drop j) 1).toNat = 47 := by
      by_cases hh : (byteN (s.data.toList.drop j) 1).toNat = 47
      · exact hh
      · rw [if_neg hh] at h1; exact absurd h1 hl
    rw [if_pos h47] at h1
    have hj2 : j + 2 < s.size := by
      by_cases hh : j + 2 < s.size
      · exact hh
      · rw [byteN_out s j 2 (by omega)] at h1; exact absurd h1 (by decide)
    rw [byteN_in s j 1 (j + 1) rfl hj1] at h47
    have d1 := dw_go (fun c => !M.endB c) s (j + 1) hj1 (by show (!M.endB s[j + 1]) = true; rw [end_ne47 _ h47]; rfl)
    exact ⟨by omega, by omega, by omega, d1.trans d0⟩
theorem behind_step (sub : List UInt8) (s : ByteArray) (k : Nat) (hk : k < s.size) (h : Lib.hasPrefix (M.fold (s.data.toList.drop k)) sub = false) : M.behindF sub (s.data.toList.drop (k + 1)) = M.behindF sub (s.data.toList.drop k) := by
  rw [drop_cons s k hk] at h ⊢
  rw [M.behindF, if_neg (by rw [h]; decide)]
theorem behind_here (sub : List UInt8) (s : ByteArray) (k : Nat) (hk : k < s.size) (h : Lib.hasPrefix (M.fold (s.data.toList.drop k)) sub = true) : M.behindF sub (s.data.toList.drop k) = s.data.toList.drop (k + sub.length) := by
  rw [← List.drop_drop]
  rw [drop_cons s k hk] at h ⊢
  rw [M.behindF, if_pos h]
theorem scanRef_any (s0 : ByteArray) (hs0 : s0.size ≤ 9000) (w : World) : Calls Tryz.prog 83 #[.string s0] w fun e w' => e = .returned (.int .i64 (M.scanA s0.data.toList)) ∧ Bel w w' := by
  go_enter Tryz.func83, Tryz.ntmps83
  go_upto_if 13 with fail
  go_cut [0] from 11 to 15 (fun v wx => (∃ s : ByteArray, v = .string s ∧ s.size ≤ 256 ∧ M.scanA s0.data.toList = M.scan0 s.data.toList) ∧ w = wx)
  case first =>
    by_cases hl : 256 < s0.size
    · have hbd : (0 : Int) ≤ 256 ∧ (256 : Int) ≤ (s0.size : Int) := by omega
      go_wp2_with fail
      go_meet
      exact ⟨⟨s0.extract 0 256, by first | rfl | simp, by rw [Lib.size_eq, Lib.extract_data, List.length_take]; omega, by rw [Lib.extract_data, List.drop_zero, Nat.sub_zero, M.scanA]⟩, rfl⟩
    · go_wp2_with fail
      go_meet
      exact ⟨⟨s0, rfl, by omega, by rw [M.scanA, List.take_of_length_le (by rw [← Lib.size_eq]; omega)]⟩, rfl⟩
  case rest =>
  obtain ⟨⟨s, rfl, hs, ht⟩, rfl⟩ := hcut
  have HT := Lib.hid ht
  clear ht hs0
  go_wp2_with fail
  go_loopg [3] (s.size + 4) (fun gg v wr => ∃ j : Nat, v = .int .i64 (j : Int) ∧ j ≤ s.size + 3 ∧ s.size + 3 - j ≤ gg ∧ Bel w wr ∧ Hid (M.scanA s0.data.toList = M.scan0 (s.data.toList.drop j)))
  case atStart => exact ⟨0, rfl, by omega, by omega, Bel.refl _, Lib.hid (by rw [List.drop_zero]; exact HT.out)⟩
  case round =>
    obtain ⟨j, rfl, hj3, hg, hb, HJ⟩ := hrel
    by_cases hlt : j < s.size
    · obtain ⟨n, t, hst⟩ : ∃ n t, M.stepS (s.data.toList.drop j) = (n, t) := ⟨_, _, rfl⟩
      have hsc : M.scan0 (s.data.toList.drop j) = if n = 0 then M.scan0 t else n := by
        have := M.scan0_cons s[j] (s.data.toList.drop (j + 1))
        rw [← drop_cons s j hlt, hst] at this
        exact this
      have HS := Lib.hid (HJ.out.trans hsc)
      clear hsc HJ
      obtain ⟨b1, hb1⟩ : ∃ b, Lib.hasPrefix (M.fold (s.data.toList.drop j)) M.openS = b := ⟨_, rfl⟩
      have BG1 := Lib.hid (fun W => beginsAt_any s ⟨#[60, 33, 45, 45]⟩ j (by omega) (by omega) W)
      rw [show (⟨#[60, 33, 45, 45]⟩ : ByteArray).data.toList = M.openS from rfl, hb1] at BG1
      obtain ⟨b2, hb2⟩ : ∃ b, Lib.hasPrefix (M.fold (s.data.toList.drop j)) M.metaS = b := ⟨_, rfl⟩
      have BG2 := Lib.hid (fun W => beginsAt_any s ⟨#[60, 109, 101, 116, 97]⟩ j (by omega) (by omega) W)
      rw [show (⟨#[60, 109, 101, 116, 97]⟩ : ByteArray).data.toList = M.metaS from rfl, hb2] at BG2
      obtain ⟨b3, hb3⟩ : ∃ b, Lib.hasPrefix (M.fold (s.data.toList.drop j)) [60, 33] = b := ⟨_, rfl⟩
      have BG3 := Lib.hid (fun W => beginsAt_any s ⟨#[60, 33]⟩ j (by omega) (by omega) W)
      rw [show (⟨#[60, 33]⟩ : ByteArray).data.toList = [60, 33] from rfl, hb3] at BG3
      obtain ⟨b4, hb4⟩ : ∃ b, Lib.hasPrefix (M.fold (s.data.toList.drop j)) [60, 47] = b := ⟨_, rfl⟩
      have BG4 := Lib.hid (fun W => beginsAt_any s ⟨#[60, 47]⟩ j (by omega) (by omega) W)
      rw [show (⟨#[60, 47]⟩ : ByteArray).data.toList = [60, 47] from rfl, hb4] at BG4
      obtain ⟨b6, hb6⟩ : ∃ b, Lib.hasPrefix (M.fold (s.data.toList.drop j)) [60, 63] = b := ⟨_, rfl⟩
      have BG6 := Lib.hid (fun W => beginsAt_any s ⟨#[60, 63]⟩ j (by omega) (by omega) W)
      rw [show (⟨#[60, 63]⟩ : ByteArray).data.toList = [60, 63] from rfl, hb6] at BG6
      rw [M.pre2_fold _ (by decide)] at hb3 hb4 hb6
      have hroom1 := pre_roomS (s.data.toList.drop j) M.openS
      rw [hb1, List.length_drop, ← Lib.size_eq, show M.openS.length = 4 from rfl] at hroom1
      have hroom2 := pre_roomS (s.data.toList.drop j) M.metaS
      rw [hb2, List.length_drop, ← Lib.size_eq, show M.metaS.length = 5 from rfl] at hroom2
      obtain ⟨sl, hsl⟩ : ∃ sl, M.slashW (s.data.toList.drop (j + 5)) = sl := ⟨_, rfl⟩
      obtain ⟨o, ho⟩ : ∃ o, M.nameEnd (s.data.toList.drop j) = o := ⟨_, rfl⟩
      unfold M.stepS at hst
      have d5 : List.drop 5 (List.drop j s.data.toList) = List.drop (j + 5) s.data.toList := by rw [List.drop_drop]
      rw [hb1, hb2, hb3, hb4, hb6, ho, d5, hsl] at hst
      clear d5
      clear hb1 hb2 hb3 hb4 hb6
      cases b1 with
      | true =>
        have hr4 := hroom1 rfl (by decide)
        rw [if_pos rfl, List.drop_drop] at hst
        injection hst with e1 e2
        subst e1
        have HR := Lib.hid (HS.out.trans (if_pos rfl))
        have HE := Lib.hid e2
        clear e2 HS hroom1 hroom2 ho hsl
        go_wp2_with fail
        refine (BG1.out _).mono ?_
        rintro e W ⟨rfl, hbb⟩
        have hb := hb.trans hbb
        clear hbb
        go_upto_block 2 with fail
        go_cut [4] from 25 to 36 (fun v wx => (∃ k : Nat, v = .int .i64 (k : Int) ∧ k ≤ s.size ∧ j + 2 ≤ k ∧ s.data.toList.drop (k + 3) = t) ∧ Bel w wx)
        case first =>
          go_wp2_with fail
          go_loopw [4] (fun v wr => ∃ k : Nat, v = .int .i64 (k : Int) ∧ k ≤ s.size ∧ j + 2 ≤ k ∧ Bel w wr ∧ Hid (M.behindF M.closeS (s.data.toList.drop k) = t)) (fun v _ => s.size - (intOf v).toNat)
          case atStart => exact ⟨j + 2, by first | rfl | go_num, by omega, Nat.le_refl _, hb, HE⟩
          case round =>
            obtain ⟨k, rfl, hk, hjk, hbk, HK⟩ := hrel
            by_cases hkl : k < s.size
            · have bk := Lib.hid (fun W => beginsAt_any s ⟨#[45, 45, 62]⟩ k (by omega) (by omega) W)
              cases hp : Lib.hasPrefix (M.fold (s.data.toList.drop k)) M.closeS with
              | true =>
                rw [show (⟨#[45, 45, 62]⟩ : ByteArray).data.toList = M.closeS from rfl, hp] at bk
                have HX := Lib.hid ((behind_here M.closeS s k hkl hp).symm.trans HK.out)
                clear hp HK
                go_wp2_with fail
                refine (bk.out _).mono ?_
                rintro e W3 ⟨rfl, hbb⟩
                go_wp2_with fail
                go_meet
                exact ⟨⟨k, rfl, hk, hjk, HX.out⟩, hbk.trans hbb⟩
              | false =>
                rw [show (⟨#[45, 45, 62]⟩ : ByteArray).data.toList = M.closeS from rfl, hp] at bk
                have HX := Lib.hid ((behind_step M.closeS s k hkl hp).trans HK.out)
                clear hp HK
                go_wp2_with fail
                refine (bk.out _).mono ?_
                rintro e W3 ⟨rfl, hbb⟩
                go_wp2_with fail
                go_roundw
                case rel => exact ⟨k + 1, by go_num, by omega, by omega, hbk.trans hbb, HX⟩
                case measure => simp [intOf]; omega
            · obtain rfl : k = s.size := by omega
              have HX := Lib.hid (show s.data.toList.drop (s.size + 3) = t by rw [← HK.out, drop_end, List.drop_eq_nil_of_le (by rw [← Lib.size_eq]; omega)]; rfl)
              go_wp2_with fail
              go_meet
              exact ⟨⟨s.size, rfl, hk, hjk, HX.out⟩, hbk⟩
        case rest =>
        obtain ⟨⟨k, rfl, hk, hjk, hdk⟩, hb⟩ := hcut
        have HX := Lib.hid (show M.scanA s0.data.toList = M.scan0 (s.data.toList.drop (k + 3)) by rw [HR.out, hdk])
        clear hdk HR HE
        go_wp2_with fail
        go_roundg (s.size + 3 - (k + 3))
        case measure => omega
        case rel => exact ⟨k + 3, by go_num, by omega, Nat.le_refl _, hb, HX⟩
      | false =>
        rw [if_neg (by decide)] at hst
        go_wp2_with fail
        refine (BG1.out _).mono ?_
        rintro e W ⟨rfl, hbb⟩
        have hb := hb.trans hbb
        clear hbb
        go_upto_region 10 with fail
        go_cut [62] from 39 to 62 (fun v wx => v = .bool (b2 && sl) ∧ Bel w wx)
        case first =>
          clear hst HS ho
          cases b2 with
          | false =>
            go_wp2_with fail
            refine (BG2.out _).mono ?_
            rintro e W2 ⟨rfl, hbb⟩
            go_wp2_with fail
            go_meet
            exact ⟨rfl, hb.trans hbb⟩
          | true =>
            obtain ⟨j5, hj5⟩ : ∃ j5 : Nat, j + 5 = j5 := ⟨_, rfl⟩
            have hi5 : (j : Int) + 5 = (j5 : Int) := by omega
            rw [hj5] at hsl
            by_cases h5 : j5 < s.size
            · rw [drop_cons s j5 h5] at hsl
              have hsl : M.skipB s[j5] = sl := hsl
              rw [skip_int] at hsl
              cases hw : M.white s[j5] with
              | true =>
                have HW := Lib.hid hw
                have HSL := Lib.hid (show sl = true by rw [← hsl, hw]; rfl)
                clear hw hsl hj5
                go_wp2_with fail
                refine (BG2.out _).mono ?_
                rintro e W2 ⟨rfl, hbb⟩
                go_wp2_with (go_at_call 122; refine (isWhite_any _ _).mono ?_; rintro e w' ⟨rfl, rfl⟩; rw [HW.out])
                go_meet
                exact ⟨by rw [HSL.out]; rfl, hb.trans hbb⟩
              | false =>
                have HW := Lib.hid hw
                have HSL := Lib.hid (show sl = ((s[j5].toNat : Int) == 47) by rw [← hsl, hw]; rfl)
                clear hw hsl hj5
                go_wp2_with fail
                refine (BG2.out _).mono ?_
                rintro e W2 ⟨rfl, hbb⟩
                go_wp2_with (go_at_call 122; refine (isWhite_any _ _).mono ?_; rintro e w' ⟨rfl, rfl⟩; rw [HW.out])
                go_meet
                exact ⟨by rw [HSL.out]; rfl, hb.trans hbb⟩
            · have HSL := Lib.hid (show sl = false by rw [← hsl, List.drop_eq_nil_of_le (by rw [← Lib.size_eq]; omega)]; rfl)
              clear hsl hj5
              go_wp2_with fail
              refine (BG2.out _).mono ?_
              rintro e W2 ⟨rfl, hbb⟩
              go_wp2_with fail
              go_meet
              exact ⟨by rw [HSL.out]; rfl, hb.trans hbb⟩
        case rest =>
        obtain ⟨rfl, hb⟩ := hcut
        cases hm : (b2 && sl) with
        | true =>
          rw [Bool.and_eq_true] at hm
          obtain ⟨m1, m2⟩ := hm
          have h5 : j + 5 < s.size := by
            by_cases hh : j + 5 < s.size
            · exact hh
            · rw [List.drop_eq_nil_of_le (by rw [← Lib.size_eq]; omega)] at hsl
              rw [← hsl] at m2
              cases m2
          rw [if_pos ⟨m1, m2⟩] at hst
          obtain ⟨xs, r, hn⟩ : ∃ xs r, M.attrsA (s.data.toList.drop (j + 5)) = (xs, r) := ⟨_, _, rfl⟩
          rw [hn] at hst
          injection hst with e1 e2
          have e2 : r.drop 1 = t := e2
          have e1 : M.metaA xs = n := e1
          have hshort : ShortV xs := fun q hq => by have h9 := M.attrsA_val _ (s.data.toList.drop (j + 5)) (Nat.le_refl _) q (by rw [hn]; exact hq); rw [List.length_drop, ← Lib.size_eq] at h9; omega
          have hsuf := (M.attrsA_suf _ (s.data.toList.drop (j + 5)) (Nat.le_refl _)).1
          rw [hn] at hsuf
          have hrd := M.Suf.at (M.Suf.trans (a := r) hsuf (M.Suf.drop s.data.toList (j + 5)))
          rw [← Lib.size_eq] at hrd
          have hrl := hsuf.len
          rw [List.length_drop, ← Lib.size_eq] at hrl
          have hrl : r.length ≤ s.size - (j + 5) := hrl
          have T := fun W => attrsAt_any s (j + 5) (by omega) (by omega) xs r hn W
          obtain ⟨en, hen⟩ : ∃ en : Nat, en = s.size - r.length := ⟨_, rfl⟩
          rw [← hen] at T hrd
          have hen1 : (j + 5) ≤ en := by omega
          have hen2 : en ≤ s.size := by omega
          have HD := Lib.hid hrd
          clear hrd hsuf hrl hen
          rw [show ((j + 5 : Nat) : Int) = (j : Int) + 5 by omega] at T
          have TG := Lib.hid T
          have MG := Lib.hid (fun v W hW => metaOf_any v xs W hW hshort)
          rw [e1] at MG
          clear T hn e1 ho hroom1 hroom2 hsl m1 m2 hshort
          by_cases hn0 : n = 0
          · subst hn0
            have HR := Lib.hid (show M.scanA s0.data.toList = M.scan0 (s.data.toList.drop (en + 1)) by rw [HS.out, if_pos rfl, ← e2, HD.out, List.drop_drop])
            clear e2 HS HD
            go_wp2_with fail
            refine (TG.out _).mono ?_
            rintro e W3 ⟨v, rfl, hown, hbb⟩
            have hb := hb.trans hbb
            go_wp2_with fail
            refine (MG.out v _ hown.sl).mono ?_
            rintro e W4 ⟨rfl, hbb⟩
            have hb := hb.trans hbb
            go_wp2_with fail
            go_roundg (s.size + 3 - (en + 1))
            case measure => omega
            case rel => exact ⟨en + 1, by go_num, by omega, Nat.le_refl _, hb, HR⟩
          · have HR := Lib.hid (show M.scanA s0.data.toList = n by rw [HS.out, if_neg hn0])
            have hn9 : (n == 0) = false := by simp [hn0]
            clear e2 HS HD hn0
            go_wp2_with fail
            refine (TG.out _).mono ?_
            rintro e W3 ⟨v, rfl, hown, hbb⟩
            have hb := hb.trans hbb
            go_wp2_with fail
            refine (MG.out v _ hown.sl).mono ?_
            rintro e W4 ⟨rfl, hbb⟩
            have hb := hb.trans hbb
            go_wp2_with fail
            go_ret
            exact ⟨by rw [HR.out]; rfl, hb⟩
        | false =>
          rw [if_neg (by rintro ⟨m1, m2⟩; rw [m1, m2] at hm; cases hm)] at hst
          clear hm hsl hroom1 hroom2
          obtain ⟨nq, hnq⟩ : ∃ nq, nameQ (s.data.toList.drop j) = nq := ⟨_, rfl⟩
          obtain ⟨nm, hnm⟩ : ∃ nm, nameAt (s.data.toList.drop j) j = nm := ⟨_, rfl⟩
          have hnf := name_from s j
          rw [hnm] at hnf
          go_upto_region 17 with fail
          go_upto_if 80 with fail
          go_cut [8] from 77 to 115 (fun v wx => v = .int .i64 (nm : Int) ∧ Bel w wx)
          case first =>
            clear hst HS ho hnq hnf
            have e0 := byteN_in s j 0 j rfl hlt
            obtain ⟨j1, hj1⟩ : ∃ j1 : Nat, j + 1 = j1 := ⟨_, rfl⟩
            have hi1 : (j : Int) + 1 = (j1 : Int) := by omega
            obtain ⟨j2, hj2⟩ : ∃ j2 : Nat, j + 2 = j2 := ⟨_, rfl⟩
            have hi2 : (j : Int) + 2 = (j2 : Int) := by omega
            unfold nameAt nameQ at hnm
            rw [e0, fold1_60b, hj1, hj2] at hnm
            clear e0
            cases h60 : ((s[j].toNat : Int) == 60) with
            | false =>
              have hz : nm = 0 := by rw [← hnm, h60, Bool.false_and, if_neg (by decide)]
              clear hnm hj1 hj2
              go_wp2_with fail
              go_meet
              exact ⟨by first | (rw [hz]; done) | (rw [hz]; rfl) | (rw [hz]; go_num), hb⟩
            | true =>
              rw [h60, Bool.true_and] at hnm
              by_cases h1 : j1 < s.size
              · have e1 := byteN_in s j 1 j1 hj1 h1
                rw [e1] at hnm
                cases hl1 : M.letterB (M.fold1 s[j1]) with
                | true =>
                  have n47 : ¬ (M.fold1 s[j1]).toNat = 47 := fun h9 => by rw [letter_47 _ h9] at hl1; cases hl1
                  have m47 : ((s[j1].toNat : Int) == 47) = false := by rw [← fold1_47b]; simpa using n47
                  have hz : nm = j1 := by rw [← hnm, if_neg n47, e1, if_pos hl1, if_pos hl1]
                  have HL1 := Lib.hid hl1
                  clear hnm hj1 hj2 e1 n47 hl1
                  by_cases h2 : j2 < s.size
                  · skip
                    go_wp2_with fail
                    refine (isLetter_to s[j1] _ HL1.out _).mono ?_
                    rintro e W9 ⟨rfl, hW9⟩
                    subst hW9
                    go_wp2_with fail
                    go_meet
                    exact ⟨by first | (rw [hz]; done) | (rw [hz]; rfl) | (rw [hz]; go_num), hb⟩
                  · skip
                    go_wp2_with fail
                    refine (isLetter_to s[j1] _ HL1.out _).mono ?_
                    rintro e W9 ⟨rfl, hW9⟩
                    subst hW9
                    go_wp2_with fail
                    go_meet
                    exact ⟨by first | (rw [hz]; done) | (rw [hz]; rfl) | (rw [hz]; go_num), hb⟩
                | false =>
                  have HL1 := Lib.hid hl1
                  cases h47 : ((s[j1].toNat : Int) == 47) with
                  | true =>
                    have m47 : (M.fold1 s[j1]).toNat = 47 := by have h9 := fold1_47b s[j1]; rw [h47] at h9; simpa using h9
                    rw [if_pos m47] at hnm
                    by_cases h2 : j2 < s.size
                    · have e2 := byteN_in s j 2 j2 hj2 h2
                      rw [e2] at hnm
                      cases hl2 : M.letterB (M.fold1 s[j2]) with
                      | true =>
                        have hz : nm = j2 := by rw [← hnm, if_pos hl2, if_neg (by rw [hl1]; decide)]
                        have HL2 := Lib.hid hl2
                        clear hnm hj1 hj2 e1 e2 m47 hl1 hl2
                        go_wp2_with fail
                        refine (isLetter_to s[j1] _ HL1.out _).mono ?_
                        rintro e W9 ⟨rfl, hW9⟩
                        subst hW9
                        go_wp2_with fail
                        refine (isLetter_to s[j2] _ HL2.out _).mono ?_
                        rintro e W9 ⟨rfl, hW9⟩
                        subst hW9
                        go_wp2_with fail
                        go_meet
                        exact ⟨by first | (rw [hz]; done) | (rw [hz]; rfl) | (rw [hz]; go_num), hb⟩
                      | false =>
                        have hz : nm = 0 := by rw [← hnm, if_neg (by rw [hl2]; decide)]
                        have HL2 := Lib.hid hl2
                        clear hnm hj1 hj2 e1 e2 m47 hl1 hl2
                        go_wp2_with fail
                        refine (isLetter_to s[j1] _ HL1.out _).mono ?_
                        rintro e W9 ⟨rfl, hW9⟩
                        subst hW9
                        go_wp2_with fail
                        refine (isLetter_to s[j2] _ HL2.out _).mono ?_
                        rintro e W9 ⟨rfl, hW9⟩
                        subst hW9
                        go_wp2_with fail
                        go_meet
                        exact ⟨by first | (rw [hz]; done) | (rw [hz]; rfl) | (rw [hz]; go_num), hb⟩
                    · have hz : nm = 0 := by rw [← hnm, byteN_out s j 2 (by omega), if_neg (by decide)]
                      clear hnm hj1 hj2 e1 m47 hl1
                      go_wp2_with fail
                      refine (isLetter_to s[j1] _ HL1.out _).mono ?_
                      rintro e W9 ⟨rfl, hW9⟩
                      subst hW9
                      go_wp2_with fail
                      go_meet
                      exact ⟨by first | (rw [hz]; done) | (rw [hz]; rfl) | (rw [hz]; go_num), hb⟩
                  | false =>
                    have n47 : ¬ (M.fold1 s[j1]).toNat = 47 := by have h9 := fold1_47b s[j1]; rw [h47] at h9; simpa using h9
                    have hz : nm = 0 := by rw [← hnm, if_neg n47, e1, if_neg (by rw [hl1]; decide)]
                    clear hnm hj1 hj2 e1 n47 hl1
                    by_cases h2 : j2 < s.size
                    · skip
                      go_wp2_with fail
                      refine (isLetter_to s[j1] _ HL1.out _).mono ?_
                      rintro e W9 ⟨rfl, hW9⟩
                      subst hW9
                      go_wp2_with fail
                      go_meet
                      exact ⟨by first | (rw [hz]; done) | (rw [hz]; rfl) | (rw [hz]; go_num), hb⟩
                    · skip
                      go_wp2_with fail
                      refine (isLetter_to s[j1] _ HL1.out _).mono ?_
                      rintro e W9 ⟨rfl, hW9⟩
                      subst hW9
                      go_wp2_with fail
                      go_meet
                      exact ⟨by first | (rw [hz]; done) | (rw [hz]; rfl) | (rw [hz]; go_num), hb⟩
              · have hz : nm = 0 := by rw [← hnm, byteN_out s j 1 (by omega), if_neg (show ¬ UInt8.toNat 0 = 47 by decide), byteN_out s j 1 (by omega), if_neg (by decide)]
                have h2 : ¬ j2 < s.size := by omega
                clear hnm hj1 hj2
                go_wp2_with fail
                go_meet
                exact ⟨by first | (rw [hz]; done) | (rw [hz]; rfl) | (rw [hz]; go_num), hb⟩
          case rest =>
          obtain ⟨rfl, hb⟩ := hcut
          cases nq with
          | true =>
            obtain ⟨hn1, hn2, hn3, hn4⟩ := hnf hnq
            have hoe : o = some ((s.data.toList.drop j).dropWhile (fun c => !M.endB c)) := by rw [← ho, nameEnd_eq, hnq]; rfl
            rw [hoe] at hst
            have hst : ((0 : Int), (M.attrsA ((s.data.toList.drop j).dropWhile (fun c => !M.endB c))).2.drop 1) = (n, t) := hst
            injection hst with e1 e2
            subst e1
            have HE := Lib.hid e2
            have HN4 := Lib.hid hn4
            have HR := Lib.hid (HS.out.trans (if_pos rfl))
            have g0 : decide (0 < (nm : Int)) = true := by simp; omega
            clear e2 hn4 hoe ho hnq hnf hnm HS hst
            go_upto_block 4 with fail
            go_cut [8] from 118 to 136 (fun v wx => (∃ j : Nat, v = .int .i64 (j : Int) ∧ nm ≤ j ∧ j ≤ s.size ∧ s.data.toList.drop j = (s.data.toList.drop nm).dropWhile (fun c => !M.endB c)) ∧ wc = wx)
            case first =>
              go_wp2_with fail
              go_loop [8] (fun v => ∃ j : Nat, v = .int .i64 (j : Int) ∧ nm ≤ j ∧ j ≤ s.size ∧ Hid ((s.data.toList.drop j).dropWhile (fun c => !M.endB c) = (s.data.toList.drop nm).dropWhile (fun c => !M.endB c))) (fun v => s.size - (intOf v).toNat)
              case atStart => exact ⟨nm, by first | rfl | go_num, Nat.le_refl _, by omega, Lib.hid rfl⟩
              case round =>
                obtain ⟨j, rfl, hsj, hj, HJ⟩ := hrel
                by_cases hlt : j < s.size
                ·
                  cases h62 : ((s[j].toNat : Int) != 62) with
                  | true =>
                    cases hw : M.white s[j] with
                    | true =>
                      have hp : ((fun c => !M.endB c)) s[j] = false := by simp [end_int2, h62, hw]
                      have HR := Lib.hid ((dw_stop ((fun c => !M.endB c)) s j hlt hp).symm.trans HJ.out)
                      have HW := Lib.hid hw
                      clear hp hw
                      go_wp2_with (go_at_call 122; refine (isWhite_any _ _).mono ?_; rintro e w' ⟨rfl, rfl⟩; rw [HW.out])
                      go_meet
                      exact ⟨⟨j, rfl, hsj, hj, HR.out⟩, rfl⟩
                    | false =>
                      have hp : ((fun c => !M.endB c)) s[j] = true := by simp [end_int2, h62, hw]
                      have HR := Lib.hid ((dw_go ((fun c => !M.endB c)) s j hlt hp).trans HJ.out)
                      have HW := Lib.hid hw
                      clear hp hw
                      go_wp2_with (go_at_call 122; refine (isWhite_any _ _).mono ?_; rintro e w' ⟨rfl, rfl⟩; rw [HW.out])
                      go_round
                      case rel => exact ⟨j + 1, by go_num, by omega, by omega, HR⟩
                      case measure => simp [intOf]; omega
                  | false =>
                    have hp : ((fun c => !M.endB c)) s[j] = false := by simp [end_int2, h62]
                    have HR := Lib.hid ((dw_stop ((fun c => !M.endB c)) s j hlt hp).symm.trans HJ.out)
                    clear hp
                    go_wp2_with fail
                    go_meet
                    exact ⟨⟨j, rfl, hsj, hj, HR.out⟩, rfl⟩
                · obtain rfl : j = s.size := by omega
                  have HR := Lib.hid (show s.data.toList.drop s.size = (s.data.toList.drop nm).dropWhile (fun c => !M.endB c) by rw [← HJ.out, drop_end]; rfl)
                  go_wp2_with fail
                  go_meet
                  exact ⟨⟨s.size, rfl, hsj, hj, HR.out⟩, rfl⟩
            case rest =>
            obtain ⟨⟨k, rfl, hnk, hk, hdk⟩, rfl⟩ := hcut
            rw [HN4.out] at hdk
            obtain ⟨xs, r, hn⟩ : ∃ xs r, M.attrsA (s.data.toList.drop k) = (xs, r) := ⟨_, _, rfl⟩
            have e2 : r.drop 1 = t := by have h9 := HE.out; rw [← hdk, hn] at h9; exact h9
            have hsuf := (M.attrsA_suf _ (s.data.toList.drop k) (Nat.le_refl _)).1
            rw [hn] at hsuf
            have hrd := M.Suf.at (M.Suf.trans (a := r) hsuf (M.Suf.drop s.data.toList k))
            rw [← Lib.size_eq] at hrd
            have hrl := hsuf.len
            rw [List.length_drop, ← Lib.size_eq] at hrl
            have hrl : r.length ≤ s.size - k := hrl
            have T := fun W => attrsAt_any s k (by omega) (by omega) xs r hn W
            obtain ⟨en, hen⟩ : ∃ en : Nat, en = s.size - r.length := ⟨_, rfl⟩
            rw [← hen] at T hrd
            have hen1 : k ≤ en := by omega
            have hen2 : en ≤ s.size := by omega
            have HD := Lib.hid hrd
            clear hrd hsuf hrl hen
            have TG := Lib.hid T
            have HX := Lib.hid (show M.scanA s0.data.toList = M.scan0 (s.data.toList.drop (en + 1)) by rw [HR.out, ← e2, HD.out, List.drop_drop])
            clear T hn e2 hdk HE HN4 HR HD
            go_wp2_with fail
            refine (TG.out _).mono ?_
            rintro e W3 ⟨v, rfl, hown, hbb⟩
            have hb := hb.trans hbb
            go_wp2_with fail
            go_roundg (s.size + 3 - (en + 1))
            case measure => omega
            case rel => exact ⟨en + 1, by go_num, by omega, Nat.le_refl _, hb, HX⟩
          | false =>
            have hz : nm = 0 := by rw [← hnm, nameAt, hnq, if_neg (by decide)]
            have hon : o = none := by rw [← ho, nameEnd_eq, hnq]; rfl
            rw [hon] at hst
            have hst : (if b3 = true ∨ b4 = true ∨ b6 = true then ((0 : Int), M.behindF [62] (s.data.toList.drop j)) else (0, (s.data.toList.drop j).drop 1)) = (n, t) := hst
            clear hnm hnf hnq ho hon
            subst hz
            go_upto_region 27 with fail
            go_cut [157] from 145 to 157 (fun v wx => v = .bool (b3 || b4 || b6) ∧ Bel w wx)
            case first =>
              clear hst HS
              cases b3 with
              | true =>
                go_wp2_with fail
                refine (BG3.out _).mono ?_
                rintro e W2 ⟨rfl, hbb⟩
                go_wp2_with fail
                go_meet
                exact ⟨rfl, hb.trans hbb⟩
              | false =>
                cases b4 with
                | true =>
                  go_wp2_with fail
                  refine (BG3.out _).mono ?_
                  rintro e W2 ⟨rfl, hbb⟩
                  have hb := hb.trans hbb
                  go_wp2_with fail
                  refine (BG4.out _).mono ?_
                  rintro e W3 ⟨rfl, hbb⟩
                  go_wp2_with fail
                  go_meet
                  exact ⟨rfl, hb.trans hbb⟩
                | false =>
                  go_wp2_with fail
                  refine (BG3.out _).mono ?_
                  rintro e W2 ⟨rfl, hbb⟩
                  have hb := hb.trans hbb
                  go_wp2_with fail
                  refine (BG4.out _).mono ?_
                  rintro e W3 ⟨rfl, hbb⟩
                  have hb := hb.trans hbb
                  go_wp2_with fail
                  refine (BG6.out _).mono ?_
                  rintro e W4 ⟨rfl, hbb⟩
                  go_wp2_with fail
                  go_meet
                  exact ⟨by simp, hb.trans hbb⟩
            case rest =>
            obtain ⟨rfl, hb⟩ := hcut
            cases hq : (b3 || b4 || b6) with
            | true =>
              rw [if_pos (by simpa [Bool.or_eq_true, or_assoc] using hq), behind_62] at hst
              injection hst with e1 e2
              subst e1
              have HE := Lib.hid e2
              have HR := Lib.hid (HS.out.trans (if_pos rfl))
              clear e2 HS hq
              go_upto_if 157 with fail
              go_cut [3] from 158 to 169 (fun v wx => (∃ k : Nat, v = .int .i64 (k : Int) ∧ j ≤ k ∧ k ≤ s.size ∧ s.data.toList.drop (k + 1) = t) ∧ Bel w wx)
              case first =>
                go_wp2_with fail
                go_loop [3] (fun v => ∃ k : Nat, v = .int .i64 (k : Int) ∧ j ≤ k ∧ k ≤ s.size ∧ Hid (((s.data.toList.drop k).dropWhile p62).drop 1 = t)) (fun v => s.size - (intOf v).toNat)
                case atStart => exact ⟨j, rfl, Nat.le_refl _, by omega, HE⟩
                case round =>
                  obtain ⟨k, rfl, hjk, hk, HK⟩ := hrel
                  by_cases hkl : k < s.size
                  · cases hc : ((s[k].toNat : Int) != 62) with
                    | true =>
                      have HX := Lib.hid (show ((s.data.toList.drop (k + 1)).dropWhile p62).drop 1 = t by rw [dw_go p62 s k hkl hc]; exact HK.out)
                      clear HK
                      go_wp2_with fail
                      go_round
                      case rel => exact ⟨k + 1, by go_num, by omega, by omega, HX⟩
                      case measure => simp [intOf]; omega
                    | false =>
                      have HX := Lib.hid (show s.data.toList.drop (k + 1) = t by rw [← HK.out, dw_stop p62 s k hkl hc, List.drop_drop])
                      clear HK
                      go_wp2_with fail
                      go_meet
                      exact ⟨⟨k, rfl, hjk, hk, HX.out⟩, hb⟩
                  · obtain rfl : k = s.size := by omega
                    have HX := Lib.hid (show s.data.toList.drop (s.size + 1) = t by rw [← HK.out, drop_end, List.drop_eq_nil_of_le (by rw [← Lib.size_eq]; omega)]; rfl)
                    go_wp2_with fail
                    go_meet
                    exact ⟨⟨s.size, rfl, hjk, hk, HX.out⟩, hb⟩
              case rest =>
              obtain ⟨⟨k, rfl, hjk, hk, hdk⟩, hb⟩ := hcut
              have HX := Lib.hid (show M.scanA s0.data.toList = M.scan0 (s.data.toList.drop (k + 1)) by rw [HR.out, hdk])
              clear hdk HR HE
              go_wp2_with fail
              go_roundg (s.size + 3 - (k + 1))
              case measure => omega
              case rel => exact ⟨k + 1, by go_num, by omega, Nat.le_refl _, hb, HX⟩
            | false =>
              rw [if_neg (by intro h9; simp [Bool.or_eq_false_iff] at hq; obtain ⟨⟨q1, q2⟩, q3⟩ := hq; rw [q1, q2, q3] at h9; rcases h9 with h9 | h9 | h9 <;> cases h9), List.drop_drop] at hst
              injection hst with e1 e2
              subst e1
              have HX := Lib.hid (show M.scanA s0.data.toList = M.scan0 (s.data.toList.drop (j + 1)) by rw [HS.out, if_pos rfl, e2])
              clear e2 HS hq
              go_wp2_with fail
              go_roundg (s.size + 3 - (j + 1))
              case measure => omega
              case rel => exact ⟨j + 1, by go_num, by omega, Nat.le_refl _, hb, HX⟩
    · have HR := Lib.hid (show M.scanA s0.data.toList = 0 by rw [HJ.out, List.drop_eq_nil_of_le (by rw [← Lib.size_eq]; omega)]; rfl)
      go_wp2_with fail
      go_ret
      exact ⟨by rw [HR.out]; rfl, hb⟩
end Go.Proofs.YteingkjdemlhgaaGreatDoor

/-
  The document's answers on marks: what the reference computes is what the package computes.
-/
namespace Go.Proofs.YteingkjdemlhgaaGreatDoor
open Go.RowKit
theorem markOf_any (n : Int) (w : World) : Calls Tryz.prog 32 #[.int .i64 n] w fun e w' => e = .returned (.string ⟨(M.markOf n).toArray⟩) ∧ w = w' := by
  have H : (n == 1) = true ∨ (n == 1) = false ∧ ((n == 2) = true ∨ (n == 2) = false ∧ ((n == 3) = true ∨ (n == 3) = false)) := by
    cases (n == 1) <;> cases (n == 2) <;> cases (n == 3) <;> simp
  rcases H with h | ⟨h, h2 | ⟨h2, h3 | h3⟩⟩
  all_goals
    go_enter Tryz.func32, Tryz.ntmps32
    go_wp2
    go_ret
    refine ⟨?_, rfl⟩
  · obtain rfl : n = 1 := by simpa using h
    rfl
  · obtain rfl : n = 2 := by simpa using h2
    rfl
  · obtain rfl : n = 3 := by simpa using h3
    rfl
  · have e : M.markOf n = [] := by
      simp only [beq_eq_false_iff_ne, ne_eq] at h h2 h3
      rw [M.markOf, if_neg (fun x => h x.symm), if_neg (fun x => h3 x.symm), if_neg (fun x => h2 x.symm)]
    rw [e]; rfl
theorem sniffOf_any (s : ByteArray) (w : World) : Calls Tryz.prog 81 #[.string s] w fun e w' => e = .returned (.tuple #[.int .i64 (M.sniff s.data.toList).1, .int .i64 (M.sniff s.data.toList).2]) ∧ w = w' := by
  have e1 : M.markOf 1 = [239, 187, 191] := rfl
  have e2 : M.markOf 2 = [255, 254] := rfl
  have e3 : M.markOf 3 = [254, 255] := rfl
  have HS := Lib.hid (show M.sniff s.data.toList = (if (decide ((3 : Int) ≤ (s.size : Int)) && ((s.extract 0 3).toList == [239, 187, 191])) = true then (1, 3) else if (decide ((2 : Int) ≤ (s.size : Int)) && ((s.extract 0 2).toList == [254, 255])) = true then (3, 2) else if (decide ((2 : Int) ≤ (s.size : Int)) && ((s.extract 0 2).toList == [255, 254])) = true then (2, 2) else (0, 0)) by
    have H1 := Lib.hasPrefix_raw s ⟨#[239, 187, 191]⟩
    have H2 := Lib.hasPrefix_raw s ⟨#[255, 254]⟩
    have H3 := Lib.hasPrefix_raw s ⟨#[254, 255]⟩
    have d3 : decide ((3 : Int) ≤ (s.size : Int)) = decide (3 ≤ s.size) := by norm_cast
    have d2 : decide ((2 : Int) ≤ (s.size : Int)) = decide (2 ≤ s.size) := by norm_cast
    rw [d3, d2]
    unfold M.sniff
    rw [show ([239, 187, 191] : List UInt8) = (⟨#[239, 187, 191]⟩ : ByteArray).data.toList from rfl, show ([255, 254] : List UInt8) = (⟨#[255, 254]⟩ : ByteArray).data.toList from rfl, show ([254, 255] : List UInt8) = (⟨#[254, 255]⟩ : ByteArray).data.toList from rfl, ← H1, ← H2, ← H3]
    simp [show (⟨#[239, 187, 191]⟩ : ByteArray).size = 3 from rfl, show (⟨#[254, 255]⟩ : ByteArray).size = 2 from rfl, show (⟨#[255, 254]⟩ : ByteArray).size = 2 from rfl])
  go_enter Tryz.func81, Tryz.ntmps81
  go_wp2_with (go_at_call 32; refine (markOf_any _ _).mono ?_; rintro e w' ⟨rfl, rfl⟩)
  refine wp_loop_rounds 4 ?_
  rw [rounds_succ]
  go_wp2_with (go_at_call 32; refine (markOf_any _ _).mono ?_; rintro e w' ⟨rfl, rfl⟩)
  all_goals try (rw [rounds_succ]; go_wp2_with (go_at_call 32; refine (markOf_any _ _).mono ?_; rintro e w' ⟨rfl, rfl⟩))
  all_goals try (rw [rounds_succ]; go_wp2_with (go_at_call 32; refine (markOf_any _ _).mono ?_; rintro e w' ⟨rfl, rfl⟩))
  all_goals try (rw [rounds_succ]; go_wp2_with (go_at_call 32; refine (markOf_any _ _).mono ?_; rintro e w' ⟨rfl, rfl⟩))
  all_goals try (go_quiet (fail); go_wp2)
  all_goals go_ret2
  all_goals refine ⟨?_, rfl⟩
  all_goals (try have n2 : decide ((2 : Int) ≤ (s.size : Int)) = false := by (simp; omega))
  all_goals (try have n3 : decide ((3 : Int) ≤ (s.size : Int)) = false := by (simp; omega))
  all_goals (try have p2 : decide ((2 : Int) ≤ (s.size : Int)) = true := by (simp; omega))
  all_goals (try have p3 : decide ((3 : Int) ≤ (s.size : Int)) = true := by (simp; omega))
  all_goals rw [HS.out]
  all_goals (try simp only [*, Bool.false_and, Bool.true_and])
  all_goals (try simp_all)
end Go.Proofs.YteingkjdemlhgaaGreatDoor

/-
  The document's answers on fronts: ChooseOf, IsEnough.
-/
namespace Go.Proofs.YteingkjdemlhgaaGreatDoor
open Go.RowKit
set_option maxRecDepth 1000000
set_option maxHeartbeats 2000000
theorem sniffQ_to (s : ByteArray) (n k : Int) (h : M.sniff s.data.toList = (n, k)) (w : World) : Calls Tryz.prog 81 #[.string s] w fun e w' => e = .returned (.tuple #[.int .i64 n, .int .i64 k]) ∧ w = w' := by
  have := sniffOf_any s w; rw [h] at this; exact this
theorem findQ_to (s : ByteArray) (n : Int) (h : M.find s.data.toList = n) (hs : s.size ≤ 68719476735) (w : World) : Calls Tryz.prog 82 #[.string s] w fun e w' => e = .returned (.int .i64 n) ∧ Bel w w' := by
  have := findOf_any s w hs; rw [h] at this; exact this
theorem scanQ_to (s : ByteArray) (n : Int) (h : M.scanA s.data.toList = n) (hs : s.size ≤ 9000) (w : World) : Calls Tryz.prog 83 #[.string s] w fun e w' => e = .returned (.int .i64 n) ∧ Bel w w' := by
  have := scanRef_any s hs w; rw [h] at this; exact this
theorem chooseOf_to (nm s : ByteArray) (n y k : Int) (h : M.chosen nm.data.toList s.data.toList = (n, y, k)) (hn : nm.size ≤ 68719476735) (hs : s.size ≤ 9000) (w : World) : Calls Tryz.prog 52 #[.string nm, .string s] w fun e w' => e = .returned (.tuple #[.int .i64 n, .int .i64 y, .int .i64 k]) ∧ Bel w w' := by
  obtain ⟨a, b, hsn⟩ : ∃ a b, M.sniff s.data.toList = (a, b) := ⟨_, _, rfl⟩
  have HSN := Lib.hid hsn
  obtain ⟨f, hf⟩ : ∃ f, M.find nm.data.toList = f := ⟨_, rfl⟩
  have HF := Lib.hid hf
  obtain ⟨m, hm⟩ : ∃ m, M.scanA s.data.toList = m := ⟨_, rfl⟩
  have HM := Lib.hid hm
  rw [M.chosen, hsn, hf, hm] at h
  simp only at h
  by_cases h1 : a = 0
  · rw [if_neg (by simp [h1])] at h
    by_cases h2 : f = 0
    · rw [if_neg (by simp [h2])] at h
      by_cases h3 : m = 0
      · rw [if_neg (by simp [h3])] at h
        simp only [Prod.mk.injEq] at h
        obtain ⟨rfl, rfl, rfl⟩ := h
        subst h1; subst h2; subst h3
        clear hsn hf hm
        go_enter Tryz.func52, Tryz.ntmps52
        go_wp2_with fail
        refine (sniffQ_to s _ _ HSN.out _).mono ?_
        rintro e _ ⟨rfl, rfl⟩
        go_wp2_with fail
        refine (findQ_to nm _ HF.out hn _).mono ?_
        rintro e w2 ⟨rfl, b2⟩
        go_wp2_with fail
        refine (scanQ_to s _ HM.out hs _).mono ?_
        rintro e w3 ⟨rfl, b3⟩
        have b3 := b2.trans b3
        go_wp2_with fail
        refine bodyPost_ret (v := .tuple #[.int .i64 4, .int .i64 4, .int .i64 0]) (by simp [results, Tryz.results52, go_sem]) rfl ?_
        exact ⟨rfl, b3⟩
      · rw [if_pos h3] at h
        simp only [Prod.mk.injEq] at h
        obtain ⟨rfl, rfl, rfl⟩ := h
        subst h1; subst h2
        have g3 : (m != 0) = true := by simpa using h3
        clear hsn hf hm h3
        go_enter Tryz.func52, Tryz.ntmps52
        go_wp2_with fail
        refine (sniffQ_to s _ _ HSN.out _).mono ?_
        rintro e _ ⟨rfl, rfl⟩
        go_wp2_with fail
        refine (findQ_to nm _ HF.out hn _).mono ?_
        rintro e w2 ⟨rfl, b2⟩
        go_wp2_with fail
        refine (scanQ_to s _ HM.out hs _).mono ?_
        rintro e w3 ⟨rfl, b3⟩
        have b3 := b2.trans b3
        go_wp2_with fail
        refine bodyPost_ret (v := .tuple #[.int .i64 m, .int .i64 3, .int .i64 0]) (by simp [results, Tryz.results52, go_sem]) rfl ?_
        exact ⟨rfl, b3⟩
    · rw [if_pos h2] at h
      simp only [Prod.mk.injEq] at h
      obtain ⟨rfl, rfl, rfl⟩ := h
      subst h1
      have g2 : (f != 0) = true := by simpa using h2
      clear hsn hf hm h2
      go_enter Tryz.func52, Tryz.ntmps52
      go_wp2_with fail
      refine (sniffQ_to s _ _ HSN.out _).mono ?_
      rintro e _ ⟨rfl, rfl⟩
      go_wp2_with fail
      refine (findQ_to nm _ HF.out hn _).mono ?_
      rintro e w2 ⟨rfl, b2⟩
      go_wp2_with fail
      refine bodyPost_ret (v := .tuple #[.int .i64 f, .int .i64 2, .int .i64 0]) (by simp [results, Tryz.results52, go_sem]) rfl ?_
      exact ⟨rfl, b2⟩
  · rw [if_pos h1] at h
    simp only [Prod.mk.injEq] at h
    obtain ⟨rfl, rfl, rfl⟩ := h
    have g1 : (a != 0) = true := by simpa using h1
    clear hsn hf hm h1
    go_enter Tryz.func52, Tryz.ntmps52
    go_wp2_with fail
    refine (sniffQ_to s _ _ HSN.out _).mono ?_
    rintro e _ ⟨rfl, rfl⟩
    go_wp2_with fail
    refine bodyPost_ret (v := .tuple #[.int .i64 a, .int .i64 1, .int .i64 b]) (by simp [results, Tryz.results52, go_sem]) rfl ?_
    exact ⟨rfl, Bel.refl _⟩
end Go.Proofs.YteingkjdemlhgaaGreatDoor

/-
  Bits: 'or' of numbers whose bits lie apart is their sum.
-/
namespace Go.Proofs.YteingkjdemlhgaaGreatDoor
open Go.RowKit
theorem ofInt_i64 (a : Nat) (ha : a < 9223372036854775808) : (BitVec.ofInt 64 (a : Int)).toNat = a := by
  rw [BitVec.ofInt_natCast, BitVec.toNat_ofNat]; exact Nat.mod_eq_of_lt (by omega)
theorem i64_or_nat (a b : Nat) (ha : a < 9223372036854775808) (hb : b < 9223372036854775808) : bits .or .i64 (a : Int) (b : Int) = ((a ||| b : Nat) : Int) := by
  have hx : a ||| b < 2 ^ 63 := Nat.or_lt_two_pow (by omega) (by omega)
  show IntKind.i64.wrap ((BitVec.ofInt 64 (a : Int) ||| BitVec.ofInt 64 (b : Int)).toNat : Int) = _
  rw [BitVec.toNat_or, ofInt_i64 a ha, ofInt_i64 b hb, IntKind.wrap_i64]
  omega
theorem i64_and_nat (a b : Nat) (ha : a < 9223372036854775808) (hb : b < 9223372036854775808) : bits .and .i64 (a : Int) (b : Int) = ((a &&& b : Nat) : Int) := by
  have hx : a &&& b < 2 ^ 63 := Nat.and_lt_two_pow _ (by omega)
  show IntKind.i64.wrap ((BitVec.ofInt 64 (a : Int) &&& BitVec.ofInt 64 (b : Int)).toNat : Int) = _
  rw [BitVec.toNat_and, ofInt_i64 a ha, ofInt_i64 b hb, IntKind.wrap_i64]
  omega
theorem and_63 (x : Int) (h0 : 0 ≤ x) (h1 : x ≤ 4611686018427387904) : bits .and .i64 x 63 = x % 64 := by
  obtain ⟨m, rfl⟩ := Int.eq_ofNat_of_zero_le h0
  have := i64_and_nat m 63 (by omega) (by omega)
  rw [show (63 : Nat) = 2 ^ 6 - 1 from rfl, Nat.and_two_pow_sub_one_eq_mod] at this
  rw [show ((63 : Int)) = ((2 ^ 6 - 1 : Nat) : Int) from rfl, this]
  omega
/-- Bits that lie apart. -/
theorem or_apart (i a : Nat) (x : Int) (h0 : 0 ≤ x) (h1 : x < 2 ^ i) (hb : 2 ^ i * a + 2 ^ i ≤ 9223372036854775807) : bits .or .i64 ((2 ^ i * a : Nat) : Int) x = ((2 ^ i * a : Nat) : Int) + x := by
  obtain ⟨b, rfl⟩ := Int.eq_ofNat_of_zero_le h0
  have hb2 : b < 2 ^ i := by exact_mod_cast h1
  rw [i64_or_nat _ _ (by omega) (by omega), ← Nat.two_pow_add_eq_or_of_lt hb2 a]
  simp
theorem or_64 (n x : Int) (hn : 0 ≤ n) (hn2 : n ≤ 33554431) (h0 : 0 ≤ x) (h1 : x < 64) : bits .or .i64 (n * 64) x = n * 64 + x := by
  obtain ⟨m, rfl⟩ := Int.eq_ofNat_of_zero_le hn
  have := or_apart 6 m x h0 (by simpa using h1) (by omega)
  rw [show (((2 ^ 6 * m : Nat)) : Int) = (m : Int) * 64 by omega] at this
  exact this
theorem or_128 (x : Int) (h0 : 0 ≤ x) (h1 : x < 64) : bits .or .i64 128 x = 128 + x := by
  have := or_apart 6 2 x h0 (by simpa using h1) (by omega)
  exact this
theorem or_192 (x : Int) (h0 : 0 ≤ x) (h1 : x < 64) : bits .or .i64 192 x = 192 + x := by
  have := or_apart 6 3 x h0 (by simpa using h1) (by omega)
  exact this
theorem or_224 (x : Int) (h0 : 0 ≤ x) (h1 : x < 32) : bits .or .i64 224 x = 224 + x := by
  have := or_apart 5 7 x h0 (by simpa using h1) (by omega)
  exact this
theorem or_240 (x : Int) (h0 : 0 ≤ x) (h1 : x < 16) : bits .or .i64 240 x = 240 + x := by
  have := or_apart 4 15 x h0 (by simpa using h1) (by omega)
  exact this
theorem or_256 (n x : Int) (hn : 0 ≤ n) (hn2 : n ≤ 33554431) (h0 : 0 ≤ x) (h1 : x < 256) : bits .or .i64 (n * 256) x = n * 256 + x := by
  obtain ⟨m, rfl⟩ := Int.eq_ofNat_of_zero_le hn
  have := or_apart 8 m x h0 (by simpa using h1) (by omega)
  rw [show (((2 ^ 8 * m : Nat)) : Int) = (m : Int) * 256 by omega] at this
  exact this
end Go.Proofs.YteingkjdemlhgaaGreatDoor

/-
  Package utf8: what lead, first, Told, All, Decode compute.
-/
namespace Go.Proofs.YteingkjdemlhgaaGreatDoor
open Go.RowKit
set_option maxRecDepth 100000
theorem results_tmp4 {fn : Func} {t u v x : Tmp} (h : fn.results = #[.tmp t, .tmp u, .tmp v, .tmp x]) (tmps : Array Value) (P : Program) (w : World) :
    (results fn tmps).run P w = .ok (.tuple #[tmps.getD t undef, tmps.getD u undef, tmps.getD v undef, tmps.getD x undef]) w := by simp [results, h]
theorem lead_any (c : Nat) (hc : c < 256) (w : World) : Calls Tryz.prog 181 #[.int .u8 (c : Int)] w fun e w' => e = .returned (.tuple #[.int .i64 (M.lead8 c).1, .int .i64 (M.lead8 c).2.1, .int .u8 (M.lead8 c).2.2.1, .int .u8 (M.lead8 c).2.2.2]) ∧ w = w' := by
  by_cases h0 : c < 128
  · have H := Lib.hid (show M.lead8 c = (0, (c : Int), 0, 0) by rw [M.lead8, if_pos h0])
    go_enter Tryz.func181, Tryz.ntmps181
    go_wp2
    refine bodyPost_ret (results_tmp4 rfl _ _ _) rfl ?_
    rw [H.out]
    exact ⟨rfl, rfl⟩
  · skip
    by_cases h1 : c < 194 ∨ 244 < c
    · have H := Lib.hid (show M.lead8 c = (-1, 0, 0, 0) by rw [M.lead8, if_neg h0, if_pos h1])
      rcases h1 with h1 | h1
      all_goals
        go_enter Tryz.func181, Tryz.ntmps181
        go_wp2
        refine bodyPost_ret (results_tmp4 rfl _ _ _) rfl ?_
        rw [H.out]
        exact ⟨rfl, rfl⟩
    · skip
      by_cases h2 : c < 224
      · have H := Lib.hid (show M.lead8 c = (1, (c : Int) % 32, 128, 191) by rw [M.lead8, if_neg h0, if_neg h1, if_pos h2])
        go_enter Tryz.func181, Tryz.ntmps181
        go_wp2
        refine bodyPost_ret (results_tmp4 rfl _ _ _) rfl ?_
        rw [H.out]
        exact ⟨rfl, rfl⟩
      · skip
        by_cases h3 : c = 224
        · have H := Lib.hid (show M.lead8 c = (2, 0, 160, 191) by rw [M.lead8, if_neg h0, if_neg h1, if_neg h2, if_pos h3])
          have e3 : ((c : Int) == 224) = true := by rw [beq_iff_eq]; omega
          clear h3
          go_enter Tryz.func181, Tryz.ntmps181
          go_wp2
          refine bodyPost_ret (results_tmp4 rfl _ _ _) rfl ?_
          rw [H.out]
          exact ⟨rfl, rfl⟩
        · skip
          have e3 : ((c : Int) == 224) = false := by rw [beq_eq_false_iff_ne]; omega
          by_cases h4 : c = 237
          · have H := Lib.hid (show M.lead8 c = (2, 13, 128, 159) by rw [M.lead8, if_neg h0, if_neg h1, if_neg h2, if_neg h3, if_pos h4])
            have e4 : ((c : Int) == 237) = true := by rw [beq_iff_eq]; omega
            clear h4
            go_enter Tryz.func181, Tryz.ntmps181
            go_wp2
            refine bodyPost_ret (results_tmp4 rfl _ _ _) rfl ?_
            rw [H.out]
            exact ⟨rfl, rfl⟩
          · skip
            have e4 : ((c : Int) == 237) = false := by rw [beq_eq_false_iff_ne]; omega
            by_cases h5 : c < 240
            · have H := Lib.hid (show M.lead8 c = (2, (c : Int) % 16, 128, 191) by rw [M.lead8, if_neg h0, if_neg h1, if_neg h2, if_neg h3, if_neg h4, if_pos h5])
              go_enter Tryz.func181, Tryz.ntmps181
              go_wp2
              refine bodyPost_ret (results_tmp4 rfl _ _ _) rfl ?_
              rw [H.out]
              exact ⟨rfl, rfl⟩
            · skip
              by_cases h6 : c = 240
              · have H := Lib.hid (show M.lead8 c = (3, 0, 144, 191) by rw [M.lead8, if_neg h0, if_neg h1, if_neg h2, if_neg h3, if_neg h4, if_neg h5, if_pos h6])
                have e6 : ((c : Int) == 240) = true := by rw [beq_iff_eq]; omega
                clear h6
                go_enter Tryz.func181, Tryz.ntmps181
                go_wp2
                refine bodyPost_ret (results_tmp4 rfl _ _ _) rfl ?_
                rw [H.out]
                exact ⟨rfl, rfl⟩
              · skip
                have e6 : ((c : Int) == 240) = false := by rw [beq_eq_false_iff_ne]; omega
                by_cases h7 : c = 244
                · have H := Lib.hid (show M.lead8 c = (3, 4, 128, 143) by rw [M.lead8, if_neg h0, if_neg h1, if_neg h2, if_neg h3, if_neg h4, if_neg h5, if_neg h6, if_pos h7])
                  have e7 : ((c : Int) == 244) = true := by rw [beq_iff_eq]; omega
                  clear h7
                  go_enter Tryz.func181, Tryz.ntmps181
                  go_wp2
                  refine bodyPost_ret (results_tmp4 rfl _ _ _) rfl ?_
                  rw [H.out]
                  exact ⟨rfl, rfl⟩
                · skip
                  have e7 : ((c : Int) == 244) = false := by rw [beq_eq_false_iff_ne]; omega
                  have H := Lib.hid (show M.lead8 c = (3, (c : Int) % 8, 128, 191) by rw [M.lead8, if_neg h0, if_neg h1, if_neg h2, if_neg h3, if_neg h4, if_neg h5, if_neg h6, if_neg h7])
                  go_enter Tryz.func181, Tryz.ntmps181
                  go_wp2
                  refine bodyPost_ret (results_tmp4 rfl _ _ _) rfl ?_
                  rw [H.out]
                  exact ⟨rfl, rfl⟩
theorem lead_to (c : Nat) (hc : c < 256) (m n lo hi : Int) (h : M.lead8 c = (m, n, lo, hi)) (w : World) : Calls Tryz.prog 181 #[.int .u8 (c : Int)] w fun e w' => e = .returned (.tuple #[.int .i64 m, .int .i64 n, .int .u8 lo, .int .u8 hi]) ∧ w = w' := by
  have := lead_any c hc w; rw [h] at this; exact this
theorem first_any (s : ByteArray) (hs : 0 < s.size) (hs2 : s.size ≤ 68719476735) (w : World) : Calls Tryz.prog 157 #[.string s] w fun e w' => e = .returned (.tuple #[.int .i64 (M.first8 s.data.toList).1, .int .i64 (M.first8 s.data.toList).2.1, .bool (M.first8 s.data.toList).2.2]) ∧ w = w' := by
  have hz := Lib.hid (Lib.size_eq s)
  obtain ⟨⟨m, n, lo, hi⟩, hl⟩ : ∃ r, M.lead8 s[0].toNat = r := ⟨_, rfl⟩
  have hcons : s.data.toList = s[0] :: s.data.toList.drop 1 := by
    have h0 : 0 < s.data.toList.length := by rw [← Lib.size_eq]; exact hs
    have := List.drop_eq_getElem_cons h0
    rw [List.drop_zero] at this
    exact this
  have hf : M.first8 s.data.toList = if m < 0 then (65533, 1, true) else M.go8 m.toNat (s.data.toList.drop 1) 1 n lo hi := by
    rw [hcons, M.first8, hl]; simp
  have hbd := M.lead8_bounds s[0].toNat
  rw [hl] at hbd
  have Hl := Lib.hid hl
  clear hl hcons
  have hcb : s[0].toNat < 256 := s[0].toNat_lt
  rcases hbd with hm | ⟨hm0, hm3, hn0, hn1, hlo0, hlo1, hhi0, hhi1⟩
  · have hm' : m = -1 := hm
    subst hm'
    have HF := Lib.hid (show M.first8 s.data.toList = (65533, 1, true) by rw [hf, if_pos (by decide)])
    clear hf
    go_enter Tryz.func157, Tryz.ntmps157
    go_wp2_with (go_at_call 181; refine (lead_to _ hcb _ _ _ _ Hl.out _).mono ?_; rintro e w' ⟨rfl, rfl⟩)
    go_ret3
    rw [HF.out]
    exact ⟨rfl, rfl⟩
  · obtain ⟨mm, rfl⟩ := Int.eq_ofNat_of_zero_le hm0
    rw [if_neg (by omega), Int.toNat_natCast] at hf
    have HF := Lib.hid hf
    clear hf
    go_enter Tryz.func157, Tryz.ntmps157
    go_wp2_with (go_at_call 181; refine (lead_to _ hcb _ _ _ _ Hl.out _).mono ?_; rintro e w' ⟨rfl, rfl⟩)
    go_loop [6, 7, 8, 9] (fun vn vlo vhi vi => ∃ (k d : Nat) (n lo hi : Int), 1 ≤ k ∧ k + d = mm + 1 ∧ k ≤ s.size ∧ vi = .int .i64 k ∧ vn = .int .i64 n ∧ vlo = .int .u8 lo ∧ vhi = .int .u8 hi ∧ 0 ≤ n ∧ (n + 1) * 64 ^ d ≤ 33554432 ∧ Hid (M.first8 s.data.toList = M.go8 d (s.data.toList.drop k) k n lo hi)) (fun _ _ _ i => 5 - (intOf i).toNat)
    case atStart =>
      refine ⟨1, mm, n, lo, hi, by omega, by omega, by omega, rfl, rfl, rfl, rfl, hn0, ?_, HF⟩
      have : mm = 0 ∨ mm = 1 ∨ mm = 2 ∨ mm = 3 := by omega
      rcases this with rfl | rfl | rfl | rfl <;> omega
    case round =>
      obtain ⟨k, d, n, lo, hi, hk1, hkd, hks, rfl, rfl, rfl, rfl, hn0, hnd, HG⟩ := hrel
      have hk5 : k ≤ 4 := by omega
      have HZ := hz
      cases d with
      | zero =>
        have hk : mm + 1 = k := by omega
        have g1 : (mm : Int) < (k : Int) := by omega
        have g2 : (mm : Int) + 1 = (k : Int) := by omega
        have G2 := Lib.hid g2
        clear hk g2 hkd
        go_wp2_with fail
        go_ret3
        rw [HG.out, M.go8]
        refine ⟨?_, rfl⟩
        rw [← G2.out]
        rfl
      | succ d =>
        have hkm : (k : Int) ≤ (mm : Int) := by omega
        have hn2 : n ≤ 33554431 := by
          have h1 : 1 ≤ 64 ^ (d + 1) := Nat.pow_pos (by decide)
          have h2 : (n + 1) * 1 ≤ (n + 1) * 64 ^ (d + 1) := Int.mul_le_mul_of_nonneg_left (by exact_mod_cast h1) (by omega)
          omega
        by_cases he : k = s.size
        · have HD := Lib.hid (show M.first8 s.data.toList = (65533, (k : Int), false) by
            rw [HG.out, List.drop_of_length_le (by rw [← Lib.size_eq]; omega), M.go8])
          have e1 : ((k : Int) == (s.size : Int)) = true := by rw [beq_iff_eq]; omega
          clear he hnd hkd
          go_wp2_with fail
          go_ret3
          rw [HD.out]
          exact ⟨rfl, rfl⟩
        · have hlt : k < s.size := by omega
          have e1 : ((k : Int) == (s.size : Int)) = false := by rw [beq_eq_false_iff_ne]; omega
          have hdrop : s.data.toList.drop k = s[k] :: s.data.toList.drop (k + 1) := by
            exact List.drop_eq_getElem_cons (by rw [← Lib.size_eq]; exact hlt)
          by_cases h1 : (s[k].toNat : Int) < lo
          · have HD := Lib.hid (show M.first8 s.data.toList = (65533, (k : Int), true) by
              rw [HG.out, hdrop, M.go8, if_pos (.inl h1)])
            clear he hnd hkd hdrop
            go_wp2_with fail
            go_ret3
            rw [HD.out]
            exact ⟨rfl, rfl⟩
          · by_cases h2 : hi < (s[k].toNat : Int)
            · have HD := Lib.hid (show M.first8 s.data.toList = (65533, (k : Int), true) by
                rw [HG.out, hdrop, M.go8, if_pos (.inr h2)])
              clear he hnd hkd hdrop
              go_wp2_with fail
              go_ret3
              rw [HD.out]
              exact ⟨rfl, rfl⟩
            · have HD := Lib.hid (show M.first8 s.data.toList = M.go8 d (s.data.toList.drop (k + 1)) ((k : Int) + 1) (n * 64 + (s[k].toNat : Int) % 64) 128 191 by
                rw [HG.out, hdrop, M.go8, if_neg (by omega)])
              have HK := Lib.hid (show (n * 64 + (s[k].toNat : Int) % 64 + 1) * 64 ^ d ≤ 33554432 by
                have h3 : (n * 64 + (s[k].toNat : Int) % 64 + 1) ≤ (n + 1) * 64 := by omega
                have h4 : (n * 64 + (s[k].toNat : Int) % 64 + 1) * 64 ^ d ≤ (n + 1) * 64 * 64 ^ d := Int.mul_le_mul_of_nonneg_right h3 (Int.pow_nonneg (by decide))
                have h5 : (n + 1) * 64 * 64 ^ d = (n + 1) * 64 ^ (d + 1) := by rw [Int.pow_succ, Int.mul_assoc, Int.mul_comm (64 : Int)]
                omega)
              have HKD := Lib.hid hkd
              have b0 : (0 : Int) ≤ (s[k].toNat : Int) := by omega
              have b1 : (s[k].toNat : Int) ≤ 255 := by have := s[k].toNat_lt; omega
              have hor := or_64 n ((s[k].toNat : Int) % 64) hn0 hn2 (by omega) (by omega)
              have HN : 0 ≤ n * 64 + (s[k].toNat : Int) % 64 := by omega
              clear he hnd hkd hdrop
              go_wp2_with fail
              go_round
              case rel => exact ⟨k + 1, d, _, _, _, by omega, by have := HKD.out; omega, by omega, by go_num, rfl, rfl, rfl, HN, HK.out, HD⟩
              case measure => simp [intOf]; omega
end Go.Proofs.YteingkjdemlhgaaGreatDoor

/-
  Package utf8: what Told, All, Decode, Split compute.
-/
namespace Go.Proofs.YteingkjdemlhgaaGreatDoor
open Go.RowKit
set_option maxRecDepth 100000
theorem first_to (s : ByteArray) (n k : Int) (b : Bool) (h : M.first8 s.data.toList = (n, k, b)) (hs : 0 < s.size) (hs2 : s.size ≤ 68719476735) (w : World) : Calls Tryz.prog 157 #[.string s] w fun e w' => e = .returned (.tuple #[.int .i64 n, .int .i64 k, .bool b]) ∧ w = w' := by
  have := first_any s hs hs2 w; rw [h] at this; exact this
theorem told8_any (s : ByteArray) (hs : s.size ≤ 68719476735) (w : World) : Calls Tryz.prog 135 #[.string s] w fun e w' => ∃ v, e = .returned (.tuple #[v, .string ⟨(M.told8 s.data.toList).2.toArray⟩]) ∧ Own w.heap.size 3 w' v ((M.told8 s.data.toList).1.map (Value.int .i64)) ∧ Bel w w' := by
  go_enter Tryz.func135, Tryz.ntmps135
  go_wp2_with fail
  go_loopw [0, 4] (fun vs v wr => ∃ (s' : ByteArray) (xs : List Int), vs = .string s' ∧ xs.length + s'.size ≤ s.size ∧ Hid (M.told8 s.data.toList = (xs ++ (M.told8 s'.data.toList).1, (M.told8 s'.data.toList).2)) ∧ Own w.heap.size 3 wr v (xs.map (Value.int .i64)) ∧ Bel w wr) (fun vs _ _ => strLen vs)
  case atStart => exact ⟨s, [], rfl, by simp, Lib.hid (by simp), Own.nil _ _ _, Bel.refl _⟩
  case round =>
    obtain ⟨s', xs, rfl, hle, HT, hown, hb⟩ := hrel
    by_cases he : s'.size = 0
    · have e0 : s'.toList = [] := by rw [Lib.toList_data]; exact List.eq_nil_of_length_eq_zero (by rw [← Lib.size_eq]; exact he)
      have HF := Lib.hid (show M.told8 s.data.toList = (xs, s'.data.toList) by
        rw [HT.out, ← Lib.toList_data, e0]; simp [M.told8_nil])
      have e1 : (!s'.toList.isEmpty) = false := by rw [e0]; rfl
      clear he e0
      go_wp2_with fail
      go_ret2
      rw [HF.out]
      exact ⟨_, by rw [str_eq]; rfl, hown, hb⟩
    · have hpos : 0 < s'.size := by omega
      have e1 : (!s'.toList.isEmpty) = true := by
        rw [Lib.toList_data]
        have : s'.data.toList ≠ [] := fun h => he (by rw [Lib.size_eq, h]; rfl)
        simpa using this
      obtain ⟨c, t, hct⟩ := cons_of_pos s' hpos
      obtain ⟨⟨n, k, b⟩, hf⟩ : ∃ r, M.first8 s'.data.toList = r := ⟨_, rfl⟩
      have hbd : 1 ≤ k ∧ k ≤ (s'.size : Int) := by
        have h2 := M.first8_bounds c t
        rw [← hct, hf, ← Lib.size_eq] at h2
        exact h2
      obtain ⟨kk, rfl⟩ := Int.eq_ofNat_of_zero_le (show 0 ≤ k by omega)
      have Hf := Lib.hid hf
      cases b with
      | false =>
        have HF := Lib.hid (show M.told8 s.data.toList = (xs, s'.data.toList) by
          rw [HT.out, hct, M.told8_no c t (by rw [← hct, hf])]; simp)
        clear he hf hct
        go_wp2_with (go_at_call 157; refine (first_to _ _ _ _ Hf.out hpos (by omega) _).mono ?_; rintro e w' ⟨rfl, rfl⟩)
        go_ret2
        rw [HF.out]
        exact ⟨_, by rw [str_eq]; rfl, hown, hb⟩
      | true =>
        have HF := Lib.hid (show M.told8 s.data.toList = ((xs ++ [n]) ++ (M.told8 (s'.extract kk s'.size).data.toList).1, (M.told8 (s'.extract kk s'.size).data.toList).2) by
          rw [HT.out, drop_str, hct, M.told8_ok c t (by rw [← hct, hf]), ← hct, hf]; simp)
        have HS := Lib.hid (drop_size s' kk)
        have hk1 : 1 ≤ kk := by omega
        have hk2 : kk ≤ s'.size := by omega
        clear he hf hct hbd
        go_wp2_with (first | (go_at_call 157; refine (first_to _ _ _ _ Hf.out hpos (by omega) _).mono ?_; rintro e w' ⟨rfl, rfl⟩) | (at_builtin; refine wpList_app rfl (.tmp 18) (.tmp 20) 30 rfl elemInt (by decide) w.heap.size _ _ _ rfl rfl hown rfl (by simp; omega) (by first | exact Nat.le_refl _ | assumption | (have := hb.size; omega)) ?_; intro v' w1 hown' hb1))
        go_roundw
        case rel => exact ⟨_, xs ++ [n], rfl, by rw [HS.out, List.length_append, List.length_singleton]; omega, HF, by rw [List.map_append]; exact hown', hb.upto hb1 (Nat.le_refl _)⟩
        case measure => simp only [strLen, HS.out]; omega
theorem told8_to (s : ByteArray) (xs : List Int) (l : List UInt8) (h : M.told8 s.data.toList = (xs, l)) (hs : s.size ≤ 68719476735) (w : World) : Calls Tryz.prog 135 #[.string s] w fun e w' => ∃ v, e = .returned (.tuple #[v, .string ⟨l.toArray⟩]) ∧ Own w.heap.size 3 w' v (xs.map (Value.int .i64)) ∧ Bel w w' := by
  have := told8_any s hs w; rw [h] at this; exact this
theorem all8_any (s : ByteArray) (hs : s.size ≤ 68719476734) (w : World) : Calls Tryz.prog 92 #[.string s] w fun e w' => ∃ v, e = .returned v ∧ Own w.heap.size 3 w' v ((M.all8 s.data.toList).map (Value.int .i64)) ∧ Bel w w' := by
  obtain ⟨⟨xs, l⟩, ht⟩ : ∃ r, M.told8 s.data.toList = r := ⟨_, rfl⟩
  have hlen := M.told8_len s.data.toList
  rw [ht, ← Lib.size_eq] at hlen
  have Ht := Lib.hid ht
  by_cases he : l = []
  · subst he
    have HA := Lib.hid (show M.all8 s.data.toList = xs by rw [M.all8, ht, if_pos rfl])
    clear ht hlen
    go_enter Tryz.func92, Tryz.ntmps92
    go_wp2_with (go_at_call 135; refine (told8_to _ _ _ Ht.out (by omega) _).mono ?_; rintro e w' ⟨v, rfl, ho, hb⟩)
    go_ret
    rw [HA.out]
    exact ⟨_, rfl, by assumption, by assumption⟩
  · have HA := Lib.hid (show M.all8 s.data.toList = xs ++ [65533] by rw [M.all8, ht, if_neg he])
    have e1 : (!l.isEmpty) = true := by simpa using he
    have hl2 : xs.length ≤ s.size := by simp only at hlen; omega
    clear ht hlen he
    go_enter Tryz.func92, Tryz.ntmps92
    go_wp2_with (first | (go_at_call 135; refine (told8_to _ _ _ Ht.out (by omega) _).mono ?_; rintro e w' ⟨v, rfl, ho, hb⟩; have hB := hb.size) | (at_builtin; refine wpList_app rfl (.tmp 12) (.tmp 13) 30 rfl elemInt (by decide) w.heap.size _ _ _ rfl rfl ho rfl (by simp; omega) (by first | exact Nat.le_refl _ | assumption | (have := hb.size; omega)) ?_; intro v' w1 hown' hb1))
    go_ret
    rw [HA.out]
    exact ⟨_, rfl, by rw [List.map_append]; exact hown', hb.upto hb1 (Nat.le_refl _)⟩
end Go.Proofs.YteingkjdemlhgaaGreatDoor

/-
  Package utf16: what unit, high, low, Told compute.
-/
namespace Go.Proofs.YteingkjdemlhgaaGreatDoor
open Go.RowKit
set_option maxRecDepth 1000000
theorem unit_any (big : Bool) (a b : UInt8) (w : World) : Calls Tryz.prog 182 #[.bool big, .int .u8 (a.toNat : Int), .int .u8 (b.toNat : Int)] w fun e w' => e = .returned (.int .i64 (M.unit16 big a b)) ∧ w = w' := by
  have ha := a.toNat_lt
  have hb := b.toNat_lt
  cases big
  · have H := Lib.hid (show M.unit16 false a b = (b.toNat : Int) * 256 + (a.toNat : Int) by simp only [M.unit16, Bool.false_eq_true, if_false]; omega)
    have o1 := or_256 (b.toNat : Int) (a.toNat : Int) (by omega) (by omega) (by omega) (by omega)
    generalize a.toNat = x at ha o1 H
    generalize b.toNat = y at hb o1 H
    go_enter Tryz.func182, Tryz.ntmps182
    go_wp2_with fail
    go_ret
    rw [H.out]
    exact ⟨rfl, rfl⟩
  · have H := Lib.hid (show M.unit16 true a b = (a.toNat : Int) * 256 + (b.toNat : Int) by simp only [M.unit16, if_true]; omega)
    have o1 := or_256 (a.toNat : Int) (b.toNat : Int) (by omega) (by omega) (by omega) (by omega)
    generalize a.toNat = x at ha o1 H
    generalize b.toNat = y at hb o1 H
    go_enter Tryz.func182, Tryz.ntmps182
    go_wp2_with fail
    go_ret
    rw [H.out]
    exact ⟨rfl, rfl⟩
theorem quietL {P : Program} {f : FuncId} {args : Array Value} {w : World} {n : Nat} {v : Value} (h : Calls P f args (w.drewN n) fun e w' => e = .returned v ∧ w.drewN n = w') : Calls P f args (w.drewN n) fun e w'' => e = .returned v ∧ ∃ m, w'' = w.drewN m :=
  h.mono fun _ _ ⟨he, hm⟩ => ⟨he, n, hm.symm⟩
theorem head_at (s : ByteArray) (k : Nat) (c : UInt8) (h : s.data.toList[k]? = some c) : ∃ hk : k < s.size, s[k] = c := by
  have hk : k < s.size := by rw [Lib.size_eq]; exact (List.getElem?_eq_some_iff.1 h).1
  refine ⟨hk, ?_⟩
  have := byte_at s k hk
  rw [h] at this
  injection this with this
  exact this.symm
theorem runit0_any (g : Nat) (big : Bool) (s : ByteArray) (a b : UInt8) (t : List UInt8) (w : World) (hB : Box w g 184 [.bool big, .string s]) (hs : s.data.toList = a :: b :: t) (hsz : s.size ≤ 68719476735) : Calls Tryz.prog 158 #[.pointer (some ⟨g, 0, none⟩), .int .i64 0] w fun e w' => e = .returned (.int .i64 (M.unit16 big a b)) ∧ ∃ q, w.drewN q = w' := by
  have c0 := hB.cell 0 _ rfl
  have c1 := hB.cell 1 _ rfl
  obtain ⟨k0, h0⟩ := head_at s 0 a (by rw [hs]; rfl)
  obtain ⟨k1, h1⟩ := head_at s 1 b (by rw [hs]; rfl)
  clear hs
  go_enter Tryz.func158, Tryz.ntmps158
  go_wp2_with fail
  go_quiet ((go_at_call 182; exact quietL (unit_any _ _ _ _)))
  go_wp2_with fail
  go_ret
  exact ⟨rfl, _, rfl⟩
theorem high_any16 (n : Int) (h0 : 0 ≤ n) (h1 : n ≤ 65535) (w : World) : Calls Tryz.prog 159 #[.int .i64 n] w fun e w' => e = .returned (.bool (M.isHi n)) ∧ w = w' := by
  have H := Lib.hid (show M.isHi n = (n / 1024 == 54) by rw [M.isHi, Bool.eq_iff_iff, decide_eq_true_eq, beq_iff_eq]; omega)
  go_enter Tryz.func159, Tryz.ntmps159
  go_wp2_with fail
  go_ret
  rw [H.out]
  exact ⟨rfl, rfl⟩
theorem low_any16 (n : Int) (h0 : 0 ≤ n) (h1 : n ≤ 65535) (w : World) : Calls Tryz.prog 160 #[.int .i64 n] w fun e w' => e = .returned (.bool (M.isLo n)) ∧ w = w' := by
  have H := Lib.hid (show M.isLo n = (n / 1024 == 55) by rw [M.isLo, Bool.eq_iff_iff, decide_eq_true_eq, beq_iff_eq]; omega)
  go_enter Tryz.func160, Tryz.ntmps160
  go_wp2_with fail
  go_ret
  rw [H.out]
  exact ⟨rfl, rfl⟩
theorem runit2_any (g : Nat) (big : Bool) (s : ByteArray) (x y a b : UInt8) (t : List UInt8) (w : World) (hB : Box w g 184 [.bool big, .string s]) (hs : s.data.toList = x :: y :: a :: b :: t) (hsz : s.size ≤ 68719476735) : Calls Tryz.prog 158 #[.pointer (some ⟨g, 0, none⟩), .int .i64 2] w fun e w' => e = .returned (.int .i64 (M.unit16 big a b)) ∧ ∃ q, w.drewN q = w' := by
  have c0 := hB.cell 0 _ rfl
  have c1 := hB.cell 1 _ rfl
  obtain ⟨k0, h0⟩ := head_at s 2 a (by rw [hs]; rfl)
  obtain ⟨k1, h1⟩ := head_at s 3 b (by rw [hs]; rfl)
  clear hs
  go_enter Tryz.func158, Tryz.ntmps158
  go_wp2_with fail
  go_quiet ((go_at_call 182; exact quietL (unit_any _ _ _ _)))
  go_wp2_with fail
  go_ret
  exact ⟨rfl, _, rfl⟩
theorem runit0_to (g : Nat) (big : Bool) (s : ByteArray) (a b : UInt8) (t : List UInt8) (n : Int) (w : World) (hB : Box w g 184 [.bool big, .string s]) (hs : s.data.toList = a :: b :: t) (hn : M.unit16 big a b = n) (hsz : s.size ≤ 68719476735) : Calls Tryz.prog 158 #[.pointer (some ⟨g, 0, none⟩), .int .i64 0] w fun e w' => e = .returned (.int .i64 n) ∧ ∃ q, w.drewN q = w' := by
  have := runit0_any g big s a b t w hB hs hsz; rw [hn] at this; exact this
theorem runit2_to (g : Nat) (big : Bool) (s : ByteArray) (x y a b : UInt8) (t : List UInt8) (n : Int) (w : World) (hB : Box w g 184 [.bool big, .string s]) (hs : s.data.toList = x :: y :: a :: b :: t) (hn : M.unit16 big a b = n) (hsz : s.size ≤ 68719476735) : Calls Tryz.prog 158 #[.pointer (some ⟨g, 0, none⟩), .int .i64 2] w fun e w' => e = .returned (.int .i64 n) ∧ ∃ q, w.drewN q = w' := by
  have := runit2_any g big s x y a b t w hB hs hsz; rw [hn] at this; exact this
theorem high_to (n : Int) (b : Bool) (h : M.isHi n = b) (h0 : 0 ≤ n) (h1 : n ≤ 65535) (w : World) : Calls Tryz.prog 159 #[.int .i64 n] w fun e w' => e = .returned (.bool b) ∧ w = w' := by
  have := high_any16 n h0 h1 w; rw [h] at this; exact this
theorem low_to (n : Int) (b : Bool) (h : M.isLo n = b) (h0 : 0 ≤ n) (h1 : n ≤ 65535) (w : World) : Calls Tryz.prog 160 #[.int .i64 n] w fun e w' => e = .returned (.bool b) ∧ w = w' := by
  have := low_any16 n h0 h1 w; rw [h] at this; exact this
def cellLen (w : World) (a : Addr) : Nat := match w.cell? a with | some (.string s) => s.size | _ => 0
theorem cellLen_of {w : World} {a : Addr} {s : ByteArray} (h : w.cell? a = some (.string s)) : cellLen w a = s.size := by unfold cellLen; rw [h]
theorem told16_any (big : Bool) (s : ByteArray) (hs : s.size ≤ 68719476735) (w : World) : Calls Tryz.prog 136 #[.bool big, .string s] w fun e w' => ∃ v, e = .returned (.tuple #[v, .string ⟨(M.told16 big s.data.toList).2.toArray⟩]) ∧ Own w.heap.size 3 w' v ((M.told16 big s.data.toList).1.map (Value.int .i64)) ∧ Bel w w' := by
  go_enter Tryz.func136, Tryz.ntmps136
  go_wp2_with fail
  go_loopw [7] (fun v wr => ∃ (s' : ByteArray) (xs : List Int), Box wr w.heap.size 184 [.bool big, .string s'] ∧ xs.length + s'.size ≤ s.size ∧ Hid (M.told16 big s.data.toList = (xs ++ (M.told16 big s'.data.toList).1, (M.told16 big s'.data.toList).2)) ∧ Own (w.heap.size + 1) 3 wr v (xs.map (Value.int .i64)) ∧ Below w.heap.size w wr) (fun _ wr => cellLen wr ⟨w.heap.size, 1, none⟩)
  case atStart => exact ⟨s, [], Box.new _ _ _, by simp, Lib.hid (by simp), Own.nil _ _ _, (Below.refl _ _).alloc (Nat.le_refl _) _⟩
  case round =>
    obtain ⟨s', xs, hB, hle, HT, hown, hb⟩ := hrel
    have c0 := hB.cell 0 _ rfl
    have c1 := hB.cell 1 _ rfl
    have f1 := hB.frozen 1
    by_cases h2 : 2 ≤ s'.size
    · have hz : s'.data.toList.length = s'.size := (Lib.size_eq s').symm
      obtain ⟨a, b, t, hab⟩ : ∃ a b t, s'.data.toList = a :: b :: t := by
        match hq : s'.data.toList with
        | [] => rw [hq] at hz; simp at hz; omega
        | [a] => rw [hq] at hz; simp at hz; omega
        | a :: b :: t => exact ⟨a, b, t, rfl⟩
      have htl : s'.size = t.length + 2 := by rw [← hz, hab]; rfl
      obtain ⟨u0, u1⟩ := M.unit16_le big a b
      have HAB := Lib.hid hab
      rcases M.say16 big a b t with ⟨g1, e1⟩ | ⟨g1, g2, e1⟩ | ⟨c, d, u, rfl, g1, g2, e1⟩ | ⟨c, d, u, rfl, g1, g2, e1⟩
      · -- a unit by itself
        have HF := Lib.hid (show M.told16 big s.data.toList = ((xs ++ [M.one16 (M.unit16 big a b)]) ++ (M.told16 big (s'.extract 2 s'.size).data.toList).1, (M.told16 big (s'.extract 2 s'.size).data.toList).2) by
          rw [HT.out, drop_str, hab, e1]; simp)
        have HS := Lib.hid (drop_size s' 2)
        obtain ⟨n, hn⟩ : ∃ n, M.unit16 big a b = n := ⟨_, rfl⟩
        rw [hn] at g1 u0 u1 HF
        have HN := Lib.hid hn
        have HG := Lib.hid g1
        clear hz hab e1 g1 htl hn
        cases hlo : M.isLo n with
        | true =>
          have HL := Lib.hid hlo
          have HO := Lib.hid (show M.one16 n = 65533 by rw [M.one16, if_pos hlo])
          clear hlo
          rw [HO.out] at HF
          go_wp2_with fail
          refine (runit0_to _ big s' a b t n _ hB HAB.out HN.out (by omega)).mono ?_
          rintro e w1 ⟨rfl, q, rfl⟩
          have hsz : w.heap.size + 1 ≤ (wr.drewN q).heap.size := hB.lt
          go_wp2_with (first | (go_at_call 159; refine (high_to n false HG.out u0 u1 _).mono ?_; rintro e w' ⟨rfl, rfl⟩) | (go_at_call 160; refine (low_to n true HL.out u0 u1 _).mono ?_; rintro e w' ⟨rfl, rfl⟩) | ((at_builtin; refine wpList_app rfl (.tmp 61) (.tmp 63) 30 rfl elemInt (by decide) (w.heap.size + 1) _ _ _ rfl rfl (hown.drewN q) rfl (by simp; omega) (by first | exact Nat.le_refl _ | assumption | (have := hb.size; omega)) ?_; intro v' w1 hown' hb1); have hB1 := (hB.drewN q).upto hb1 (Nat.lt_succ_self _); have d1 := hB1.cell 1 _ rfl; have d2 := hB1.frozen 1))
          go_roundw
          case rel => exact ⟨_, xs ++ [65533], hB1.set 1 _, by rw [HS.out, List.length_append, List.length_singleton]; omega, HF, by rw [List.map_append]; exact hown'.setCell (by simp) _, bel_store (Bel.drewN hb q) hb1 (Nat.le_succ _) (Nat.le_refl _) _⟩
          case measure => rw [cellLen_of c1, cellLen_of ((hB1.set 1 _).cell 1 _ rfl), HS.out]; omega
        | false =>
          have HL := Lib.hid hlo
          have HO := Lib.hid (show M.one16 n = n by rw [M.one16, if_neg (by rw [hlo]; decide)])
          clear hlo
          rw [HO.out] at HF
          go_wp2_with fail
          refine (runit0_to _ big s' a b t n _ hB HAB.out HN.out (by omega)).mono ?_
          rintro e w1 ⟨rfl, q, rfl⟩
          have hsz : w.heap.size + 1 ≤ (wr.drewN q).heap.size := hB.lt
          go_wp2_with (first | (go_at_call 159; refine (high_to n false HG.out u0 u1 _).mono ?_; rintro e w' ⟨rfl, rfl⟩) | (go_at_call 160; refine (low_to n false HL.out u0 u1 _).mono ?_; rintro e w' ⟨rfl, rfl⟩) | ((at_builtin; refine wpList_app rfl (.tmp 61) (.tmp 63) 30 rfl elemInt (by decide) (w.heap.size + 1) _ _ _ rfl rfl (hown.drewN q) rfl (by simp; omega) (by first | exact Nat.le_refl _ | assumption | (have := hb.size; omega)) ?_; intro v' w1 hown' hb1); have hB1 := (hB.drewN q).upto hb1 (Nat.lt_succ_self _); have d1 := hB1.cell 1 _ rfl; have d2 := hB1.frozen 1))
          go_roundw
          case rel => exact ⟨_, xs ++ [n], hB1.set 1 _, by rw [HS.out, List.length_append, List.length_singleton]; omega, HF, by rw [List.map_append]; exact hown'.setCell (by simp) _, bel_store (Bel.drewN hb q) hb1 (Nat.le_succ _) (Nat.le_refl _) _⟩
          case measure => rw [cellLen_of c1, cellLen_of ((hB1.set 1 _).cell 1 _ rfl), HS.out]; omega
      · -- more must come
        have HF := Lib.hid (show M.told16 big s.data.toList = (xs, s'.data.toList) by
          rw [HT.out, hab, e1]; simp)
        obtain ⟨n, hn⟩ : ∃ n, M.unit16 big a b = n := ⟨_, rfl⟩
        rw [hn] at g1 u0 u1
        have HN := Lib.hid hn
        have HG := Lib.hid g1
        have h4 : s'.size < 4 := by omega
        clear hz hab e1 g1 htl hn
        go_wp2_with fail
        refine (runit0_to _ big s' a b t n _ hB HAB.out HN.out (by omega)).mono ?_
        rintro e w1 ⟨rfl, q, rfl⟩
        go_wp2_with (first | (go_at_call 159; refine (high_to n true HG.out u0 u1 _).mono ?_; rintro e w' ⟨rfl, rfl⟩))
        go_quiet (fail)
        go_wp2_with fail
        go_ret2
        rw [HF.out]
        exact ⟨_, by rw [str_eq]; rfl, ((hown.mono (by omega)).drewN _).drewN _, Bel.drewN (Bel.drewN hb _) _⟩
      · -- two units
        have HF := Lib.hid (show M.told16 big s.data.toList = ((xs ++ [M.pair16 (M.unit16 big a b) (M.unit16 big c d)]) ++ (M.told16 big (s'.extract 4 s'.size).data.toList).1, (M.told16 big (s'.extract 4 s'.size).data.toList).2) by
          rw [HT.out, drop_str, hab, e1]; simp)
        have HS := Lib.hid (drop_size s' 4)
        obtain ⟨v0, v1⟩ := M.unit16_le big c d
        obtain ⟨n, hn⟩ : ∃ n, M.unit16 big a b = n := ⟨_, rfl⟩
        obtain ⟨m, hm⟩ : ∃ m, M.unit16 big c d = m := ⟨_, rfl⟩
        rw [hn] at g1 u0 u1 HF
        rw [hm] at g2 v0 v1 HF
        have g1' := g1
        have g2' := g2
        simp only [M.isHi, decide_eq_true_eq] at g1'
        simp only [M.isLo, decide_eq_true_eq] at g2'
        have HN := Lib.hid hn
        have HM := Lib.hid hm
        have HG := Lib.hid g1
        have HL := Lib.hid g2
        have HP := Lib.hid (show M.pair16 n m = 65536 + (n - 55296) * 1024 + m - 56320 by rw [M.pair16]; omega)
        have h4 : 4 ≤ s'.size := by simp only [List.length_cons] at htl; omega
        clear hz hab e1 g1 g2 htl hn hm
        rw [HP.out] at HF
        go_wp2_with fail
        refine (runit0_to _ big s' a b (c :: d :: u) n _ hB HAB.out HN.out (by omega)).mono ?_
        rintro e w1 ⟨rfl, q, rfl⟩
        go_wp2_with (first | (go_at_call 159; refine (high_to n true HG.out u0 u1 _).mono ?_; rintro e w' ⟨rfl, rfl⟩))
        refine (runit2_to _ big s' a b c d u m _ (hB.drewN q) HAB.out HM.out (by omega)).mono ?_
        rintro e w1 ⟨rfl, q2, rfl⟩
        go_wp2_with (first | (go_at_call 160; refine (low_to m true HL.out v0 v1 _).mono ?_; rintro e w' ⟨rfl, rfl⟩))
        refine (runit2_to _ big s' a b c d u m _ (hB.drewN _) HAB.out HM.out (by omega)).mono ?_
        rintro e w1 ⟨rfl, q3, rfl⟩
        have hsz : ∀ k, w.heap.size + 1 ≤ (wr.drewN k).heap.size := fun _ => hB.lt
        go_wp2_with (first | fail | (at_builtin; refine wpList_app rfl (.tmp 61) (.tmp 63) 30 rfl elemInt (by decide) (w.heap.size + 1) _ _ _ rfl rfl (hown.drewN _) rfl (by simp; omega) (hsz _) ?_; intro v' w1 hown' hb1; have hB1 := (hB.drewN _).upto hb1 (Nat.lt_succ_self _); have d1 := hB1.cell 1 _ rfl; have d2 := hB1.frozen 1))
        go_roundw
        case rel => exact ⟨_, xs ++ [65536 + (n - 55296) * 1024 + m - 56320], hB1.set 1 _, by rw [HS.out, List.length_append, List.length_singleton]; omega, HF, by rw [List.map_append]; exact hown'.setCell (by simp) _, bel_store (Bel.drewN hb _) hb1 (Nat.le_succ _) (Nat.le_refl _) _⟩
        case measure => rw [cellLen_of c1, cellLen_of ((hB1.set 1 _).cell 1 _ rfl), HS.out]; omega
      · -- the first one alone
        have HF := Lib.hid (show M.told16 big s.data.toList = ((xs ++ [65533]) ++ (M.told16 big (s'.extract 2 s'.size).data.toList).1, (M.told16 big (s'.extract 2 s'.size).data.toList).2) by
          rw [HT.out, drop_str, hab, e1]; simp)
        have HS := Lib.hid (drop_size s' 2)
        obtain ⟨v0, v1⟩ := M.unit16_le big c d
        obtain ⟨n, hn⟩ : ∃ n, M.unit16 big a b = n := ⟨_, rfl⟩
        obtain ⟨m, hm⟩ : ∃ m, M.unit16 big c d = m := ⟨_, rfl⟩
        rw [hn] at g1 u0 u1
        rw [hm] at g2 v0 v1
        have HN := Lib.hid hn
        have HM := Lib.hid hm
        have HG := Lib.hid g1
        have HL := Lib.hid g2
        have h4 : 4 ≤ s'.size := by simp only [List.length_cons] at htl; omega
        clear hz hab e1 g1 g2 htl hn hm
        go_wp2_with fail
        refine (runit0_to _ big s' a b (c :: d :: u) n _ hB HAB.out HN.out (by omega)).mono ?_
        rintro e w1 ⟨rfl, q, rfl⟩
        go_wp2_with (first | (go_at_call 159; refine (high_to n true HG.out u0 u1 _).mono ?_; rintro e w' ⟨rfl, rfl⟩))
        refine (runit2_to _ big s' a b c d u m _ (hB.drewN q) HAB.out HM.out (by omega)).mono ?_
        rintro e w1 ⟨rfl, q2, rfl⟩
        have hsz : ∀ k, w.heap.size + 1 ≤ (wr.drewN k).heap.size := fun _ => hB.lt
        go_wp2_with (first | (go_at_call_of 160 (Value.int .i64 m); refine (low_to m false HL.out v0 v1 _).mono ?_; rintro e w' ⟨rfl, rfl⟩) | (go_at_call 159; refine (high_to n true HG.out u0 u1 _).mono ?_; rintro e w' ⟨rfl, rfl⟩) | (at_builtin; refine wpList_app rfl (.tmp 61) (.tmp 63) 30 rfl elemInt (by decide) (w.heap.size + 1) _ _ _ rfl rfl (hown.drewN _) rfl (by simp; omega) (hsz _) ?_; intro v' w1 hown' hb1; have hB1 := (hB.drewN _).upto hb1 (Nat.lt_succ_self _); have d1 := hB1.cell 1 _ rfl; have d2 := hB1.frozen 1))
        go_roundw
        case rel => exact ⟨_, xs ++ [65533], hB1.set 1 _, by rw [HS.out, List.length_append, List.length_singleton]; omega, HF, by rw [List.map_append]; exact hown'.setCell (by simp) _, bel_store (Bel.drewN hb _) hb1 (Nat.le_succ _) (Nat.le_refl _) _⟩
        case measure => rw [cellLen_of c1, cellLen_of ((hB1.set 1 _).cell 1 _ rfl), HS.out]; omega
    · have HF := Lib.hid (show M.told16 big s.data.toList = (xs, s'.data.toList) by
        have hl : s'.data.toList.length ≤ 1 := by rw [← Lib.size_eq]; omega
        rw [HT.out]
        match hq : s'.data.toList, hl with
        | [], _ => rw [M.told16_nil]; simp
        | [a], _ => rw [M.told16_one]; simp
        | _ :: _ :: _, hl => simp at hl)
      go_wp2_with fail
      go_quiet (fail)
      go_wp2_with fail
      go_ret2
      rw [HF.out]
      exact ⟨_, by rw [str_eq]; rfl, (hown.mono (by omega)).drewN _, Bel.drewN hb _⟩
end Go.Proofs.YteingkjdemlhgaaGreatDoor

/-
  Package utf8: what Scalar, Points, Bytes, Encode compute.
-/
namespace Go.Proofs.YteingkjdemlhgaaGreatDoor
open Go.RowKit
set_option maxRecDepth 1000000
theorem scalar_any (n : Int) (w : World) : Calls Tryz.prog 66 #[.int .i64 n] w fun e w' => e = .returned (.bool (M.scalar n)) ∧ w = w' := by
  by_cases h0 : 0 ≤ n <;> by_cases h1 : n ≤ 1114111 <;> by_cases h2 : n < 55296 <;> by_cases h3 : 57343 < n
  all_goals
    first
    | (exfalso; omega)
    | (go_enter Tryz.func66, Tryz.ntmps66
       go_wp2
       go_ret
       refine ⟨?_, rfl⟩
       simp [M.scalar]
       omega)
theorem points1_any (n : Int) (w : World) : Calls Tryz.prog 86 #[.int .i64 n] w fun e w' => e = .returned (.bool (!M.scalar n)) ∧ w = w' := by
  go_enter Tryz.func86, Tryz.ntmps86
  go_wp2_with (go_at_call 66; refine (scalar_any _ _).mono ?_; rintro e w' ⟨rfl, rfl⟩)
  go_ret
  exact ⟨rfl, rfl⟩
def IdxSays (xs : List Int) (n : Int) : Prop := 0 ≤ n ↔ xs.all M.scalar = false
theorem indexFunc_any (v : Value) (xs : List Int) (w : World) (hv : IntSl w v xs) : Calls Tryz.prog 130 #[v, .func (.func 86) #[] #[]] w fun e w' => (∃ n : Int, e = .returned (.int .i64 n) ∧ IdxSays xs n) ∧ w = w' := by
  obtain ⟨a, c, rfl, hc1, hc2, hn, hx⟩ := hv
  unfold maxLen at hc2
  go_enter Tryz.func130, Tryz.ntmps130
  go_wp2_with fail
  go_loop [8] (fun i => ∃ k : Nat, k ≤ xs.length ∧ i = .int .i64 k ∧ Hid ((xs.take k).all M.scalar = true)) (fun i => xs.length - (intOf i).toNat)
  case atStart => exact ⟨0, by omega, rfl, Lib.hid rfl⟩
  case round =>
    obtain ⟨k, hk, rfl, hno⟩ := hrel
    by_cases hlt : k < xs.length
    · obtain ⟨y, hy⟩ : ∃ y, xs[k]? = some y := ⟨_, List.getElem?_eq_getElem hlt⟩
      cases a with
      | none => exfalso; have h3 := hlt; rw [hn rfl, List.length_nil] at h3; omega
      | some x =>
        have hcell := hx x rfl k y hy
        cases hsc : M.scalar y with
        | false =>
          have e1 : (!M.scalar y) = true := by rw [hsc]; rfl
          have HF : IdxSays xs (k : Int) := (show (0 : Int) ≤ (k : Int) ↔ xs.all M.scalar = false from ⟨fun _ => by
            rw [List.all_eq_false]
            exact ⟨y, List.mem_of_getElem? hy, by rw [hsc]; decide⟩, fun _ => by omega⟩)
          clear hx hn hsc hy
          go_wp2_with (go_at_call 86; refine (points1_any _ _).mono ?_; rintro e w' ⟨rfl, rfl⟩)
          go_ret
          exact ⟨⟨_, rfl, HF⟩, rfl⟩
        | true =>
          have e1 : (!M.scalar y) = false := by rw [hsc]; rfl
          have HF := Lib.hid (show (xs.take (k + 1)).all M.scalar = true by
            rw [List.take_add_one, hy, List.all_append, hno.out]; simp [hsc])
          clear hx hn hsc hy
          go_wp2_with (go_at_call 86; refine (points1_any _ _).mono ?_; rintro e w' ⟨rfl, rfl⟩)
          go_round
          case rel => exact ⟨k + 1, by omega, by go_num, HF⟩
          case measure => simp [intOf]; omega
    · obtain rfl : k = xs.length := by omega
      have HF : IdxSays xs (-1) := (show (0 : Int) ≤ -1 ↔ xs.all M.scalar = false from ⟨fun h => absurd h (by decide), fun h => by
        have := hno.out
        rw [List.take_length, h] at this
        cases this⟩)
      go_wp2_with fail
      go_ret
      exact ⟨⟨_, rfl, HF⟩, rfl⟩
theorem containsFunc_any (v : Value) (xs : List Int) (w : World) (hv : IntSl w v xs) : Calls Tryz.prog 85 #[v, .func (.func 86) #[] #[]] w fun e w' => e = .returned (.bool (!xs.all M.scalar)) ∧ w = w' := by
  have c1 := Lib.hid (indexFunc_any v xs w hv)
  obtain ⟨a, c, rfl, _⟩ := hv
  go_enter Tryz.func85, Tryz.ntmps85
  go_wp2_with fail
  refine c1.out.mono ?_
  rintro e w' ⟨⟨n, rfl, hn⟩, rfl⟩
  cases hall : xs.all M.scalar with
  | true =>
    have : ¬ 0 ≤ n := fun h => by have := hn.1 h; rw [hall] at this; cases this
    have hneg : n < 0 := by omega
    clear this
    go_wp2_with fail
    go_ret
    refine ⟨ret_bool ?_, rfl⟩
    rw [hall]
    simp
    omega
  | false =>
    have hpos : 0 ≤ n := hn.2 hall
    go_wp2_with fail
    go_ret
    refine ⟨ret_bool ?_, rfl⟩
    rw [hall]
    rfl
theorem points_any (v : Value) (xs : List Int) (w : World) (hv : IntSl w v xs) : Calls Tryz.prog 55 #[v] w fun e w' => e = .returned (.int .i64 (M.points xs)) ∧ w = w' := by
  have c1 := Lib.hid (containsFunc_any v xs w hv)
  obtain ⟨a, c, rfl, hc1, hc2, _⟩ := hv
  unfold maxLen at hc2
  by_cases h : 3000 < xs.length
  · have H := Lib.hid (show M.points xs = 2 by rw [M.points, if_pos h])
    go_enter Tryz.func55, Tryz.ntmps55
    go_wp2_with fail
    go_ret
    rw [H.out]
    exact ⟨rfl, rfl⟩
  · cases hall : xs.all M.scalar with
    | true =>
      have H := Lib.hid (show M.points xs = 0 by rw [M.points, if_neg h, hall]; rfl)
      rw [hall] at c1
      go_enter Tryz.func55, Tryz.ntmps55
      go_wp2_with (go_at_call 85; refine (c1.out).mono ?_; rintro e w' ⟨rfl, rfl⟩)
      go_ret
      rw [H.out]
      exact ⟨rfl, rfl⟩
    | false =>
      have H := Lib.hid (show M.points xs = 3 by rw [M.points, if_neg h, hall]; rfl)
      rw [hall] at c1
      go_enter Tryz.func55, Tryz.ntmps55
      go_wp2_with (go_at_call 85; refine (c1.out).mono ?_; rintro e w' ⟨rfl, rfl⟩)
      go_ret
      rw [H.out]
      exact ⟨rfl, rfl⟩
set_option maxHeartbeats 2000000 in
theorem bytes8_any (v : Value) (xs : List Int) (w : World) (hv : IntSl w v xs) (hlen : xs.length ≤ 1000000) (hsc : ∀ n ∈ xs, 0 ≤ n ∧ n ≤ 1114111) : Calls Tryz.prog 91 #[v] w fun e w' => e = .returned (.string ⟨(M.bytes8 xs).toArray⟩) ∧ Bel w w' := by
  obtain ⟨a, c, rfl, hc1, hc2, hn, hx⟩ := hv
  unfold maxLen at hc2
  go_enter Tryz.func91, Tryz.ntmps91
  go_wp2_with fail
  go_loopw [3, 8] (fun v i wr => ∃ k : Nat, k ≤ xs.length ∧ i = .int .i64 k ∧ (M.bytes8 (xs.take k)).length ≤ 4 * k ∧ Own w.heap.size 5 wr v ((M.bytes8 (xs.take k)).map byteVal) ∧ Bel w wr) (fun _ i _ => xs.length - (intOf i).toNat)
  case atStart => exact ⟨0, by omega, rfl, by simp [M.bytes8], Own.nil _ _ _, Bel.refl _⟩
  case round =>
    obtain ⟨k, hk, rfl, hbl, hown, hb⟩ := hrel
    by_cases hlt : k < xs.length
    · obtain ⟨n, hy⟩ : ∃ n, xs[k]? = some n := ⟨_, List.getElem?_eq_getElem hlt⟩
      cases a with
      | none => exfalso; have h3 := hlt; rw [hn rfl, List.length_nil] at h3; omega
      | some x =>
        have hcw := hx x rfl k n hy
        have hcell : wr.cell? (x.add k) = some (.int .i64 n) := (hb.cell (World.block_lt_of_cell? w _ hcw)).trans hcw
        obtain ⟨hn0, hn1⟩ := hsc n (List.mem_of_getElem? hy)
        have HT := Lib.hid (show M.bytes8 (xs.take (k + 1)) = M.bytes8 (xs.take k) ++ M.row8 n by
          rw [List.take_add_one, hy]; simp [M.bytes8])
        obtain ⟨m, rfl⟩ := Int.eq_ofNat_of_zero_le hn0
        clear hx hn hy hcw hsc
        by_cases h1 : m < 128
        · have HR := Lib.hid (show (M.row8 (m : Int)).map byteVal = [.int .u8 (m : Int)] by
            rw [M.row8, if_pos (by omega)]; simp [byteVal]; omega)
          have HL := Lib.hid (show (M.row8 (m : Int)).length = 1 by rw [M.row8, if_pos (by omega)]; rfl)
          go_wp2_with (first | (at_builtin; refine wpList_apps (.tmp 36) (.tmp 39) 120 rfl elemByte (by decide) w.heap.size _ _ _ hown (by simp [Value.oneCell']) (by simp; omega) (by first | exact Nat.le_refl _ | assumption | (have := hb.size; omega)) rfl rfl rfl ?_; intro v' w1 hown' hb1))
          go_roundw
          case rel =>
            have HO : Own w.heap.size 5 w1 v' ((M.bytes8 (xs.take (k + 1))).map byteVal) := by rw [HT.out, List.map_append, HR.out]; exact hown'
            have HB : (M.bytes8 (xs.take (k + 1))).length ≤ 4 * (k + 1) := by rw [HT.out, List.length_append, HL.out]; omega
            exact ⟨k + 1, by omega, by go_num, HB, HO, hb.upto hb1 (Nat.le_refl _)⟩
          case measure => simp [intOf]; omega
        · by_cases h2 : m < 2048
          · have HR := Lib.hid (show (M.row8 (m : Int)).map byteVal = [.int .u8 (192 + (m : Int) / 64), .int .u8 (128 + (m : Int) % 64)] by
              rw [M.row8, if_neg (by omega), if_pos (by omega)]; simp [byteVal]; omega)
            have HL := Lib.hid (show (M.row8 (m : Int)).length = 2 by rw [M.row8, if_neg (by omega), if_pos (by omega)]; rfl)
            have o1 := or_192 ((m : Int) / 64) (by omega) (by omega)
            have o2 := or_128 ((m : Int) % 64) (by omega) (by omega)
            have a1 := and_63 (m : Int) (by omega) (by omega)
            go_wp2_with (first | (at_builtin; refine wpList_apps (.tmp 44) (.tmp 53) 120 rfl elemByte (by decide) w.heap.size _ _ _ hown (by simp [Value.oneCell']) (by simp; omega) (by first | exact Nat.le_refl _ | assumption | (have := hb.size; omega)) rfl rfl rfl ?_; intro v' w1 hown' hb1))
            go_roundw
            case rel =>
              have HO : Own w.heap.size 5 w1 v' ((M.bytes8 (xs.take (k + 1))).map byteVal) := by rw [HT.out, List.map_append, HR.out]; exact hown'
              have HB : (M.bytes8 (xs.take (k + 1))).length ≤ 4 * (k + 1) := by rw [HT.out, List.length_append, HL.out]; omega
              exact ⟨k + 1, by omega, by go_num, HB, HO, hb.upto hb1 (Nat.le_refl _)⟩
            case measure => simp [intOf]; omega
          · by_cases h3 : m < 65536
            · obtain ⟨q, hq, hq1⟩ : ∃ q : Nat, (m : Int) / 4096 = (q : Int) ∧ q < 16 := ⟨m / 4096, by omega, by omega⟩
              obtain ⟨r, hr, hr1⟩ : ∃ r : Nat, (m : Int) / 64 = (r : Int) ∧ r < 1024 := ⟨m / 64, by omega, by omega⟩
              obtain ⟨s, hs, hs1⟩ : ∃ s : Nat, (r : Int) % 64 = (s : Int) ∧ s < 64 := ⟨r % 64, by omega, by omega⟩
              obtain ⟨c', hc, hc1'⟩ : ∃ c' : Nat, (m : Int) % 64 = (c' : Int) ∧ c' < 64 := ⟨m % 64, by omega, by omega⟩
              have HR := Lib.hid (show (M.row8 (m : Int)).map byteVal = [.int .u8 (224 + (q : Int)), .int .u8 (128 + (s : Int)), .int .u8 (128 + (c' : Int))] by
                rw [M.row8, if_neg (by omega), if_neg (by omega), if_pos (by omega)]; simp [byteVal]; omega)
              have HL := Lib.hid (show (M.row8 (m : Int)).length = 3 by rw [M.row8, if_neg (by omega), if_neg (by omega), if_pos (by omega)]; rfl)
              have o1 := or_224 (q : Int) (by omega) (by omega)
              have o2 := or_128 (c' : Int) (by omega) (by omega)
              have o3 := or_128 (s : Int) (by omega) (by omega)
              have a1 : bits .and .i64 (m : Int) 63 = (c' : Int) := by rw [and_63 (m : Int) (by omega) (by omega), hc]
              have a2 := and_63 (r : Int) (by omega) (by omega)
              rw [hs] at a2
              clear hc hs
              go_wp2_with (first | (at_builtin; refine wpList_apps (.tmp 58) (.tmp 72) 120 rfl elemByte (by decide) w.heap.size _ _ _ hown (by simp [Value.oneCell']) (by simp; omega) (by first | exact Nat.le_refl _ | assumption | (have := hb.size; omega)) rfl rfl rfl ?_; intro v' w1 hown' hb1))
              go_roundw
              case rel =>
                have HO : Own w.heap.size 5 w1 v' ((M.bytes8 (xs.take (k + 1))).map byteVal) := by rw [HT.out, List.map_append, HR.out]; exact hown'
                have HB : (M.bytes8 (xs.take (k + 1))).length ≤ 4 * (k + 1) := by rw [HT.out, List.length_append, HL.out]; omega
                exact ⟨k + 1, by omega, by go_num, HB, HO, hb.upto hb1 (Nat.le_refl _)⟩
              case measure => simp [intOf]; omega
            · obtain ⟨p, hp, hp1⟩ : ∃ p : Nat, (m : Int) / 262144 = (p : Int) ∧ p < 8 := ⟨m / 262144, by omega, by omega⟩
              obtain ⟨q, hq, hq1⟩ : ∃ q : Nat, (m : Int) / 4096 = (q : Int) ∧ q < 512 := ⟨m / 4096, by omega, by omega⟩
              obtain ⟨q2, hq2, hq21⟩ : ∃ q2 : Nat, (q : Int) % 64 = (q2 : Int) ∧ q2 < 64 := ⟨q % 64, by omega, by omega⟩
              obtain ⟨r, hr, hr1⟩ : ∃ r : Nat, (m : Int) / 64 = (r : Int) ∧ r < 32768 := ⟨m / 64, by omega, by omega⟩
              obtain ⟨s, hs, hs1⟩ : ∃ s : Nat, (r : Int) % 64 = (s : Int) ∧ s < 64 := ⟨r % 64, by omega, by omega⟩
              obtain ⟨c', hc, hc1'⟩ : ∃ c' : Nat, (m : Int) % 64 = (c' : Int) ∧ c' < 64 := ⟨m % 64, by omega, by omega⟩
              have HR := Lib.hid (show (M.row8 (m : Int)).map byteVal = [.int .u8 (240 + (p : Int)), .int .u8 (128 + (q2 : Int)), .int .u8 (128 + (s : Int)), .int .u8 (128 + (c' : Int))] by
                rw [M.row8, if_neg (by omega), if_neg (by omega), if_neg (by omega)]; simp [byteVal]; omega)
              have HL := Lib.hid (show (M.row8 (m : Int)).length = 4 by rw [M.row8, if_neg (by omega), if_neg (by omega), if_neg (by omega)]; rfl)
              have o1 := or_240 (p : Int) (by omega) (by omega)
              have o2 := or_128 (c' : Int) (by omega) (by omega)
              have o3 := or_128 (s : Int) (by omega) (by omega)
              have o4 := or_128 (q2 : Int) (by omega) (by omega)
              have a1 : bits .and .i64 (m : Int) 63 = (c' : Int) := by rw [and_63 (m : Int) (by omega) (by omega), hc]
              have a2 := and_63 (r : Int) (by omega) (by omega)
              rw [hs] at a2
              have a3 := and_63 (q : Int) (by omega) (by omega)
              rw [hq2] at a3
              clear hc hs hq2
              go_wp2_with (first | (at_builtin; refine wpList_apps (.tmp 12) (.tmp 31) 120 rfl elemByte (by decide) w.heap.size _ _ _ hown (by simp [Value.oneCell']) (by simp; omega) (by first | exact Nat.le_refl _ | assumption | (have := hb.size; omega)) rfl rfl rfl ?_; intro v' w1 hown' hb1))
              go_roundw
              case rel =>
                have HO : Own w.heap.size 5 w1 v' ((M.bytes8 (xs.take (k + 1))).map byteVal) := by rw [HT.out, List.map_append, HR.out]; exact hown'
                have HB : (M.bytes8 (xs.take (k + 1))).length ≤ 4 * (k + 1) := by rw [HT.out, List.length_append, HL.out]; omega
                exact ⟨k + 1, by omega, by go_num, HB, HO, hb.upto hb1 (Nat.le_refl _)⟩
              case measure => simp [intOf]; omega
    · obtain rfl : k = xs.length := by omega
      have HT := Lib.hid (show xs.take xs.length = xs from List.take_length)
      rw [HT.out] at hown
      go_wp2_with (first | ((with_reducible show wpList _ _ _ _ _ _); refine wpList_toString rfl (.tmp 75) _ _ 5 rfl Tryz.underlying120 Tryz.underlying5 Tryz.underlying9 w.heap.size _ (M.bytes8 xs) rfl hown ?_))
      go_ret
      exact ⟨rfl, hb⟩
theorem points_scalars (xs : List Int) (h : M.points xs = 0) : xs.length ≤ 3000 ∧ ∀ n ∈ xs, M.scalar n = true := by
  unfold M.points at h
  split at h
  · cases h
  · split at h
    · rename_i hs
      exact ⟨by omega, List.all_eq_true.1 hs⟩
    · cases h
theorem scalar_bounds (n : Int) (h : M.scalar n = true) : 0 ≤ n ∧ n ≤ 1114111 ∧ (n < 55296 ∨ 57343 < n) := by simpa [M.scalar] using h
end Go.Proofs.YteingkjdemlhgaaGreatDoor

/-
  Package utf16: what All, Decode, Encode compute.
-/
namespace Go.Proofs.YteingkjdemlhgaaGreatDoor
open Go.RowKit
set_option maxRecDepth 1000000
theorem told16_to (big : Bool) (s : ByteArray) (xs : List Int) (l : List UInt8) (h : M.told16 big s.data.toList = (xs, l)) (hs : s.size ≤ 68719476735) (w : World) : Calls Tryz.prog 136 #[.bool big, .string s] w fun e w' => ∃ v, e = .returned (.tuple #[v, .string ⟨l.toArray⟩]) ∧ Own w.heap.size 3 w' v (xs.map (Value.int .i64)) ∧ Bel w w' := by
  have := told16_any big s hs w; rw [h] at this; exact this
theorem all16_any (big : Bool) (s : ByteArray) (hs : s.size ≤ 68719476734) (w : World) : Calls Tryz.prog 93 #[.bool big, .string s] w fun e w' => ∃ v, e = .returned v ∧ Own w.heap.size 3 w' v ((M.all16 big s.data.toList).map (Value.int .i64)) ∧ Bel w w' := by
  obtain ⟨⟨xs, l⟩, ht⟩ : ∃ r, M.told16 big s.data.toList = r := ⟨_, rfl⟩
  have hlen := (M.told16_len big _ s.data.toList (Nat.le_refl _)).1
  rw [ht, ← Lib.size_eq] at hlen
  have Ht := Lib.hid ht
  by_cases he : l = []
  · subst he
    have HA := Lib.hid (show M.all16 big s.data.toList = xs by rw [M.all16, ht, if_pos rfl])
    clear ht hlen
    go_enter Tryz.func93, Tryz.ntmps93
    go_wp2_with (go_at_call 136; refine (told16_to _ _ _ _ Ht.out (by omega) _).mono ?_; rintro e w' ⟨v, rfl, ho, hb⟩)
    go_ret
    rw [HA.out]
    exact ⟨_, rfl, by assumption, by assumption⟩
  · have HA := Lib.hid (show M.all16 big s.data.toList = xs ++ [65533] by rw [M.all16, ht, if_neg he])
    have e1 : (!l.isEmpty) = true := by simpa using he
    have hl2 : xs.length ≤ s.size := by simp only at hlen; omega
    clear ht hlen he
    go_enter Tryz.func93, Tryz.ntmps93
    go_wp2_with (first | (go_at_call 136; refine (told16_to _ _ _ _ Ht.out (by omega) _).mono ?_; rintro e w' ⟨v, rfl, ho, hb⟩; have hB := hb.size) | (at_builtin; refine wpList_app rfl (.tmp 15) (.tmp 16) 30 rfl elemInt (by decide) w.heap.size _ _ _ rfl rfl ho rfl (by simp; omega) (by first | exact Nat.le_refl _ | assumption | (have := hb.size; omega)) ?_; intro v' w1 hown' hb1))
    go_ret
    rw [HA.out]
    exact ⟨_, rfl, by rw [List.map_append]; exact hown', hb.upto hb1 (Nat.le_refl _)⟩
end Go.Proofs.YteingkjdemlhgaaGreatDoor

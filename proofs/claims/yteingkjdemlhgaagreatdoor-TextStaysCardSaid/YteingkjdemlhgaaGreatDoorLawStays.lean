/-
  The law TextStays.
-/
import Derived.Test.YteingkjdemlhgaaGreatDoorLawText
import Derived.Test.YteingkjdemlhgaaGreatDoorG10
namespace Go.Proofs.YteingkjdemlhgaaGreatDoor
open Go.RowKit
set_option maxRecDepth 1000000
set_option maxHeartbeats 4000000

theorem sniffS_to (s : ByteArray) (n k : Int) (h : M.sniff s.data.toList = (n, k)) (w : World) : Calls Tryz.prog 36 #[.string s] w fun e w' => e = .returned (.tuple #[.int .i64 n, .int .i64 k]) ∧ Bel w w' := by
  have := sniff_any s w; rw [h] at this; exact this
theorem stays_no (nm s : ByteArray) (e : Int) (w : World) (htab : Tab w) (hL : Len w) (HD : Hid (M.decT nm.data.toList s.data.toList = ([], 0, 0, 2))) (HR : Hid (M.recT nm.data.toList s.data.toList e = ([], 2))) : Calls Tryz.prog 8 #[.string nm, .string s, .int .i64 e] w fun r w' => r = .returned (.bool true) ∧ Bel w w' := by
  go_enter Tryz.func8, Tryz.ntmps8
  go_wp2_with fail
  refine (textBegun_any _ hL htab).mono ?_
  rintro r w1 ⟨rfl, b1⟩
  go_wp2_with fail
  refine (encoderBegun_any _ (htab.bel b1)).mono ?_
  rintro r w2 ⟨rfl, b2⟩
  have b2 := b1.trans b2
  go_wp2_with fail
  refine (streamBegun_any _).mono ?_
  rintro r w3 ⟨rfl, b3⟩
  have b3 := b2.trans b3
  go_wp2_with fail
  refine (decodeT_sl nm s _ _ _ _ HD.out _ (hL.bel b3)).mono ?_
  rintro r w4 ⟨A4, c4, rfl, o4, b4⟩
  have b4 := b3.trans b4
  go_wp2_with fail
  refine (recode_to nm s e _ _ HR.out _ (hL.bel b4) (htab.bel b4)).mono ?_
  rintro r w5 ⟨rfl, b5⟩
  have i4 := o4.ints.bel b5
  have b5 := b4.trans b5
  clear o4 b1 b2 b3 b4
  go_wp2_with fail
  go_ret
  exact ⟨by first | rfl | simp, b5⟩
theorem stays_bad (nm s : ByteArray) (e : Int) (w : World) (htab : Tab w) (hL : Len w) (xs : List Int) (n y : Int) (t : List UInt8) (k : Int) (_g : (k != 0) = true) (HD : Hid (M.decT nm.data.toList s.data.toList = (xs, n, y, 0))) (HR : Hid (M.recT nm.data.toList s.data.toList e = (t, k))) : Calls Tryz.prog 8 #[.string nm, .string s, .int .i64 e] w fun r w' => r = .returned (.bool true) ∧ Bel w w' := by
  go_enter Tryz.func8, Tryz.ntmps8
  go_wp2_with fail
  refine (textBegun_any _ hL htab).mono ?_
  rintro r w1 ⟨rfl, b1⟩
  go_wp2_with fail
  refine (encoderBegun_any _ (htab.bel b1)).mono ?_
  rintro r w2 ⟨rfl, b2⟩
  have b2 := b1.trans b2
  go_wp2_with fail
  refine (streamBegun_any _).mono ?_
  rintro r w3 ⟨rfl, b3⟩
  have b3 := b2.trans b3
  go_wp2_with fail
  refine (decodeT_sl nm s _ _ _ _ HD.out _ (hL.bel b3)).mono ?_
  rintro r w4 ⟨A4, c4, rfl, o4, b4⟩
  have b4 := b3.trans b4
  go_wp2_with fail
  refine (recode_to nm s e _ _ HR.out _ (hL.bel b4) (htab.bel b4)).mono ?_
  rintro r w5 ⟨rfl, b5⟩
  have i4 := o4.ints.bel b5
  have b5 := b4.trans b5
  clear o4 b1 b2 b3 b4
  go_wp2_with fail
  go_ret
  exact ⟨by first | rfl | simp, b5⟩
theorem stays_big (nm s : ByteArray) (e : Int) (w : World) (htab : Tab w) (hL : Len w) (xs : List Int) (n y : Int) (t : List UInt8) (hb : 3000 < t.length) (HD : Hid (M.decT nm.data.toList s.data.toList = (xs, n, y, 0))) (HR : Hid (M.recT nm.data.toList s.data.toList e = (t, 0))) : Calls Tryz.prog 8 #[.string nm, .string s, .int .i64 e] w fun r w' => r = .returned (.bool true) ∧ Bel w w' := by
  go_enter Tryz.func8, Tryz.ntmps8
  go_wp2_with fail
  refine (textBegun_any _ hL htab).mono ?_
  rintro r w1 ⟨rfl, b1⟩
  go_wp2_with fail
  refine (encoderBegun_any _ (htab.bel b1)).mono ?_
  rintro r w2 ⟨rfl, b2⟩
  have b2 := b1.trans b2
  go_wp2_with fail
  refine (streamBegun_any _).mono ?_
  rintro r w3 ⟨rfl, b3⟩
  have b3 := b2.trans b3
  go_wp2_with fail
  refine (decodeT_sl nm s _ _ _ _ HD.out _ (hL.bel b3)).mono ?_
  rintro r w4 ⟨A4, c4, rfl, o4, b4⟩
  have b4 := b3.trans b4
  go_wp2_with fail
  refine (recode_to nm s e _ _ HR.out _ (hL.bel b4) (htab.bel b4)).mono ?_
  rintro r w5 ⟨rfl, b5⟩
  have i4 := o4.ints.bel b5
  have b5 := b4.trans b5
  clear o4 b1 b2 b3 b4
  go_wp2_with fail
  go_ret
  exact ⟨by first | rfl | simp, b5⟩
theorem stays_one (nm s : ByteArray) (e : Int) (w : World) (htab : Tab w) (hL : Len w) (xs : List Int) (n y : Int) (t : List UInt8) (hb : t.length ≤ 3000) (h3 : 3 ≤ t.length) (HD : Hid (M.decT nm.data.toList s.data.toList = (xs, n, y, 0))) (HR : Hid (M.recT nm.data.toList s.data.toList e = (t, 0)))
    (HS : Hid (∀ m ∈ xs, M.hasEE e m = (M.hasE (M.outE e) m, 0))) (HO : Hid (M.outputE e = (1, 0))) (HSN : Hid (M.sniff (⟨t.toArray⟩ : ByteArray).data.toList = (1, 3)))
    (HW : Hid (xs.all (M.hasE (M.outE e)) = true → M.decE 1 ((⟨t.toArray⟩ : ByteArray).extract 3 (⟨t.toArray⟩ : ByteArray).size).data.toList = (xs, 0))) : Calls Tryz.prog 8 #[.string nm, .string s, .int .i64 e] w fun r w' => r = .returned (.bool true) ∧ Bel w w' := by
  skip
  go_enter Tryz.func8, Tryz.ntmps8
  go_wp2_with fail
  refine (textBegun_any _ hL htab).mono ?_
  rintro r w1 ⟨rfl, b1⟩
  go_wp2_with fail
  refine (encoderBegun_any _ (htab.bel b1)).mono ?_
  rintro r w2 ⟨rfl, b2⟩
  have b2 := b1.trans b2
  go_wp2_with fail
  refine (streamBegun_any _).mono ?_
  rintro r w3 ⟨rfl, b3⟩
  have b3 := b2.trans b3
  go_wp2_with fail
  refine (decodeT_sl nm s _ _ _ _ HD.out _ (hL.bel b3)).mono ?_
  rintro r w4 ⟨A4, c4, rfl, o4, b4⟩
  have b4 := b3.trans b4
  go_wp2_with fail
  refine (recode_to nm s e _ _ HR.out _ (hL.bel b4) (htab.bel b4)).mono ?_
  rintro r w5 ⟨rfl, b5⟩
  have i4 := o4.ints.bel b5
  have b5 := b4.trans b5
  clear o4 b1 b2 b3 b4
  go_wp2_with fail
  have i0 := i4
  obtain ⟨A, c, hv, hc1, hc2, hn, hx⟩ := i4
  injection hv with hv1 hv2 hv3
  subst hv1
  subst hv3
  unfold maxLen at hc2
  have HX := Lib.hid hx
  have HN := Lib.hid hn
  clear hx hn hv2
  go_loopw [13] (fun i wr => ∃ (k : Nat), k ≤ xs.length ∧ i = .int .i64 k ∧ Hid ((xs.take k).all (M.hasE (M.outE e)) = true) ∧ Bel w5 wr) (fun i _ => xs.length - (intOf i).toNat)
  case atStart => exact ⟨0, by omega, rfl, Lib.hid rfl, Bel.refl _⟩
  case round =>
    obtain ⟨k, hk, rfl, HT, hb⟩ := hrel
    by_cases hlt : k < xs.length
    · obtain ⟨m, hm⟩ : ∃ m, xs[k]? = some m := ⟨_, List.getElem?_eq_getElem hlt⟩
      cases A4 with
      | none => exfalso; have h3 := hlt; rw [HN.out rfl, List.length_nil] at h3; omega
      | some x =>
        have hcw : w5.cell? (x.add k) = some (.int .i64 m) := HX.out x rfl k m hm
        have hcell : wr.cell? (x.add k) = some (.int .i64 m) := (hb.cell (World.block_lt_of_cell? w5 _ hcw)).trans hcw
        have HH := Lib.hid (HS.out m (List.mem_of_getElem? hm))
        have HT2 := Lib.hid (show (xs.take (k + 1)).all (M.hasE (M.outE e)) = M.hasE (M.outE e) m by
          rw [List.take_add_one, hm, List.all_append, HT.out]; simp)
        clear hcw hm
        generalize M.hasE (M.outE e) m = p at *
        cases p
        · go_wp2_with (go_at_call 34; refine (has_to e m _ _ HH.out _).mono ?_; rintro e w' ⟨rfl, b6⟩)
          go_ret
          exact ⟨rfl, b5.trans (hb.trans b6)⟩
        · go_wp2_with (go_at_call 34; refine (has_to e m _ _ HH.out _).mono ?_; rintro e w' ⟨rfl, b6⟩)
          go_roundw
          case rel => exact ⟨k + 1, by omega, by go_num, HT2, hb.trans b6⟩
          case measure => simp [intOf]; omega
    · obtain rfl : k = xs.length := by omega
      have HA := Lib.hid (show xs.all (M.hasE (M.outE e)) = true by have := HT.out; rwa [List.take_length] at this)
      have HD2 := Lib.hid (HW.out HA.out)
      go_wp2_with fail
      refine (output_to e _ _ HO.out _).mono ?_
      rintro r _ ⟨rfl, rfl⟩
      go_wp2_with fail
      refine (sniffS_to ⟨t.toArray⟩ 1 3 HSN.out _).mono ?_
      rintro r w7 ⟨rfl, b7⟩
      go_wp2_with fail
      refine (decE_sl 1 _ xs 0 HD2.out _).mono ?_
      rintro r w8 ⟨A8, c8, rfl, o8, b8⟩
      have b8 := (hb.trans b7).trans b8
      go_wp2_with fail
      refine (sameInts_yes _ _ _ _ _ (i0.bel b8) o8.ints rfl).mono ?_
      rintro r w9 ⟨rfl, b9⟩
      go_wp2_with fail
      go_ret
      exact ⟨rfl, b5.trans (b8.trans b9)⟩
theorem stays_oth (nm s : ByteArray) (e : Int) (w : World) (htab : Tab w) (hL : Len w) (xs : List Int) (n y : Int) (t : List UInt8) (hb : t.length ≤ 3000) (HD : Hid (M.decT nm.data.toList s.data.toList = (xs, n, y, 0))) (HR : Hid (M.recT nm.data.toList s.data.toList e = (t, 0)))
    (HS : Hid (∀ m ∈ xs, M.hasEE e m = (M.hasE (M.outE e) m, 0))) (o a b : Int) (_g1 : (o == 1) = false) (_g2 : (o != 1) = true) (HO : Hid (M.outputE e = (o, 0))) (HSN : Hid (M.sniff (⟨t.toArray⟩ : ByteArray).data.toList = (a, b)))
    (HW : Hid (xs.all (M.hasE (M.outE e)) = true → M.decE o (⟨t.toArray⟩ : ByteArray).data.toList = (xs, 0))) : Calls Tryz.prog 8 #[.string nm, .string s, .int .i64 e] w fun r w' => r = .returned (.bool true) ∧ Bel w w' := by
  skip
  go_enter Tryz.func8, Tryz.ntmps8
  go_wp2_with fail
  refine (textBegun_any _ hL htab).mono ?_
  rintro r w1 ⟨rfl, b1⟩
  go_wp2_with fail
  refine (encoderBegun_any _ (htab.bel b1)).mono ?_
  rintro r w2 ⟨rfl, b2⟩
  have b2 := b1.trans b2
  go_wp2_with fail
  refine (streamBegun_any _).mono ?_
  rintro r w3 ⟨rfl, b3⟩
  have b3 := b2.trans b3
  go_wp2_with fail
  refine (decodeT_sl nm s _ _ _ _ HD.out _ (hL.bel b3)).mono ?_
  rintro r w4 ⟨A4, c4, rfl, o4, b4⟩
  have b4 := b3.trans b4
  go_wp2_with fail
  refine (recode_to nm s e _ _ HR.out _ (hL.bel b4) (htab.bel b4)).mono ?_
  rintro r w5 ⟨rfl, b5⟩
  have i4 := o4.ints.bel b5
  have b5 := b4.trans b5
  clear o4 b1 b2 b3 b4
  go_wp2_with fail
  have i0 := i4
  obtain ⟨A, c, hv, hc1, hc2, hn, hx⟩ := i4
  injection hv with hv1 hv2 hv3
  subst hv1
  subst hv3
  unfold maxLen at hc2
  have HX := Lib.hid hx
  have HN := Lib.hid hn
  clear hx hn hv2
  go_loopw [13] (fun i wr => ∃ (k : Nat), k ≤ xs.length ∧ i = .int .i64 k ∧ Hid ((xs.take k).all (M.hasE (M.outE e)) = true) ∧ Bel w5 wr) (fun i _ => xs.length - (intOf i).toNat)
  case atStart => exact ⟨0, by omega, rfl, Lib.hid rfl, Bel.refl _⟩
  case round =>
    obtain ⟨k, hk, rfl, HT, hb⟩ := hrel
    by_cases hlt : k < xs.length
    · obtain ⟨m, hm⟩ : ∃ m, xs[k]? = some m := ⟨_, List.getElem?_eq_getElem hlt⟩
      cases A4 with
      | none => exfalso; have h3 := hlt; rw [HN.out rfl, List.length_nil] at h3; omega
      | some x =>
        have hcw : w5.cell? (x.add k) = some (.int .i64 m) := HX.out x rfl k m hm
        have hcell : wr.cell? (x.add k) = some (.int .i64 m) := (hb.cell (World.block_lt_of_cell? w5 _ hcw)).trans hcw
        have HH := Lib.hid (HS.out m (List.mem_of_getElem? hm))
        have HT2 := Lib.hid (show (xs.take (k + 1)).all (M.hasE (M.outE e)) = M.hasE (M.outE e) m by
          rw [List.take_add_one, hm, List.all_append, HT.out]; simp)
        clear hcw hm
        generalize M.hasE (M.outE e) m = p at *
        cases p
        · go_wp2_with (go_at_call 34; refine (has_to e m _ _ HH.out _).mono ?_; rintro e w' ⟨rfl, b6⟩)
          go_ret
          exact ⟨rfl, b5.trans (hb.trans b6)⟩
        · go_wp2_with (go_at_call 34; refine (has_to e m _ _ HH.out _).mono ?_; rintro e w' ⟨rfl, b6⟩)
          go_roundw
          case rel => exact ⟨k + 1, by omega, by go_num, HT2, hb.trans b6⟩
          case measure => simp [intOf]; omega
    · obtain rfl : k = xs.length := by omega
      have HA := Lib.hid (show xs.all (M.hasE (M.outE e)) = true by have := HT.out; rwa [List.take_length] at this)
      have HD2 := Lib.hid (HW.out HA.out)
      go_wp2_with fail
      refine (output_to e _ _ HO.out _).mono ?_
      rintro r _ ⟨rfl, rfl⟩
      go_wp2_with fail
      refine (sniffS_to ⟨t.toArray⟩ _ _ HSN.out _).mono ?_
      rintro r w7 ⟨rfl, b7⟩
      go_wp2_with fail
      refine (decE_sl o _ xs 0 (by rw [Lib.extract_data, List.drop_zero, Nat.sub_zero]; show M.decE o (t.take t.length) = _; rw [List.take_length]; exact HD2.out) _).mono ?_
      rintro r w8 ⟨A8, c8, rfl, o8, b8⟩
      have b8 := (hb.trans b7).trans b8
      go_wp2_with fail
      refine (sameInts_yes _ _ _ _ _ (i0.bel b8) o8.ints rfl).mono ?_
      rintro r w9 ⟨rfl, b9⟩
      go_wp2_with fail
      go_ret
      exact ⟨rfl, b5.trans (b8.trans b9)⟩
theorem textStaysTrue (nm s : ByteArray) (e : Int) (w : World) (_ : nm.size ≤ reachBytes) (_ : s.size ≤ reachBytes) (_ : -9223372036854775808 ≤ e ∧ e ≤ 9223372036854775807) (htab : Tab w) (hL : Len w) : Calls Tryz.prog 8 #[.string nm, .string s, .int .i64 e] w fun r w' => r = .returned (.bool true) ∧ Bel w w' := by
  by_cases hl : 3000 < nm.size ∨ 3000 < s.size
  · exact stays_no nm s e w htab hL (Lib.hid (by rw [M.decT, ← Lib.size_eq, ← Lib.size_eq, if_pos hl])) (Lib.hid (by rw [M.recT, ← Lib.size_eq, ← Lib.size_eq, if_pos hl]))
  · have hs : s.data.toList.length ≤ 3000 := by rw [← Lib.size_eq]; omega
    obtain ⟨xs, n, y, hw⟩ : ∃ xs n y, M.wholeM nm.data.toList s.data.toList = (xs, n, y) := ⟨_, _, _, rfl⟩
    have hd : M.decT nm.data.toList s.data.toList = (xs, n, y, 0) := by rw [M.decT, ← Lib.size_eq, ← Lib.size_eq, if_neg hl, hw]
    have hp := M.whole_points nm.data.toList s.data.toList hs
    have hsc : ∀ m ∈ xs, M.scalar m = true := by
      have := M.allE_scalar (M.chosen nm.data.toList s.data.toList).1 (s.data.toList.drop (M.chosen nm.data.toList s.data.toList).2.2.toNat)
      rw [M.wholeM] at hw
      simp only [Prod.mk.injEq] at hw
      rwa [hw.1] at this
    rw [hw] at hp
    simp only at hp
    obtain ⟨t, k, hr⟩ : ∃ t k, M.recT nm.data.toList s.data.toList e = (t, k) := ⟨_, _, rfl⟩
    by_cases hk : k = 0
    · subst hk
      by_cases hb : 3000 < t.length
      · exact stays_big nm s e w htab hL xs n y t hb (Lib.hid hd) (Lib.hid hr)
      · have hr2 := hr
        rw [M.recT, ← Lib.size_eq, ← Lib.size_eq, if_neg hl, hw] at hr2
        simp only at hr2
        cases hi : M.isEnc e with
        | false =>
          have he : M.encE e 1 xs = ([], 6) := by rw [M.encE, hi, if_pos rfl]
          rw [he, if_pos (by decide)] at hr2
          simp at hr2
        | true =>
          have he : M.encE e 1 xs = M.writeE (M.outE e) (M.toldE (M.outE e) xs) := by
            rw [M.encE, hi, if_neg (by decide), if_neg (by decide), if_neg (by simp [hp]), if_pos rfl]
          have hb0 : ∀ m ∈ xs, 0 ≤ m := fun m hm => by have := scalar_bounds m (hsc m hm); omega
          have hok := M.writeE_ok (M.outE e) _ (M.toldE_has (M.outE e) xs hb0)
          obtain ⟨b, hb2⟩ : ∃ b, M.writeE (M.outE e) (M.toldE (M.outE e) xs) = (b, 0) := ⟨_, Prod.ext rfl hok⟩
          rw [he, hb2, if_neg (by simp)] at hr2
          simp only [Prod.mk.injEq, and_true] at hr2
          have hS := Lib.hid (show ∀ m ∈ xs, M.hasEE e m = (M.hasE (M.outE e) m, 0) from fun m hm => by
            rw [M.hasEE, hi, if_neg (by decide), hsc m hm, if_neg (by decide)])
          have hO : M.outputE e = (M.outE e, 0) := by rw [M.outputE, hi, if_pos rfl]
          have hblen : b.length ≤ t.length := by rw [← hr2, List.length_append]; omega
          have htl : t.length ≤ 3000 := by omega
          have hall : xs.all (M.hasE (M.outE e)) = true → M.decE (M.outE e) b = (xs, 0) := fun ha => by
            rw [M.toldE_all _ _ ha] at hb2
            have h7 := M.allE_write (M.outE e) xs b (M.outE_cases e hi) hsc hb2
            have h6 : M.readyE (M.outE e) b = 0 := by
              rw [M.readyE, M.outE_enc e hi]; simp; omega
            rw [M.decE, if_pos h6, h7]
          by_cases h1 : M.outE e = 1
          · have hm : M.markOf (M.outE e) = [239, 187, 191] := by rw [h1]; rfl
            rw [hm] at hr2
            refine stays_one nm s e w htab hL xs n y t (by omega) (by rw [← hr2, List.length_append]; simp) (Lib.hid hd) (Lib.hid hr) hS (Lib.hid (by rw [hO, h1])) (Lib.hid (by show M.sniff t = _; rw [← hr2]; exact M.sniff_utf8 b)) (Lib.hid (fun ha => ?_))
            rw [drop_str]
            show M.decE 1 (t.drop 3) = _
            rw [← hr2, ← h1]
            exact hall ha
          · have hm : M.markOf (M.outE e) = [] := by
              rcases M.outE_cases e hi with h | h | h | h
              · exact absurd h h1
              all_goals rw [h]; rfl
            rw [hm, List.nil_append] at hr2
            subst hr2
            obtain ⟨a, c, hsn⟩ : ∃ a c, M.sniff b = (a, c) := ⟨_, _, rfl⟩
            exact stays_oth nm s e w htab hL xs n y b (by omega) (Lib.hid hd) (Lib.hid hr) hS (M.outE e) a c (by simpa using h1) (by simpa using h1) (Lib.hid hO) (Lib.hid hsn) (Lib.hid hall)
    · exact stays_bad nm s e w htab hL xs n y t k (by simpa using hk) (Lib.hid hd) (Lib.hid hr)
end Go.Proofs.YteingkjdemlhgaaGreatDoor

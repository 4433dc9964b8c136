/-
  The law TextTells.
-/
import Derived.Test.YteingkjdemlhgaaGreatDoorLawText
import Derived.Test.YteingkjdemlhgaaGreatDoorG10
import Derived.Test.YteingkjdemlhgaaGreatDoorG6
namespace Go.Proofs.YteingkjdemlhgaaGreatDoor
open Go.RowKit
set_option maxRecDepth 1000000
set_option maxHeartbeats 4000000

theorem checkPointsT_to (v : Value) (xs : List Int) (n : Int) (h : M.points xs = n) (w : World) (hv : IntSl w v xs) : Calls Tryz.prog 31 #[v] w fun e w' => e = .returned (.int .i64 n) ∧ w = w' := by
  have := checkPoints_any v xs w hv; rw [h] at this; exact this
theorem outputOfT_to (n o : Int) (h : M.outE n = o) (w : World) : Calls Tryz.prog 33 #[.int .i64 n] w fun e w' => e = .returned (.int .i64 o) ∧ w = w' := by
  have := outputOf_any n w; rw [h] at this; exact this
theorem markOfT_to (n : Int) (l : List UInt8) (h : M.markOf n = l) (w : World) : Calls Tryz.prog 32 #[.int .i64 n] w fun e w' => e = .returned (.string ⟨l.toArray⟩) ∧ w = w' := by
  have := markOf_any n w; rw [h] at this; exact this
theorem tells_a0 (nm s : ByteArray) (e : Int) (v : Value) (l : List Int) (w : World) (hv : IntSl w v l) (htab : Tab w) (hL : Len w) (hl3 : l.length ≤ 3000) (HC : Hid (M.countE l = ((M.badN l : Int), (M.farN l : Int), 0))) (HP : Hid (M.points l = 0)) (HN : Hid (M.long nm.data.toList = 2)) (HD : Hid (M.decT nm.data.toList s.data.toList = ([], 0, 0, 2))) (HR : Hid (M.recT nm.data.toList s.data.toList e = ([], 2))) : Calls Tryz.prog 5 #[.string nm, .string s, .int .i64 e, v] w fun r w' => r = .returned (.bool true) ∧ Bel w w' := by
  go_enter Tryz.func5, Tryz.ntmps5
  go_wp2_with fail
  refine (decodeT_sl nm s _ _ _ _ HD.out _ hL).mono ?_
  rintro r w1 ⟨A1, c1, rfl, o1, b1⟩
  go_wp2_with fail
  refine (recode_to nm s e _ _ HR.out _ (hL.bel b1) (htab.bel b1)).mono ?_
  rintro r w2 ⟨rfl, b2⟩
  have i1 := o1.ints.bel b2
  have b2 := b1.trans b2
  go_wp2_with fail
  refine (count_to v l _ _ _ HC.out _ (hv.bel b2)).mono ?_
  rintro r w3 ⟨rfl, b3⟩
  have i1 := i1.bel b3
  have b3 := b2.trans b3
  clear o1 b1 b2
  go_wp2_with fail
  refine (long_to nm _ HN.out _).mono ?_
  rintro r _ ⟨rfl, rfl⟩
  go_wp2_with fail
  skip
  refine (checkPointsT_to v l _ HP.out _ (hv.bel b3)).mono ?_
  rintro r _ ⟨rfl, rfl⟩
  go_wp2_with fail
  skip
  have hlb : l.length ≤ 3000 := hl3
  have hv0 := hv.bel b3
  obtain ⟨a, c, rfl, hc1, hc2, hn, hx⟩ := hv0
  unfold maxLen at hc2
  have HX := Lib.hid hx
  have HY := Lib.hid hn
  clear hx hn hv
  go_loopw [24, 25, 27] (fun vk vh i wr => ∃ k : Nat, k ≤ l.length ∧ i = .int .i64 k ∧ vk = .int .i64 (M.badN (l.take k) : Int) ∧ vh = .int .i64 (M.farN (l.take k) : Int) ∧ Bel w3 wr) (fun _ _ i _ => l.length - (intOf i).toNat)
  case atStart => exact ⟨0, by omega, rfl, rfl, rfl, Bel.refl _⟩
  case round =>
    obtain ⟨k, hk, rfl, rfl, rfl, hb⟩ := hrel
    have hbf := M.bad_far (l.take k)
    rw [List.length_take] at hbf
    by_cases hlt : k < l.length
    · obtain ⟨m, hm⟩ : ∃ m, l[k]? = some m := ⟨_, List.getElem?_eq_getElem hlt⟩
      cases a with
      | none => exfalso; have h3 := hlt; rw [HY.out rfl, List.length_nil] at h3; omega
      | some x =>
        have hcw : w3.cell? (x.add k) = some (.int .i64 m) := HX.out x rfl k m hm
        have hcell : wr.cell? (x.add k) = some (.int .i64 m) := (hb.cell (World.block_lt_of_cell? w3 _ hcw)).trans hcw
        have E1 := badN_take l k m hm
        have E2 := farN_take l k m hm
        clear hcw hm
        by_cases h65 : m = 65533
        · subst h65
          rw [if_pos rfl] at E1
          rw [if_pos (by decide)] at E2
          have F1 := Lib.hid (show (M.badN (l.take (k + 1)) : Int) = (M.badN (l.take k) : Int) + 1 by omega)
          have F2 := Lib.hid (show (M.farN (l.take (k + 1)) : Int) = (M.farN (l.take k) : Int) + 1 by omega)
          clear E1 E2
          generalize M.badN (l.take k) = bn at *
          generalize M.farN (l.take k) = fn at *
          go_wp2_with fail
          go_roundw
          case rel => exact ⟨k + 1, by omega, by go_num, by rw [F1.out], by rw [F2.out], hb⟩
          case measure => simp [intOf]; omega
        · have g65 : (m == 65533) = false := by simpa using h65
          rw [if_neg h65] at E1
          by_cases h127 : 127 < m
          · rw [if_pos h127] at E2
            have F1 := Lib.hid (show (M.badN (l.take (k + 1)) : Int) = (M.badN (l.take k) : Int) by omega)
            have F2 := Lib.hid (show (M.farN (l.take (k + 1)) : Int) = (M.farN (l.take k) : Int) + 1 by omega)
            clear E1 E2 h65
            generalize M.badN (l.take k) = bn at *
            generalize M.farN (l.take k) = fn at *
            go_wp2_with fail
            go_roundw
            case rel => exact ⟨k + 1, by omega, by go_num, by rw [F1.out], by rw [F2.out], hb⟩
            case measure => simp [intOf]; omega
          · rw [if_neg h127] at E2
            have F1 := Lib.hid (show (M.badN (l.take (k + 1)) : Int) = (M.badN (l.take k) : Int) by omega)
            have F2 := Lib.hid (show (M.farN (l.take (k + 1)) : Int) = (M.farN (l.take k) : Int) by omega)
            clear E1 E2 h65
            generalize M.badN (l.take k) = bn at *
            generalize M.farN (l.take k) = fn at *
            go_wp2_with fail
            go_roundw
            case rel => exact ⟨k + 1, by omega, by go_num, by rw [F1.out], by rw [F2.out], hb⟩
            case measure => simp [intOf]; omega
    · obtain rfl : k = l.length := by omega
      rw [List.take_length]
      go_wp2_with fail
      refine (textBegun_any _ (hL.bel (b3.trans hb)) (htab.bel (b3.trans hb))).mono ?_
      rintro r w9 ⟨rfl, b9⟩
      go_wp2_with fail
      refine (intsAre_yes _ _ [] [] 2 _ (i1.bel (hb.trans b9)) (IntSl.nil_ _) rfl).mono ?_
      rintro r w10 ⟨rfl, b10⟩
      go_wp2_with fail
      go_ret
      exact ⟨by first | rfl | simp , b3.trans (hb.trans (b9.trans b10))⟩
theorem tells_an (nm s : ByteArray) (e : Int) (v : Value) (l : List Int) (w : World) (hv : IntSl w v l) (htab : Tab w) (hL : Len w) (p : Int) (_gp : (p == 0) = false) (HC : Hid (M.countE l = (0, 0, p))) (HP : Hid (M.points l = p)) (HN : Hid (M.long nm.data.toList = 2)) (HD : Hid (M.decT nm.data.toList s.data.toList = ([], 0, 0, 2))) (HR : Hid (M.recT nm.data.toList s.data.toList e = ([], 2))) : Calls Tryz.prog 5 #[.string nm, .string s, .int .i64 e, v] w fun r w' => r = .returned (.bool true) ∧ Bel w w' := by
  go_enter Tryz.func5, Tryz.ntmps5
  go_wp2_with fail
  refine (decodeT_sl nm s _ _ _ _ HD.out _ hL).mono ?_
  rintro r w1 ⟨A1, c1, rfl, o1, b1⟩
  go_wp2_with fail
  refine (recode_to nm s e _ _ HR.out _ (hL.bel b1) (htab.bel b1)).mono ?_
  rintro r w2 ⟨rfl, b2⟩
  have i1 := o1.ints.bel b2
  have b2 := b1.trans b2
  go_wp2_with fail
  refine (count_to v l _ _ _ HC.out _ (hv.bel b2)).mono ?_
  rintro r w3 ⟨rfl, b3⟩
  have i1 := i1.bel b3
  have b3 := b2.trans b3
  clear o1 b1 b2
  go_wp2_with fail
  refine (long_to nm _ HN.out _).mono ?_
  rintro r _ ⟨rfl, rfl⟩
  go_wp2_with fail
  skip
  refine (checkPointsT_to v l _ HP.out _ (hv.bel b3)).mono ?_
  rintro r _ ⟨rfl, rfl⟩
  go_wp2_with fail
  skip
  have hv0 := hv.bel b3
  obtain ⟨a, c, rfl, hc1, hc2, hn, hx⟩ := hv0
  unfold maxLen at hc2
  clear hx hn hv
  go_loopw [24, 25, 27] (fun vk vh i wr => i = .int .i64 0 ∧ vk = .int .i64 0 ∧ vh = .int .i64 0 ∧ Bel w3 wr) (fun _ _ _ _ => 0)
  case atStart => exact ⟨rfl, rfl, rfl, Bel.refl _⟩
  case round =>
    obtain ⟨rfl, rfl, rfl, hb⟩ := hrel
    by_cases hlt : 0 < l.length
    all_goals
      go_wp2_with fail
      refine (textBegun_any _ (hL.bel (b3.trans hb)) (htab.bel (b3.trans hb))).mono ?_
      rintro r w9 ⟨rfl, b9⟩
      go_wp2_with fail
      refine (intsAre_yes _ _ [] [] 2 _ (i1.bel (hb.trans b9)) (IntSl.nil_ _) rfl).mono ?_
      rintro r w10 ⟨rfl, b10⟩
      go_wp2_with fail
      go_ret
      exact ⟨by first | rfl | simp , b3.trans (hb.trans (b9.trans b10))⟩
theorem tells_b0 (nm s : ByteArray) (e : Int) (v : Value) (l : List Int) (w : World) (hv : IntSl w v l) (htab : Tab w) (hL : Len w) (hl3 : l.length ≤ 3000) (HC : Hid (M.countE l = ((M.badN l : Int), (M.farN l : Int), 0))) (HP : Hid (M.points l = 0)) (HN : Hid (M.long nm.data.toList = 0)) (HS : Hid (M.long s.data.toList = 2)) (HD : Hid (M.decT nm.data.toList s.data.toList = ([], 0, 0, 2))) (HR : Hid (M.recT nm.data.toList s.data.toList e = ([], 2))) : Calls Tryz.prog 5 #[.string nm, .string s, .int .i64 e, v] w fun r w' => r = .returned (.bool true) ∧ Bel w w' := by
  go_enter Tryz.func5, Tryz.ntmps5
  go_wp2_with fail
  refine (decodeT_sl nm s _ _ _ _ HD.out _ hL).mono ?_
  rintro r w1 ⟨A1, c1, rfl, o1, b1⟩
  go_wp2_with fail
  refine (recode_to nm s e _ _ HR.out _ (hL.bel b1) (htab.bel b1)).mono ?_
  rintro r w2 ⟨rfl, b2⟩
  have i1 := o1.ints.bel b2
  have b2 := b1.trans b2
  go_wp2_with fail
  refine (count_to v l _ _ _ HC.out _ (hv.bel b2)).mono ?_
  rintro r w3 ⟨rfl, b3⟩
  have i1 := i1.bel b3
  have b3 := b2.trans b3
  clear o1 b1 b2
  go_wp2_with fail
  refine (long_to nm _ HN.out _).mono ?_
  rintro r _ ⟨rfl, rfl⟩
  go_wp2_with fail
  skip
  refine (long_to s _ HS.out _).mono ?_
  rintro r _ ⟨rfl, rfl⟩
  go_wp2_with fail
  skip
  refine (checkPointsT_to v l _ HP.out _ (hv.bel b3)).mono ?_
  rintro r _ ⟨rfl, rfl⟩
  go_wp2_with fail
  skip
  have hlb : l.length ≤ 3000 := hl3
  have hv0 := hv.bel b3
  obtain ⟨a, c, rfl, hc1, hc2, hn, hx⟩ := hv0
  unfold maxLen at hc2
  have HX := Lib.hid hx
  have HY := Lib.hid hn
  clear hx hn hv
  go_loopw [24, 25, 27] (fun vk vh i wr => ∃ k : Nat, k ≤ l.length ∧ i = .int .i64 k ∧ vk = .int .i64 (M.badN (l.take k) : Int) ∧ vh = .int .i64 (M.farN (l.take k) : Int) ∧ Bel w3 wr) (fun _ _ i _ => l.length - (intOf i).toNat)
  case atStart => exact ⟨0, by omega, rfl, rfl, rfl, Bel.refl _⟩
  case round =>
    obtain ⟨k, hk, rfl, rfl, rfl, hb⟩ := hrel
    have hbf := M.bad_far (l.take k)
    rw [List.length_take] at hbf
    by_cases hlt : k < l.length
    · obtain ⟨m, hm⟩ : ∃ m, l[k]? = some m := ⟨_, List.getElem?_eq_getElem hlt⟩
      cases a with
      | none => exfalso; have h3 := hlt; rw [HY.out rfl, List.length_nil] at h3; omega
      | some x =>
        have hcw : w3.cell? (x.add k) = some (.int .i64 m) := HX.out x rfl k m hm
        have hcell : wr.cell? (x.add k) = some (.int .i64 m) := (hb.cell (World.block_lt_of_cell? w3 _ hcw)).trans hcw
        have E1 := badN_take l k m hm
        have E2 := farN_take l k m hm
        clear hcw hm
        by_cases h65 : m = 65533
        · subst h65
          rw [if_pos rfl] at E1
          rw [if_pos (by decide)] at E2
          have F1 := Lib.hid (show (M.badN (l.take (k + 1)) : Int) = (M.badN (l.take k) : Int) + 1 by omega)
          have F2 := Lib.hid (show (M.farN (l.take (k + 1)) : Int) = (M.farN (l.take k) : Int) + 1 by omega)
          clear E1 E2
          generalize M.badN (l.take k) = bn at *
          generalize M.farN (l.take k) = fn at *
          go_wp2_with fail
          go_roundw
          case rel => exact ⟨k + 1, by omega, by go_num, by rw [F1.out], by rw [F2.out], hb⟩
          case measure => simp [intOf]; omega
        · have g65 : (m == 65533) = false := by simpa using h65
          rw [if_neg h65] at E1
          by_cases h127 : 127 < m
          · rw [if_pos h127] at E2
            have F1 := Lib.hid (show (M.badN (l.take (k + 1)) : Int) = (M.badN (l.take k) : Int) by omega)
            have F2 := Lib.hid (show (M.farN (l.take (k + 1)) : Int) = (M.farN (l.take k) : Int) + 1 by omega)
            clear E1 E2 h65
            generalize M.badN (l.take k) = bn at *
            generalize M.farN (l.take k) = fn at *
            go_wp2_with fail
            go_roundw
            case rel => exact ⟨k + 1, by omega, by go_num, by rw [F1.out], by rw [F2.out], hb⟩
            case measure => simp [intOf]; omega
          · rw [if_neg h127] at E2
            have F1 := Lib.hid (show (M.badN (l.take (k + 1)) : Int) = (M.badN (l.take k) : Int) by omega)
            have F2 := Lib.hid (show (M.farN (l.take (k + 1)) : Int) = (M.farN (l.take k) : Int) by omega)
            clear E1 E2 h65
            generalize M.badN (l.take k) = bn at *
            generalize M.farN (l.take k) = fn at *
            go_wp2_with fail
            go_roundw
            case rel => exact ⟨k + 1, by omega, by go_num, by rw [F1.out], by rw [F2.out], hb⟩
            case measure => simp [intOf]; omega
    · obtain rfl : k = l.length := by omega
      rw [List.take_length]
      go_wp2_with fail
      refine (textBegun_any _ (hL.bel (b3.trans hb)) (htab.bel (b3.trans hb))).mono ?_
      rintro r w9 ⟨rfl, b9⟩
      go_wp2_with fail
      refine (intsAre_yes _ _ [] [] 2 _ (i1.bel (hb.trans b9)) (IntSl.nil_ _) rfl).mono ?_
      rintro r w10 ⟨rfl, b10⟩
      go_wp2_with fail
      go_ret
      exact ⟨by first | rfl | simp , b3.trans (hb.trans (b9.trans b10))⟩
theorem tells_bn (nm s : ByteArray) (e : Int) (v : Value) (l : List Int) (w : World) (hv : IntSl w v l) (htab : Tab w) (hL : Len w) (p : Int) (_gp : (p == 0) = false) (HC : Hid (M.countE l = (0, 0, p))) (HP : Hid (M.points l = p)) (HN : Hid (M.long nm.data.toList = 0)) (HS : Hid (M.long s.data.toList = 2)) (HD : Hid (M.decT nm.data.toList s.data.toList = ([], 0, 0, 2))) (HR : Hid (M.recT nm.data.toList s.data.toList e = ([], 2))) : Calls Tryz.prog 5 #[.string nm, .string s, .int .i64 e, v] w fun r w' => r = .returned (.bool true) ∧ Bel w w' := by
  go_enter Tryz.func5, Tryz.ntmps5
  go_wp2_with fail
  refine (decodeT_sl nm s _ _ _ _ HD.out _ hL).mono ?_
  rintro r w1 ⟨A1, c1, rfl, o1, b1⟩
  go_wp2_with fail
  refine (recode_to nm s e _ _ HR.out _ (hL.bel b1) (htab.bel b1)).mono ?_
  rintro r w2 ⟨rfl, b2⟩
  have i1 := o1.ints.bel b2
  have b2 := b1.trans b2
  go_wp2_with fail
  refine (count_to v l _ _ _ HC.out _ (hv.bel b2)).mono ?_
  rintro r w3 ⟨rfl, b3⟩
  have i1 := i1.bel b3
  have b3 := b2.trans b3
  clear o1 b1 b2
  go_wp2_with fail
  refine (long_to nm _ HN.out _).mono ?_
  rintro r _ ⟨rfl, rfl⟩
  go_wp2_with fail
  skip
  refine (long_to s _ HS.out _).mono ?_
  rintro r _ ⟨rfl, rfl⟩
  go_wp2_with fail
  skip
  refine (checkPointsT_to v l _ HP.out _ (hv.bel b3)).mono ?_
  rintro r _ ⟨rfl, rfl⟩
  go_wp2_with fail
  skip
  have hv0 := hv.bel b3
  obtain ⟨a, c, rfl, hc1, hc2, hn, hx⟩ := hv0
  unfold maxLen at hc2
  clear hx hn hv
  go_loopw [24, 25, 27] (fun vk vh i wr => i = .int .i64 0 ∧ vk = .int .i64 0 ∧ vh = .int .i64 0 ∧ Bel w3 wr) (fun _ _ _ _ => 0)
  case atStart => exact ⟨rfl, rfl, rfl, Bel.refl _⟩
  case round =>
    obtain ⟨rfl, rfl, rfl, hb⟩ := hrel
    by_cases hlt : 0 < l.length
    all_goals
      go_wp2_with fail
      refine (textBegun_any _ (hL.bel (b3.trans hb)) (htab.bel (b3.trans hb))).mono ?_
      rintro r w9 ⟨rfl, b9⟩
      go_wp2_with fail
      refine (intsAre_yes _ _ [] [] 2 _ (i1.bel (hb.trans b9)) (IntSl.nil_ _) rfl).mono ?_
      rintro r w10 ⟨rfl, b10⟩
      go_wp2_with fail
      go_ret
      exact ⟨by first | rfl | simp , b3.trans (hb.trans (b9.trans b10))⟩
theorem tells_k0 (nm s : ByteArray) (e : Int) (v : Value) (l : List Int) (w : World) (hv : IntSl w v l) (htab : Tab w) (hL : Len w) (hl3 : l.length ≤ 3000) (HC : Hid (M.countE l = ((M.badN l : Int), (M.farN l : Int), 0))) (HP : Hid (M.points l = 0)) (xs : List Int) (n y : Int) (hnm : nm.size ≤ 3000) (hs : s.size ≤ 3000) (HN : Hid (M.long nm.data.toList = 0)) (HS : Hid (M.long s.data.toList = 0)) (HD : Hid (M.decT nm.data.toList s.data.toList = (xs, n, y, 0))) (HW : Hid (M.wholeM nm.data.toList s.data.toList = (xs, n, y))) (HE : Hid (M.encE e 1 xs = ([], 6))) (HR : Hid (M.recT nm.data.toList s.data.toList e = ([], 6))) : Calls Tryz.prog 5 #[.string nm, .string s, .int .i64 e, v] w fun r w' => r = .returned (.bool true) ∧ Bel w w' := by
  go_enter Tryz.func5, Tryz.ntmps5
  go_wp2_with fail
  refine (decodeT_sl nm s _ _ _ _ HD.out _ hL).mono ?_
  rintro r w1 ⟨A1, c1, rfl, o1, b1⟩
  go_wp2_with fail
  refine (recode_to nm s e _ _ HR.out _ (hL.bel b1) (htab.bel b1)).mono ?_
  rintro r w2 ⟨rfl, b2⟩
  have i1 := o1.ints.bel b2
  have b2 := b1.trans b2
  go_wp2_with fail
  refine (count_to v l _ _ _ HC.out _ (hv.bel b2)).mono ?_
  rintro r w3 ⟨rfl, b3⟩
  have i1 := i1.bel b3
  have b3 := b2.trans b3
  clear o1 b1 b2
  go_wp2_with fail
  refine (long_to nm _ HN.out _).mono ?_
  rintro r _ ⟨rfl, rfl⟩
  go_wp2_with fail
  skip
  refine (long_to s _ HS.out _).mono ?_
  rintro r _ ⟨rfl, rfl⟩
  go_wp2_with fail
  skip
  refine (checkPointsT_to v l _ HP.out _ (hv.bel b3)).mono ?_
  rintro r _ ⟨rfl, rfl⟩
  go_wp2_with fail
  skip
  refine (wholeOf_to nm s xs n y HW.out (by omega) hs _).mono ?_
  rintro r w4 ⟨v4, rfl, o4, b4⟩
  have i1 := i1.bel b4
  have b4 := b3.trans b4
  go_wp2_with fail
  refine (encodeOf_to e 1 v4 xs _ o4.ints _ _ HE.out).mono ?_
  rintro r w5 ⟨rfl, b5⟩
  have i1 := i1.bel b5
  have i4 := o4.ints.bel b5
  have b5 := b4.trans b5
  clear b3 b4 o4
  go_wp2_with fail
  skip
  have hlb : l.length ≤ 3000 := hl3
  have hv0 := hv.bel b5
  obtain ⟨a, c, rfl, hc1, hc2, hn, hx⟩ := hv0
  unfold maxLen at hc2
  have HX := Lib.hid hx
  have HY := Lib.hid hn
  clear hx hn hv
  go_loopw [24, 25, 27] (fun vk vh i wr => ∃ k : Nat, k ≤ l.length ∧ i = .int .i64 k ∧ vk = .int .i64 (M.badN (l.take k) : Int) ∧ vh = .int .i64 (M.farN (l.take k) : Int) ∧ Bel w5 wr) (fun _ _ i _ => l.length - (intOf i).toNat)
  case atStart => exact ⟨0, by omega, rfl, rfl, rfl, Bel.refl _⟩
  case round =>
    obtain ⟨k, hk, rfl, rfl, rfl, hb⟩ := hrel
    have hbf := M.bad_far (l.take k)
    rw [List.length_take] at hbf
    by_cases hlt : k < l.length
    · obtain ⟨m, hm⟩ : ∃ m, l[k]? = some m := ⟨_, List.getElem?_eq_getElem hlt⟩
      cases a with
      | none => exfalso; have h3 := hlt; rw [HY.out rfl, List.length_nil] at h3; omega
      | some x =>
        have hcw : w5.cell? (x.add k) = some (.int .i64 m) := HX.out x rfl k m hm
        have hcell : wr.cell? (x.add k) = some (.int .i64 m) := (hb.cell (World.block_lt_of_cell? w5 _ hcw)).trans hcw
        have E1 := badN_take l k m hm
        have E2 := farN_take l k m hm
        clear hcw hm
        by_cases h65 : m = 65533
        · subst h65
          rw [if_pos rfl] at E1
          rw [if_pos (by decide)] at E2
          have F1 := Lib.hid (show (M.badN (l.take (k + 1)) : Int) = (M.badN (l.take k) : Int) + 1 by omega)
          have F2 := Lib.hid (show (M.farN (l.take (k + 1)) : Int) = (M.farN (l.take k) : Int) + 1 by omega)
          clear E1 E2
          generalize M.badN (l.take k) = bn at *
          generalize M.farN (l.take k) = fn at *
          go_wp2_with fail
          go_roundw
          case rel => exact ⟨k + 1, by omega, by go_num, by rw [F1.out], by rw [F2.out], hb⟩
          case measure => simp [intOf]; omega
        · have g65 : (m == 65533) = false := by simpa using h65
          rw [if_neg h65] at E1
          by_cases h127 : 127 < m
          · rw [if_pos h127] at E2
            have F1 := Lib.hid (show (M.badN (l.take (k + 1)) : Int) = (M.badN (l.take k) : Int) by omega)
            have F2 := Lib.hid (show (M.farN (l.take (k + 1)) : Int) = (M.farN (l.take k) : Int) + 1 by omega)
            clear E1 E2 h65
            generalize M.badN (l.take k) = bn at *
            generalize M.farN (l.take k) = fn at *
            go_wp2_with fail
            go_roundw
            case rel => exact ⟨k + 1, by omega, by go_num, by rw [F1.out], by rw [F2.out], hb⟩
            case measure => simp [intOf]; omega
          · rw [if_neg h127] at E2
            have F1 := Lib.hid (show (M.badN (l.take (k + 1)) : Int) = (M.badN (l.take k) : Int) by omega)
            have F2 := Lib.hid (show (M.farN (l.take (k + 1)) : Int) = (M.farN (l.take k) : Int) by omega)
            clear E1 E2 h65
            generalize M.badN (l.take k) = bn at *
            generalize M.farN (l.take k) = fn at *
            go_wp2_with fail
            go_roundw
            case rel => exact ⟨k + 1, by omega, by go_num, by rw [F1.out], by rw [F2.out], hb⟩
            case measure => simp [intOf]; omega
    · obtain rfl : k = l.length := by omega
      rw [List.take_length]
      go_wp2_with fail
      refine (textBegun_any _ (hL.bel (b5.trans hb)) (htab.bel (b5.trans hb))).mono ?_
      rintro r w9 ⟨rfl, b9⟩
      go_wp2_with fail
      refine (intsAre_yes _ _ xs xs 0 _ (i1.bel (hb.trans b9)) (i4.bel (hb.trans b9)) (by rw [if_pos rfl])).mono ?_
      rintro r w10 ⟨rfl, b10⟩
      go_wp2_with fail
      go_ret
      exact ⟨by first | rfl | simp , b5.trans (hb.trans (b9.trans b10))⟩
theorem tells_kn (nm s : ByteArray) (e : Int) (v : Value) (l : List Int) (w : World) (hv : IntSl w v l) (htab : Tab w) (hL : Len w) (p : Int) (_gp : (p == 0) = false) (HC : Hid (M.countE l = (0, 0, p))) (HP : Hid (M.points l = p)) (xs : List Int) (n y : Int) (hnm : nm.size ≤ 3000) (hs : s.size ≤ 3000) (HN : Hid (M.long nm.data.toList = 0)) (HS : Hid (M.long s.data.toList = 0)) (HD : Hid (M.decT nm.data.toList s.data.toList = (xs, n, y, 0))) (HW : Hid (M.wholeM nm.data.toList s.data.toList = (xs, n, y))) (HE : Hid (M.encE e 1 xs = ([], 6))) (HR : Hid (M.recT nm.data.toList s.data.toList e = ([], 6))) : Calls Tryz.prog 5 #[.string nm, .string s, .int .i64 e, v] w fun r w' => r = .returned (.bool true) ∧ Bel w w' := by
  go_enter Tryz.func5, Tryz.ntmps5
  go_wp2_with fail
  refine (decodeT_sl nm s _ _ _ _ HD.out _ hL).mono ?_
  rintro r w1 ⟨A1, c1, rfl, o1, b1⟩
  go_wp2_with fail
  refine (recode_to nm s e _ _ HR.out _ (hL.bel b1) (htab.bel b1)).mono ?_
  rintro r w2 ⟨rfl, b2⟩
  have i1 := o1.ints.bel b2
  have b2 := b1.trans b2
  go_wp2_with fail
  refine (count_to v l _ _ _ HC.out _ (hv.bel b2)).mono ?_
  rintro r w3 ⟨rfl, b3⟩
  have i1 := i1.bel b3
  have b3 := b2.trans b3
  clear o1 b1 b2
  go_wp2_with fail
  refine (long_to nm _ HN.out _).mono ?_
  rintro r _ ⟨rfl, rfl⟩
  go_wp2_with fail
  skip
  refine (long_to s _ HS.out _).mono ?_
  rintro r _ ⟨rfl, rfl⟩
  go_wp2_with fail
  skip
  refine (checkPointsT_to v l _ HP.out _ (hv.bel b3)).mono ?_
  rintro r _ ⟨rfl, rfl⟩
  go_wp2_with fail
  skip
  refine (wholeOf_to nm s xs n y HW.out (by omega) hs _).mono ?_
  rintro r w4 ⟨v4, rfl, o4, b4⟩
  have i1 := i1.bel b4
  have b4 := b3.trans b4
  go_wp2_with fail
  refine (encodeOf_to e 1 v4 xs _ o4.ints _ _ HE.out).mono ?_
  rintro r w5 ⟨rfl, b5⟩
  have i1 := i1.bel b5
  have i4 := o4.ints.bel b5
  have b5 := b4.trans b5
  clear b3 b4 o4
  go_wp2_with fail
  skip
  have hv0 := hv.bel b5
  obtain ⟨a, c, rfl, hc1, hc2, hn, hx⟩ := hv0
  unfold maxLen at hc2
  clear hx hn hv
  go_loopw [24, 25, 27] (fun vk vh i wr => i = .int .i64 0 ∧ vk = .int .i64 0 ∧ vh = .int .i64 0 ∧ Bel w5 wr) (fun _ _ _ _ => 0)
  case atStart => exact ⟨rfl, rfl, rfl, Bel.refl _⟩
  case round =>
    obtain ⟨rfl, rfl, rfl, hb⟩ := hrel
    by_cases hlt : 0 < l.length
    all_goals
      go_wp2_with fail
      refine (textBegun_any _ (hL.bel (b5.trans hb)) (htab.bel (b5.trans hb))).mono ?_
      rintro r w9 ⟨rfl, b9⟩
      go_wp2_with fail
      refine (intsAre_yes _ _ xs xs 0 _ (i1.bel (hb.trans b9)) (i4.bel (hb.trans b9)) (by rw [if_pos rfl])).mono ?_
      rintro r w10 ⟨rfl, b10⟩
      go_wp2_with fail
      go_ret
      exact ⟨by first | rfl | simp , b5.trans (hb.trans (b9.trans b10))⟩
theorem tells_g0 (nm s : ByteArray) (e : Int) (v : Value) (l : List Int) (w : World) (hv : IntSl w v l) (htab : Tab w) (hL : Len w) (hl3 : l.length ≤ 3000) (HC : Hid (M.countE l = ((M.badN l : Int), (M.farN l : Int), 0))) (HP : Hid (M.points l = 0)) (xs : List Int) (n y : Int) (hnm : nm.size ≤ 3000) (hs : s.size ≤ 3000) (HN : Hid (M.long nm.data.toList = 0)) (HS : Hid (M.long s.data.toList = 0)) (HD : Hid (M.decT nm.data.toList s.data.toList = (xs, n, y, 0))) (HW : Hid (M.wholeM nm.data.toList s.data.toList = (xs, n, y))) (t mk : List UInt8) (o : Int) (HE : Hid (M.encE e 1 xs = (t, 0))) (HO : Hid (M.outE e = o)) (HM : Hid (M.markOf o = mk)) (hz : (⟨mk.toArray⟩ : ByteArray).size ≤ 3) (hz2 : (⟨t.toArray⟩ : ByteArray).size ≤ 200000) (HR : Hid (M.recT nm.data.toList s.data.toList e = (mk ++ t, 0))) : Calls Tryz.prog 5 #[.string nm, .string s, .int .i64 e, v] w fun r w' => r = .returned (.bool true) ∧ Bel w w' := by
  go_enter Tryz.func5, Tryz.ntmps5
  go_wp2_with fail
  refine (decodeT_sl nm s _ _ _ _ HD.out _ hL).mono ?_
  rintro r w1 ⟨A1, c1, rfl, o1, b1⟩
  go_wp2_with fail
  refine (recode_to nm s e _ _ HR.out _ (hL.bel b1) (htab.bel b1)).mono ?_
  rintro r w2 ⟨rfl, b2⟩
  have i1 := o1.ints.bel b2
  have b2 := b1.trans b2
  go_wp2_with fail
  refine (count_to v l _ _ _ HC.out _ (hv.bel b2)).mono ?_
  rintro r w3 ⟨rfl, b3⟩
  have i1 := i1.bel b3
  have b3 := b2.trans b3
  clear o1 b1 b2
  go_wp2_with fail
  refine (long_to nm _ HN.out _).mono ?_
  rintro r _ ⟨rfl, rfl⟩
  go_wp2_with fail
  skip
  refine (long_to s _ HS.out _).mono ?_
  rintro r _ ⟨rfl, rfl⟩
  go_wp2_with fail
  skip
  refine (checkPointsT_to v l _ HP.out _ (hv.bel b3)).mono ?_
  rintro r _ ⟨rfl, rfl⟩
  go_wp2_with fail
  skip
  refine (wholeOf_to nm s xs n y HW.out (by omega) hs _).mono ?_
  rintro r w4 ⟨v4, rfl, o4, b4⟩
  have i1 := i1.bel b4
  have b4 := b3.trans b4
  go_wp2_with fail
  refine (encodeOf_to e 1 v4 xs _ o4.ints _ _ HE.out).mono ?_
  rintro r w5 ⟨rfl, b5⟩
  have i1 := i1.bel b5
  have i4 := o4.ints.bel b5
  have b5 := b4.trans b5
  clear b3 b4 o4
  go_wp2_with fail
  skip
  refine (outputOfT_to e _ HO.out _).mono ?_
  rintro r _ ⟨rfl, rfl⟩
  go_wp2_with fail
  refine (markOfT_to _ _ HM.out _).mono ?_
  rintro r _ ⟨rfl, rfl⟩
  go_wp2_with fail
  rw [show (⟨mk.toArray⟩ : ByteArray) ++ ⟨t.toArray⟩ = ⟨(mk ++ t).toArray⟩ from by rw [str_append]]
  skip
  have hlb : l.length ≤ 3000 := hl3
  have hv0 := hv.bel b5
  obtain ⟨a, c, rfl, hc1, hc2, hn, hx⟩ := hv0
  unfold maxLen at hc2
  have HX := Lib.hid hx
  have HY := Lib.hid hn
  clear hx hn hv
  go_loopw [24, 25, 27] (fun vk vh i wr => ∃ k : Nat, k ≤ l.length ∧ i = .int .i64 k ∧ vk = .int .i64 (M.badN (l.take k) : Int) ∧ vh = .int .i64 (M.farN (l.take k) : Int) ∧ Bel w5 wr) (fun _ _ i _ => l.length - (intOf i).toNat)
  case atStart => exact ⟨0, by omega, rfl, rfl, rfl, Bel.refl _⟩
  case round =>
    obtain ⟨k, hk, rfl, rfl, rfl, hb⟩ := hrel
    have hbf := M.bad_far (l.take k)
    rw [List.length_take] at hbf
    by_cases hlt : k < l.length
    · obtain ⟨m, hm⟩ : ∃ m, l[k]? = some m := ⟨_, List.getElem?_eq_getElem hlt⟩
      cases a with
      | none => exfalso; have h3 := hlt; rw [HY.out rfl, List.length_nil] at h3; omega
      | some x =>
        have hcw : w5.cell? (x.add k) = some (.int .i64 m) := HX.out x rfl k m hm
        have hcell : wr.cell? (x.add k) = some (.int .i64 m) := (hb.cell (World.block_lt_of_cell? w5 _ hcw)).trans hcw
        have E1 := badN_take l k m hm
        have E2 := farN_take l k m hm
        clear hcw hm
        by_cases h65 : m = 65533
        · subst h65
          rw [if_pos rfl] at E1
          rw [if_pos (by decide)] at E2
          have F1 := Lib.hid (show (M.badN (l.take (k + 1)) : Int) = (M.badN (l.take k) : Int) + 1 by omega)
          have F2 := Lib.hid (show (M.farN (l.take (k + 1)) : Int) = (M.farN (l.take k) : Int) + 1 by omega)
          clear E1 E2
          generalize M.badN (l.take k) = bn at *
          generalize M.farN (l.take k) = fn at *
          go_wp2_with fail
          go_roundw
          case rel => exact ⟨k + 1, by omega, by go_num, by rw [F1.out], by rw [F2.out], hb⟩
          case measure => simp [intOf]; omega
        · have g65 : (m == 65533) = false := by simpa using h65
          rw [if_neg h65] at E1
          by_cases h127 : 127 < m
          · rw [if_pos h127] at E2
            have F1 := Lib.hid (show (M.badN (l.take (k + 1)) : Int) = (M.badN (l.take k) : Int) by omega)
            have F2 := Lib.hid (show (M.farN (l.take (k + 1)) : Int) = (M.farN (l.take k) : Int) + 1 by omega)
            clear E1 E2 h65
            generalize M.badN (l.take k) = bn at *
            generalize M.farN (l.take k) = fn at *
            go_wp2_with fail
            go_roundw
            case rel => exact ⟨k + 1, by omega, by go_num, by rw [F1.out], by rw [F2.out], hb⟩
            case measure => simp [intOf]; omega
          · rw [if_neg h127] at E2
            have F1 := Lib.hid (show (M.badN (l.take (k + 1)) : Int) = (M.badN (l.take k) : Int) by omega)
            have F2 := Lib.hid (show (M.farN (l.take (k + 1)) : Int) = (M.farN (l.take k) : Int) by omega)
            clear E1 E2 h65
            generalize M.badN (l.take k) = bn at *
            generalize M.farN (l.take k) = fn at *
            go_wp2_with fail
            go_roundw
            case rel => exact ⟨k + 1, by omega, by go_num, by rw [F1.out], by rw [F2.out], hb⟩
            case measure => simp [intOf]; omega
    · obtain rfl : k = l.length := by omega
      rw [List.take_length]
      go_wp2_with fail
      refine (textBegun_any _ (hL.bel (b5.trans hb)) (htab.bel (b5.trans hb))).mono ?_
      rintro r w9 ⟨rfl, b9⟩
      go_wp2_with fail
      refine (intsAre_yes _ _ xs xs 0 _ (i1.bel (hb.trans b9)) (i4.bel (hb.trans b9)) (by rw [if_pos rfl])).mono ?_
      rintro r w10 ⟨rfl, b10⟩
      go_wp2_with fail
      go_ret
      exact ⟨by first | rfl | simp , b5.trans (hb.trans (b9.trans b10))⟩
theorem tells_gn (nm s : ByteArray) (e : Int) (v : Value) (l : List Int) (w : World) (hv : IntSl w v l) (htab : Tab w) (hL : Len w) (p : Int) (_gp : (p == 0) = false) (HC : Hid (M.countE l = (0, 0, p))) (HP : Hid (M.points l = p)) (xs : List Int) (n y : Int) (hnm : nm.size ≤ 3000) (hs : s.size ≤ 3000) (HN : Hid (M.long nm.data.toList = 0)) (HS : Hid (M.long s.data.toList = 0)) (HD : Hid (M.decT nm.data.toList s.data.toList = (xs, n, y, 0))) (HW : Hid (M.wholeM nm.data.toList s.data.toList = (xs, n, y))) (t mk : List UInt8) (o : Int) (HE : Hid (M.encE e 1 xs = (t, 0))) (HO : Hid (M.outE e = o)) (HM : Hid (M.markOf o = mk)) (hz : (⟨mk.toArray⟩ : ByteArray).size ≤ 3) (hz2 : (⟨t.toArray⟩ : ByteArray).size ≤ 200000) (HR : Hid (M.recT nm.data.toList s.data.toList e = (mk ++ t, 0))) : Calls Tryz.prog 5 #[.string nm, .string s, .int .i64 e, v] w fun r w' => r = .returned (.bool true) ∧ Bel w w' := by
  go_enter Tryz.func5, Tryz.ntmps5
  go_wp2_with fail
  refine (decodeT_sl nm s _ _ _ _ HD.out _ hL).mono ?_
  rintro r w1 ⟨A1, c1, rfl, o1, b1⟩
  go_wp2_with fail
  refine (recode_to nm s e _ _ HR.out _ (hL.bel b1) (htab.bel b1)).mono ?_
  rintro r w2 ⟨rfl, b2⟩
  have i1 := o1.ints.bel b2
  have b2 := b1.trans b2
  go_wp2_with fail
  refine (count_to v l _ _ _ HC.out _ (hv.bel b2)).mono ?_
  rintro r w3 ⟨rfl, b3⟩
  have i1 := i1.bel b3
  have b3 := b2.trans b3
  clear o1 b1 b2
  go_wp2_with fail
  refine (long_to nm _ HN.out _).mono ?_
  rintro r _ ⟨rfl, rfl⟩
  go_wp2_with fail
  skip
  refine (long_to s _ HS.out _).mono ?_
  rintro r _ ⟨rfl, rfl⟩
  go_wp2_with fail
  skip
  refine (checkPointsT_to v l _ HP.out _ (hv.bel b3)).mono ?_
  rintro r _ ⟨rfl, rfl⟩
  go_wp2_with fail
  skip
  refine (wholeOf_to nm s xs n y HW.out (by omega) hs _).mono ?_
  rintro r w4 ⟨v4, rfl, o4, b4⟩
  have i1 := i1.bel b4
  have b4 := b3.trans b4
  go_wp2_with fail
  refine (encodeOf_to e 1 v4 xs _ o4.ints _ _ HE.out).mono ?_
  rintro r w5 ⟨rfl, b5⟩
  have i1 := i1.bel b5
  have i4 := o4.ints.bel b5
  have b5 := b4.trans b5
  clear b3 b4 o4
  go_wp2_with fail
  skip
  refine (outputOfT_to e _ HO.out _).mono ?_
  rintro r _ ⟨rfl, rfl⟩
  go_wp2_with fail
  refine (markOfT_to _ _ HM.out _).mono ?_
  rintro r _ ⟨rfl, rfl⟩
  go_wp2_with fail
  rw [show (⟨mk.toArray⟩ : ByteArray) ++ ⟨t.toArray⟩ = ⟨(mk ++ t).toArray⟩ from by rw [str_append]]
  skip
  have hv0 := hv.bel b5
  obtain ⟨a, c, rfl, hc1, hc2, hn, hx⟩ := hv0
  unfold maxLen at hc2
  clear hx hn hv
  go_loopw [24, 25, 27] (fun vk vh i wr => i = .int .i64 0 ∧ vk = .int .i64 0 ∧ vh = .int .i64 0 ∧ Bel w5 wr) (fun _ _ _ _ => 0)
  case atStart => exact ⟨rfl, rfl, rfl, Bel.refl _⟩
  case round =>
    obtain ⟨rfl, rfl, rfl, hb⟩ := hrel
    by_cases hlt : 0 < l.length
    all_goals
      go_wp2_with fail
      refine (textBegun_any _ (hL.bel (b5.trans hb)) (htab.bel (b5.trans hb))).mono ?_
      rintro r w9 ⟨rfl, b9⟩
      go_wp2_with fail
      refine (intsAre_yes _ _ xs xs 0 _ (i1.bel (hb.trans b9)) (i4.bel (hb.trans b9)) (by rw [if_pos rfl])).mono ?_
      rintro r w10 ⟨rfl, b10⟩
      go_wp2_with fail
      go_ret
      exact ⟨by first | rfl | simp , b5.trans (hb.trans (b9.trans b10))⟩
theorem textTellsTrue (nm s : ByteArray) (e : Int) (v : Value) (l : List Int) (w : World) (_ : nm.size ≤ reachBytes) (_ : s.size ≤ reachBytes) (_ : -9223372036854775808 ≤ e ∧ e ≤ 9223372036854775807) (hv : IntSl w v l) (_ : l.length * 8 ≤ reachBytes) (_ : ∀ n ∈ l, -9223372036854775808 ≤ n ∧ n ≤ 9223372036854775807) (htab : Tab w) (hL : Len w) : Calls Tryz.prog 5 #[.string nm, .string s, .int .i64 e, v] w fun r w' => r = .returned (.bool true) ∧ Bel w w' := by
  have hc : (l.length ≤ 3000 ∧ M.points l = 0 ∧ M.countE l = ((M.badN l : Int), (M.farN l : Int), 0)) ∨ ∃ p, (p == 0) = false ∧ M.points l = p ∧ M.countE l = (0, 0, p) := by
    by_cases h : M.points l = 0
    · exact .inl ⟨(points_scalar l h).1, h, by rw [M.countE, if_neg (by simpa using h)]⟩
    · exact .inr ⟨_, by simpa using h, rfl, by rw [M.countE, if_pos h]⟩
  rcases long_cases nm with ⟨h1, hn⟩ | ⟨h1, hn⟩
  · have hd : M.decT nm.data.toList s.data.toList = ([], 0, 0, 2) := by rw [M.decT, ← Lib.size_eq, ← Lib.size_eq, if_pos (.inl h1)]
    have hr : M.recT nm.data.toList s.data.toList e = ([], 2) := by rw [M.recT, ← Lib.size_eq, ← Lib.size_eq, if_pos (.inl h1)]
    rcases hc with ⟨q1, q2, q3⟩ | ⟨p, q1, q2, q3⟩
    · exact tells_a0 nm s e v l w hv htab hL q1 (Lib.hid q3) (Lib.hid q2) (Lib.hid hn) (Lib.hid hd) (Lib.hid hr)
    · exact tells_an nm s e v l w hv htab hL p q1 (Lib.hid q3) (Lib.hid q2) (Lib.hid hn) (Lib.hid hd) (Lib.hid hr)
  · rcases long_cases s with ⟨h2, hs⟩ | ⟨h2, hs⟩
    · have hd : M.decT nm.data.toList s.data.toList = ([], 0, 0, 2) := by rw [M.decT, ← Lib.size_eq, ← Lib.size_eq, if_pos (.inr h2)]
      have hr : M.recT nm.data.toList s.data.toList e = ([], 2) := by rw [M.recT, ← Lib.size_eq, ← Lib.size_eq, if_pos (.inr h2)]
      rcases hc with ⟨q1, q2, q3⟩ | ⟨p, q1, q2, q3⟩
      · exact tells_b0 nm s e v l w hv htab hL q1 (Lib.hid q3) (Lib.hid q2) (Lib.hid hn) (Lib.hid hs) (Lib.hid hd) (Lib.hid hr)
      · exact tells_bn nm s e v l w hv htab hL p q1 (Lib.hid q3) (Lib.hid q2) (Lib.hid hn) (Lib.hid hs) (Lib.hid hd) (Lib.hid hr)
    · obtain ⟨xs, n, y, hw⟩ : ∃ xs n y, M.wholeM nm.data.toList s.data.toList = (xs, n, y) := ⟨_, _, _, rfl⟩
      have hnl : ¬ (3000 < nm.size ∨ 3000 < s.size) := by omega
      have hd : M.decT nm.data.toList s.data.toList = (xs, n, y, 0) := by rw [M.decT, ← Lib.size_eq, ← Lib.size_eq, if_neg hnl, hw]
      have hr : M.recT nm.data.toList s.data.toList e = if (M.encE e 1 xs).2 ≠ 0 then ([], (M.encE e 1 xs).2) else (M.markOf (M.outE e) ++ (M.encE e 1 xs).1, 0) := by rw [M.recT, ← Lib.size_eq, ← Lib.size_eq, if_neg hnl, hw]
      cases hi : M.isEnc e with
      | false =>
        have he : M.encE e 1 xs = ([], 6) := by rw [M.encE, hi, if_pos rfl]
        rw [he, if_pos (by decide)] at hr
        rcases hc with ⟨q1, q2, q3⟩ | ⟨p, q1, q2, q3⟩
        · exact tells_k0 nm s e v l w hv htab hL q1 (Lib.hid q3) (Lib.hid q2) xs n y h1 h2 (Lib.hid hn) (Lib.hid hs) (Lib.hid hd) (Lib.hid hw) (Lib.hid he) (Lib.hid hr)
        · exact tells_kn nm s e v l w hv htab hL p q1 (Lib.hid q3) (Lib.hid q2) xs n y h1 h2 (Lib.hid hn) (Lib.hid hs) (Lib.hid hd) (Lib.hid hw) (Lib.hid he) (Lib.hid hr)
      | true =>
        have hp := M.whole_points nm.data.toList s.data.toList (by rw [← Lib.size_eq]; exact h2)
        rw [hw] at hp
        simp only at hp
        have hb0 : ∀ m ∈ xs, 0 ≤ m := fun m hm => ((points_scalar xs hp).2 m hm).1
        have he : M.encE e 1 xs = M.writeE (M.outE e) (M.toldE (M.outE e) xs) := by
          rw [M.encE, hi, if_neg (by decide), if_neg (by decide), if_neg (by simp [hp]), if_pos rfl]
        have hok := M.writeE_ok (M.outE e) _ (M.toldE_has (M.outE e) xs hb0)
        obtain ⟨t, ht⟩ : ∃ t, M.writeE (M.outE e) (M.toldE (M.outE e) xs) = (t, 0) := ⟨_, Prod.ext rfl hok⟩
        have he2 := he.trans ht
        rw [he2, if_neg (by simp)] at hr
        have hz := markOf_len (M.outE e)
        have hz2 := encT_len e 1 xs
        rw [he2] at hz2
        rcases hc with ⟨q1, q2, q3⟩ | ⟨p, q1, q2, q3⟩
        · exact tells_g0 nm s e v l w hv htab hL q1 (Lib.hid q3) (Lib.hid q2) xs n y h1 h2 (Lib.hid hn) (Lib.hid hs) (Lib.hid hd) (Lib.hid hw) t _ _ (Lib.hid he2) (Lib.hid rfl) (Lib.hid rfl) (by rw [size_str]; exact hz) (by rw [size_str]; exact hz2) (Lib.hid hr)
        · exact tells_gn nm s e v l w hv htab hL p q1 (Lib.hid q3) (Lib.hid q2) xs n y h1 h2 (Lib.hid hn) (Lib.hid hs) (Lib.hid hd) (Lib.hid hw) t _ _ (Lib.hid he2) (Lib.hid rfl) (Lib.hid rfl) (by rw [size_str]; exact hz) (by rw [size_str]; exact hz2) (Lib.hid hr)
end Go.Proofs.YteingkjdemlhgaaGreatDoor

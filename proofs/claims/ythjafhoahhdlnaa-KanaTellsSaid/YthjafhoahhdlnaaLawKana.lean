/-
  The laws of signs that are shifted: KanaBack.
-/
import Derived.Test.YthjafhoahhdlnaaLawKit
import Derived.Test.YthjafhoahhdlnaaKana4
namespace Go.Proofs.Ythjafhoahhdlnaa
open Go.RowKit
set_option maxRecDepth 1000000

theorem decK_sl (s : ByteArray) (xs : List Int) (n : Int) (h : M.decK s.data.toList = (xs, n)) (w : World) : Calls Try.prog 12 #[.string s] w fun e w' => ∃ A c, e = .returned (.tuple #[.slice A xs.length c, .int .i64 n]) ∧ Own w.heap.size 3 w' (.slice A xs.length c) (xs.map (Value.int .i64)) ∧ Bel w w' := by
  have := decK_any s w
  rw [h] at this
  refine this.mono ?_
  rintro e w' ⟨v, rfl, ho, hb⟩
  obtain ⟨A, c, hv, _⟩ := ho.form
  rw [List.length_map] at hv
  subst hv
  exact ⟨A, c, rfl, ho, hb⟩
theorem encodeK_to (v : Value) (xs : List Int) (l : List UInt8) (k : Int) (h : M.encodeK xs = (l, k)) (w : World) (hv : IntSl w v xs) : Calls Try.prog 11 #[v] w fun e w' => e = .returned (.tuple #[.string ⟨l.toArray⟩, .int .i64 k]) ∧ Bel w w' := by
  have := encodeK_any v xs w hv; rw [h] at this; exact this
theorem encodeK_str (v : Value) (xs : List Int) (s : ByteArray) (k : Int) (h : M.encodeK xs = (s.data.toList, k)) (w : World) (hv : IntSl w v xs) : Calls Try.prog 11 #[v] w fun e w' => e = .returned (.tuple #[.string s, .int .i64 k]) ∧ Bel w w' := by
  have := encodeK_to v xs _ k h w hv; rw [str_eq] at this; exact this
theorem decK_ok (l : List UInt8) (h : l.length ≤ 3000) : M.decK l = (M.allK l, 0) := by rw [M.decK, if_neg (by omega)]
theorem kanaBegun_any (w : World) : Calls Try.prog 10 #[] w fun e w' => e = .returned (.bool true) ∧ Bel w w' := by
  have f1 := Lib.hid (show M.decK [97, 27, 40, 73, 33, 27, 40, 74, 92, 27, 40, 66, 27, 40, 66, 98, 27, 99] = ([97, 65377, 165, 65533, 98, 65533, 99], 0) by decide +kernel)
  have f2 := Lib.hid (show M.encodeK [97, 65377, 165, 98] = ([97, 27, 40, 73, 33, 27, 40, 74, 92, 98, 27, 40, 66], 0) by decide +kernel)
  have f3 := Lib.hid (show M.encodeK [8364] = ([], 5) by decide +kernel)
  go_enter Try.func10, Try.ntmps10
  go_wp2_with fail
  refine (decK_sl _ _ _ f1.out _).mono ?_
  rintro e w1 ⟨A1, c1, rfl, o1, b1⟩
  go_wp2_with fail
  refine (encodeK_to _ _ _ _ f2.out _ (IntSl.lit _ _ [97, 65377, 165, 98] (by decide))).mono ?_
  rintro e w2 ⟨rfl, b2⟩
  go_wp2_with fail
  refine (encodeK_to _ _ _ _ f3.out _ (IntSl.lit _ _ [8364] (by decide))).mono ?_
  rintro e w3 ⟨rfl, b3⟩
  go_wp2_with fail
  refine (sameInts_yes _ _ _ _ _ (o1.ints.bel (by repeat (first | exact Bel.refl _ | refine Bel.drewN ?_ _ | refine Bel.drew ?_ | refine Bel.alloc ?_ _ | refine Bel.trans ?_ (by assumption) | refine Bel.setCell ?_ (by simp; omega) _))) (IntSl.lit _ _ [97, 65377, 165, 65533, 98, 65533, 99] (by decide)) rfl).mono ?_
  rintro e w4 ⟨rfl, b4⟩
  go_wp2_with fail
  go_ret
  exact ⟨rfl, (by repeat (first | exact Bel.refl _ | refine Bel.drewN ?_ _ | refine Bel.drew ?_ | refine Bel.alloc ?_ _ | refine Bel.trans ?_ (by assumption) | refine Bel.setCell ?_ (by simp; omega) _))⟩
theorem encodeK_cases (xs : List Int) : (∃ l, M.encodeK xs = ([], l) ∧ (l == 0) = false) ∨ ∃ b, M.encodeK xs = (b, 0) ∧ M.encK 0 xs = some b ∧ xs.length ≤ 3000 := by
  unfold M.encodeK
  split
  · exact .inl ⟨2, rfl, rfl⟩
  · rename_i hl
    unfold M.rawK
    cases h : M.encK 0 xs with
    | none => exact .inl ⟨5, rfl, rfl⟩
    | some b => exact .inr ⟨b, rfl, rfl, by omega⟩
def sml (s : ByteArray) : Bool := decide (s.size ≤ 3000)
theorem back_facts (s : ByteArray) (h : (sml s && s.data.toList.all M.plainK) = true) : s.size ≤ 3000 ∧ ∃ ys : List Int, ys = s.data.toList.map (fun c => (c.toNat : Int)) ∧ ys.length = s.size ∧ M.decK s.data.toList = (ys, 0) ∧ M.encodeK ys = (s.data.toList, 0) := by
  rw [Bool.and_eq_true, sml, decide_eq_true_eq] at h
  obtain ⟨h1, h2⟩ := h
  refine ⟨h1, _, rfl, by rw [List.length_map, ← Lib.size_eq], ?_, ?_⟩
  · rw [decK_ok _ (by rw [← Lib.size_eq]; exact h1), M.allK, M.toldK_plain true _ false h2]
  · rw [M.encodeK, if_neg (by rw [List.length_map, ← Lib.size_eq]; omega), M.rawK, M.encK_plain _ h2]
set_option maxHeartbeats 4000000 in
theorem kanaBackTrue (v : Value) (xs : List Int) (s : ByteArray) (w : World) (hv : IntSl w v xs) (_ : xs.length * 8 ≤ reachBytes) (_ : ∀ n ∈ xs, -9223372036854775808 ≤ n ∧ n ≤ 9223372036854775807) (hs : s.size ≤ reachBytes) : Calls Try.prog 3 #[v, .string s] w fun e w' => e = .returned (.bool true) ∧ Bel w w' := by
  simp only [reachBytes] at hs
  have hv0 := hv
  obtain ⟨va, vc, rfl, hvl, hvm, _, _⟩ := hv0
  unfold maxLen at hvm
  rcases encodeK_cases xs with ⟨l, hp, hl⟩ | ⟨b, hp, hen, hx3⟩
  · have H1 := Lib.hid hp
    clear hp
    go_enter Try.func3, Try.ntmps3
    go_wp2_with fail
    refine (kanaBegun_any _).mono ?_
    rintro e w1 ⟨rfl, b1⟩
    go_wp2_with fail
    refine (encodeK_to _ _ _ _ H1.out _ (hv.bel (by repeat (first | exact Bel.refl _ | refine Bel.drewN ?_ _ | refine Bel.drew ?_ | refine Bel.alloc ?_ _ | refine Bel.trans ?_ (by assumption) | refine Bel.setCell ?_ (by simp; omega) _)))).mono ?_
    rintro e wX ⟨rfl, b2⟩
    have bw : Bel w wX := (by repeat (first | exact Bel.refl _ | refine Bel.drewN ?_ _ | refine Bel.drew ?_ | refine Bel.alloc ?_ _ | refine Bel.trans ?_ (by assumption) | refine Bel.setCell ?_ (by simp; omega) _))
    go_wp2_with fail
    go_loop [11, 12] (fun p i => ∃ (k : Nat) (bb : Bool), k ≤ s.size ∧ i = .int .i64 k ∧ p = .bool bb ∧ Hid ((sml s && (s.data.toList.take k).all M.plainK) = bb)) (fun _ i => s.size - (intOf i).toNat)
    case atStart => exact ⟨0, _, by omega, rfl, rfl, Lib.hid (by simp [sml]; try omega)⟩
    case round =>
      obtain ⟨k, bb, hk, rfl, rfl, hno⟩ := hrel
      by_cases hlt : k < s.size
      · obtain ⟨c, hc⟩ : ∃ c, s.data.toList[k]? = some c := ⟨_, List.getElem?_eq_getElem (by rw [← Lib.size_eq]; exact hlt)⟩
        obtain ⟨k0, h0⟩ := head_at s k c hc
        have hcl := c.toNat_lt
        have HN := Lib.hid (show (sml s && (s.data.toList.take (k + 1)).all M.plainK) = (bb && M.plainK c) by
          rw [List.take_add_one, hc, List.all_append, ← Bool.and_assoc, hno.out]; simp)
        clear hc
        cases bb with
        | false =>
          go_wp2_with fail
          go_round
          case rel => exact ⟨k + 1, false, by omega, by go_num, rfl, HN⟩
          case measure => simp [intOf]; omega
        | true =>
          rw [Bool.true_and] at HN
          by_cases g1 : c.toNat < 128
          · by_cases g2 : c.toNat = 14
            · have HN2 := Lib.hid (show (sml s && (s.data.toList.take (k + 1)).all M.plainK) = false by rw [HN.out, M.plainK, decide_eq_false_iff_not]; omega)
              have e2 : ((c.toNat : Int) != 14) = false := by rw [bne_eq_false_iff_eq]; omega
              clear g2 HN
              go_wp2_with fail
              go_round
              case rel => exact ⟨k + 1, false, by omega, by go_num, rfl, HN2⟩
              case measure => simp [intOf]; omega
            · have e2 : ((c.toNat : Int) != 14) = true := by rw [bne_iff_ne]; omega
              by_cases g3 : c.toNat = 15
              · have HN2 := Lib.hid (show (sml s && (s.data.toList.take (k + 1)).all M.plainK) = false by rw [HN.out, M.plainK, decide_eq_false_iff_not]; omega)
                have e3 : ((c.toNat : Int) != 15) = false := by rw [bne_eq_false_iff_eq]; omega
                clear g2 g3 HN
                go_wp2_with fail
                go_round
                case rel => exact ⟨k + 1, false, by omega, by go_num, rfl, HN2⟩
                case measure => simp [intOf]; omega
              · have e3 : ((c.toNat : Int) != 15) = true := by rw [bne_iff_ne]; omega
                by_cases g4 : c.toNat = 27
                · have HN2 := Lib.hid (show (sml s && (s.data.toList.take (k + 1)).all M.plainK) = false by rw [HN.out, M.plainK, decide_eq_false_iff_not]; omega)
                  have e4 : ((c.toNat : Int) != 27) = false := by rw [bne_eq_false_iff_eq]; omega
                  clear g2 g3 g4 HN
                  go_wp2_with fail
                  go_round
                  case rel => exact ⟨k + 1, false, by omega, by go_num, rfl, HN2⟩
                  case measure => simp [intOf]; omega
                · have e4 : ((c.toNat : Int) != 27) = true := by rw [bne_iff_ne]; omega
                  have HN2 := Lib.hid (show (sml s && (s.data.toList.take (k + 1)).all M.plainK) = true by rw [HN.out, M.plainK, decide_eq_true_eq]; omega)
                  clear g2 g3 g4 HN
                  go_wp2_with fail
                  go_round
                  case rel => exact ⟨k + 1, true, by omega, by go_num, rfl, HN2⟩
                  case measure => simp [intOf]; omega
          · have HN2 := Lib.hid (show (sml s && (s.data.toList.take (k + 1)).all M.plainK) = false by rw [HN.out, M.plainK, decide_eq_false_iff_not]; omega)
            clear HN
            go_wp2_with fail
            go_round
            case rel => exact ⟨k + 1, false, by omega, by go_num, rfl, HN2⟩
            case measure => simp [intOf]; omega
      · obtain rfl : k = s.size := by omega
        have hb2 := hno.out
        rw [List.take_of_length_le (by rw [← Lib.size_eq]; exact Nat.le_refl _)] at hb2
        cases bb with
        | false =>
          clear hb2
          go_wp2_with fail
          go_ret
          exact ⟨rfl, bw⟩
        | true =>
          obtain ⟨hs3, ys, hy, hyl, hd, he⟩ := back_facts s hb2
          have Hd := Lib.hid hd
          have He := Lib.hid he
          have HY := Lib.hid hy
          have hyle : ys.length ≤ s.size := by omega
          have hyle2 : s.size ≤ ys.length := by omega
          have e1 : ((ys.length : Int) != (s.size : Int)) = false := by rw [bne_eq_false_iff_eq]; omega
          clear hb2 hy hyl hd he
          go_wp2_with fail
          refine (decK_sl s _ _ Hd.out _).mono ?_
          rintro e wa ⟨A1, c1, rfl, o1, ba⟩
          go_wp2_with fail
          refine (encodeK_str _ _ s _ He.out _ o1.ints).mono ?_
          rintro e wb ⟨rfl, bb2⟩
          go_wp2_with fail
          have hi := o1.ints.bel bb2
          obtain ⟨A2, c2, hA, hc1, hc2, hn, hx⟩ := hi
          injection hA with hA1 hA2 hA3
          subst hA1
          subst hA3
          go_loopw [16] (fun i wr => ∃ k : Nat, k ≤ s.size ∧ i = .int .i64 k ∧ ∃ q, wr = wb.drewN q) (fun i _ => s.size - (intOf i).toNat)
          case atStart => exact ⟨0, by omega, rfl, 0, rfl⟩
          case round =>
            obtain ⟨k, hk, rfl, q, rfl⟩ := hrel
            by_cases hlt : k < s.size
            · obtain ⟨c, hc⟩ : ∃ c, s.data.toList[k]? = some c := ⟨_, List.getElem?_eq_getElem (by rw [← Lib.size_eq]; exact hlt)⟩
              obtain ⟨k0, h0⟩ := head_at s k c hc
              have hcl := c.toNat_lt
              have hyk : ys[k]? = some (c.toNat : Int) := by rw [HY.out, List.getElem?_map, hc]; rfl
              have i1 : (k : Int) < (ys.length : Int) := by omega
              cases A1 with
              | none => exfalso; have h3 := hn rfl; subst h3; simp at hyk
              | some x =>
                have hcell := hx x rfl k _ hyk
                clear hc hyk hx hn
                go_wp2_with fail
                go_quiet (fail)
                go_wp2_with fail
                go_roundw
                case rel => exact ⟨k + 1, by omega, by go_num, _, rfl⟩
                case measure => simp [intOf]; omega
            · obtain rfl : k = s.size := by omega
              clear hx hn
              go_wp2_with fail
              go_ret
              exact ⟨rfl, ((bw.trans ba).trans bb2).drewN _⟩
  · have H1 := Lib.hid hp
    by_cases hb3 : b.length < 3000
    · obtain ⟨q1, q2⟩ := M.allK_enc xs b hen
      have D1 := Lib.hid (show M.decK (⟨b.toArray⟩ : ByteArray).data.toList = (xs, 0) by rw [decK_ok _ (by simpa using Nat.le_of_lt hb3)]; show (M.allK b, (0 : Int)) = _; rw [q1])
      have D2 := Lib.hid (show M.decK ((⟨b.toArray⟩ : ByteArray) ++ ⟨#[92]⟩).data.toList = (xs ++ [92], 0) by
        rw [data_append]
        show M.decK (b ++ [92]) = _
        rw [decK_ok _ (by rw [List.length_append, List.length_singleton]; omega), q2])
      clear hp hen q1 q2
      go_enter Try.func3, Try.ntmps3
      go_wp2_with fail
      refine (kanaBegun_any _).mono ?_
      rintro e w1 ⟨rfl, b1⟩
      go_wp2_with fail
      refine (encodeK_to _ _ _ _ H1.out _ (hv.bel (by repeat (first | exact Bel.refl _ | refine Bel.drewN ?_ _ | refine Bel.drew ?_ | refine Bel.alloc ?_ _ | refine Bel.trans ?_ (by assumption) | refine Bel.setCell ?_ (by simp; omega) _)))).mono ?_
      rintro e w2 ⟨rfl, b2⟩
      go_wp2_with fail
      refine (decK_sl _ _ _ D1.out _).mono ?_
      rintro e w3 ⟨A3, c3, rfl, o3, b3⟩
      go_wp2_with fail
      refine (decK_sl _ _ _ D2.out _).mono ?_
      rintro e w4 ⟨A4, c4, rfl, o4, b4⟩
      go_wp2_with fail
      refine (sameInts_yes _ _ _ _ _ (o3.ints.bel (by repeat (first | exact Bel.refl _ | refine Bel.drewN ?_ _ | refine Bel.drew ?_ | refine Bel.alloc ?_ _ | refine Bel.trans ?_ (by assumption) | refine Bel.setCell ?_ (by simp; omega) _))) (hv.bel (by repeat (first | exact Bel.refl _ | refine Bel.drewN ?_ _ | refine Bel.drew ?_ | refine Bel.alloc ?_ _ | refine Bel.trans ?_ (by assumption) | refine Bel.setCell ?_ (by simp; omega) _))) rfl).mono ?_
      rintro e w5 ⟨rfl, b5⟩
      go_wp2_with (first
        | (at_builtin; refine wpList_appInts (.tmp 56) (.tmp 57) 22 rfl elemInt (by decide) w5.heap.size _ _ (Own.empty _ _ (Nat.le_refl _)) _ xs (hv.bel (by repeat (first | exact Bel.refl _ | refine Bel.drewN ?_ _ | refine Bel.drew ?_ | refine Bel.alloc ?_ _ | refine Bel.trans ?_ (by assumption) | refine Bel.setCell ?_ (by simp; omega) _))) (by simp; omega) (by simp) rfl rfl rfl ?_; intro v6 w6 o6 b6; have hb6 : Bel w5 w6 := ((Bel.refl w5).alloc _).upto b6 (by simp))
        | (at_builtin; refine wpList_apps (.tmp 58) (.tmp 59) 22 rfl elemInt (by decide) w5.heap.size _ _ [.int .i64 92] o6 (by simp [Value.oneCell']) (by simp; omega) hb6.size rfl rfl rfl ?_; intro v7 w7 o7 b7; have hb7 : Bel w5 w7 := hb6.upto b7 (Nat.le_refl _)))
      have i4 : IntSl w7 (.slice A4 (xs ++ [92]).length c4) (xs ++ [92]) := (o4.ints.bel b5).bel hb7
      have i7 : IntSl w7 v7 (xs ++ [92]) := Own.ints (by simpa using o7)
      rw [List.length_append] at i4
      refine (sameInts_yes _ _ _ _ _ i4 i7 rfl).mono ?_
      rintro e wX ⟨rfl, b8⟩
      have hwX : Bel w wX := ((((((Bel.refl w).trans b1).trans b2).trans b3).trans b4).trans b5).trans (hb7.trans b8)
      have bw : Bel w wX := hwX
      go_wp2_with fail
      go_loop [11, 12] (fun p i => ∃ (k : Nat) (bb : Bool), k ≤ s.size ∧ i = .int .i64 k ∧ p = .bool bb ∧ Hid ((sml s && (s.data.toList.take k).all M.plainK) = bb)) (fun _ i => s.size - (intOf i).toNat)
      case atStart => exact ⟨0, _, by omega, rfl, rfl, Lib.hid (by simp [sml]; try omega)⟩
      case round =>
        obtain ⟨k, bb, hk, rfl, rfl, hno⟩ := hrel
        by_cases hlt : k < s.size
        · obtain ⟨c, hc⟩ : ∃ c, s.data.toList[k]? = some c := ⟨_, List.getElem?_eq_getElem (by rw [← Lib.size_eq]; exact hlt)⟩
          obtain ⟨k0, h0⟩ := head_at s k c hc
          have hcl := c.toNat_lt
          have HN := Lib.hid (show (sml s && (s.data.toList.take (k + 1)).all M.plainK) = (bb && M.plainK c) by
            rw [List.take_add_one, hc, List.all_append, ← Bool.and_assoc, hno.out]; simp)
          clear hc
          cases bb with
          | false =>
            go_wp2_with fail
            go_round
            case rel => exact ⟨k + 1, false, by omega, by go_num, rfl, HN⟩
            case measure => simp [intOf]; omega
          | true =>
            rw [Bool.true_and] at HN
            by_cases g1 : c.toNat < 128
            · by_cases g2 : c.toNat = 14
              · have HN2 := Lib.hid (show (sml s && (s.data.toList.take (k + 1)).all M.plainK) = false by rw [HN.out, M.plainK, decide_eq_false_iff_not]; omega)
                have e2 : ((c.toNat : Int) != 14) = false := by rw [bne_eq_false_iff_eq]; omega
                clear g2 HN
                go_wp2_with fail
                go_round
                case rel => exact ⟨k + 1, false, by omega, by go_num, rfl, HN2⟩
                case measure => simp [intOf]; omega
              · have e2 : ((c.toNat : Int) != 14) = true := by rw [bne_iff_ne]; omega
                by_cases g3 : c.toNat = 15
                · have HN2 := Lib.hid (show (sml s && (s.data.toList.take (k + 1)).all M.plainK) = false by rw [HN.out, M.plainK, decide_eq_false_iff_not]; omega)
                  have e3 : ((c.toNat : Int) != 15) = false := by rw [bne_eq_false_iff_eq]; omega
                  clear g2 g3 HN
                  go_wp2_with fail
                  go_round
                  case rel => exact ⟨k + 1, false, by omega, by go_num, rfl, HN2⟩
                  case measure => simp [intOf]; omega
                · have e3 : ((c.toNat : Int) != 15) = true := by rw [bne_iff_ne]; omega
                  by_cases g4 : c.toNat = 27
                  · have HN2 := Lib.hid (show (sml s && (s.data.toList.take (k + 1)).all M.plainK) = false by rw [HN.out, M.plainK, decide_eq_false_iff_not]; omega)
                    have e4 : ((c.toNat : Int) != 27) = false := by rw [bne_eq_false_iff_eq]; omega
                    clear g2 g3 g4 HN
                    go_wp2_with fail
                    go_round
                    case rel => exact ⟨k + 1, false, by omega, by go_num, rfl, HN2⟩
                    case measure => simp [intOf]; omega
                  · have e4 : ((c.toNat : Int) != 27) = true := by rw [bne_iff_ne]; omega
                    have HN2 := Lib.hid (show (sml s && (s.data.toList.take (k + 1)).all M.plainK) = true by rw [HN.out, M.plainK, decide_eq_true_eq]; omega)
                    clear g2 g3 g4 HN
                    go_wp2_with fail
                    go_round
                    case rel => exact ⟨k + 1, true, by omega, by go_num, rfl, HN2⟩
                    case measure => simp [intOf]; omega
            · have HN2 := Lib.hid (show (sml s && (s.data.toList.take (k + 1)).all M.plainK) = false by rw [HN.out, M.plainK, decide_eq_false_iff_not]; omega)
              clear HN
              go_wp2_with fail
              go_round
              case rel => exact ⟨k + 1, false, by omega, by go_num, rfl, HN2⟩
              case measure => simp [intOf]; omega
        · obtain rfl : k = s.size := by omega
          have hb2 := hno.out
          rw [List.take_of_length_le (by rw [← Lib.size_eq]; exact Nat.le_refl _)] at hb2
          cases bb with
          | false =>
            clear hb2
            go_wp2_with fail
            go_ret
            exact ⟨rfl, bw⟩
          | true =>
            obtain ⟨hs3, ys, hy, hyl, hd, he⟩ := back_facts s hb2
            have Hd := Lib.hid hd
            have He := Lib.hid he
            have HY := Lib.hid hy
            have hyle : ys.length ≤ s.size := by omega
            have hyle2 : s.size ≤ ys.length := by omega
            have e1 : ((ys.length : Int) != (s.size : Int)) = false := by rw [bne_eq_false_iff_eq]; omega
            clear hb2 hy hyl hd he
            go_wp2_with fail
            refine (decK_sl s _ _ Hd.out _).mono ?_
            rintro e wa ⟨A1, c1, rfl, o1, ba⟩
            go_wp2_with fail
            refine (encodeK_str _ _ s _ He.out _ o1.ints).mono ?_
            rintro e wb ⟨rfl, bb2⟩
            go_wp2_with fail
            have hi := o1.ints.bel bb2
            obtain ⟨A2, c2, hA, hc1, hc2, hn, hx⟩ := hi
            injection hA with hA1 hA2 hA3
            subst hA1
            subst hA3
            go_loopw [16] (fun i wr => ∃ k : Nat, k ≤ s.size ∧ i = .int .i64 k ∧ ∃ q, wr = wb.drewN q) (fun i _ => s.size - (intOf i).toNat)
            case atStart => exact ⟨0, by omega, rfl, 0, rfl⟩
            case round =>
              obtain ⟨k, hk, rfl, q, rfl⟩ := hrel
              by_cases hlt : k < s.size
              · obtain ⟨c, hc⟩ : ∃ c, s.data.toList[k]? = some c := ⟨_, List.getElem?_eq_getElem (by rw [← Lib.size_eq]; exact hlt)⟩
                obtain ⟨k0, h0⟩ := head_at s k c hc
                have hcl := c.toNat_lt
                have hyk : ys[k]? = some (c.toNat : Int) := by rw [HY.out, List.getElem?_map, hc]; rfl
                have i1 : (k : Int) < (ys.length : Int) := by omega
                cases A1 with
                | none => exfalso; have h3 := hn rfl; subst h3; simp at hyk
                | some x =>
                  have hcell := hx x rfl k _ hyk
                  clear hc hyk hx hn
                  go_wp2_with fail
                  go_quiet (fail)
                  go_wp2_with fail
                  go_roundw
                  case rel => exact ⟨k + 1, by omega, by go_num, _, rfl⟩
                  case measure => simp [intOf]; omega
              · obtain rfl : k = s.size := by omega
                clear hx hn
                go_wp2_with fail
                go_ret
                exact ⟨rfl, ((bw.trans ba).trans bb2).drewN _⟩
    · clear hp hen
      go_enter Try.func3, Try.ntmps3
      go_wp2_with fail
      refine (kanaBegun_any _).mono ?_
      rintro e w1 ⟨rfl, b1⟩
      go_wp2_with fail
      refine (encodeK_to _ _ _ _ H1.out _ (hv.bel (by repeat (first | exact Bel.refl _ | refine Bel.drewN ?_ _ | refine Bel.drew ?_ | refine Bel.alloc ?_ _ | refine Bel.trans ?_ (by assumption) | refine Bel.setCell ?_ (by simp; omega) _)))).mono ?_
      rintro e wX ⟨rfl, b2⟩
      have bw : Bel w wX := (by repeat (first | exact Bel.refl _ | refine Bel.drewN ?_ _ | refine Bel.drew ?_ | refine Bel.alloc ?_ _ | refine Bel.trans ?_ (by assumption) | refine Bel.setCell ?_ (by simp; omega) _))
      go_wp2_with fail
      go_loop [11, 12] (fun p i => ∃ (k : Nat) (bb : Bool), k ≤ s.size ∧ i = .int .i64 k ∧ p = .bool bb ∧ Hid ((sml s && (s.data.toList.take k).all M.plainK) = bb)) (fun _ i => s.size - (intOf i).toNat)
      case atStart => exact ⟨0, _, by omega, rfl, rfl, Lib.hid (by simp [sml]; try omega)⟩
      case round =>
        obtain ⟨k, bb, hk, rfl, rfl, hno⟩ := hrel
        by_cases hlt : k < s.size
        · obtain ⟨c, hc⟩ : ∃ c, s.data.toList[k]? = some c := ⟨_, List.getElem?_eq_getElem (by rw [← Lib.size_eq]; exact hlt)⟩
          obtain ⟨k0, h0⟩ := head_at s k c hc
          have hcl := c.toNat_lt
          have HN := Lib.hid (show (sml s && (s.data.toList.take (k + 1)).all M.plainK) = (bb && M.plainK c) by
            rw [List.take_add_one, hc, List.all_append, ← Bool.and_assoc, hno.out]; simp)
          clear hc
          cases bb with
          | false =>
            go_wp2_with fail
            go_round
            case rel => exact ⟨k + 1, false, by omega, by go_num, rfl, HN⟩
            case measure => simp [intOf]; omega
          | true =>
            rw [Bool.true_and] at HN
            by_cases g1 : c.toNat < 128
            · by_cases g2 : c.toNat = 14
              · have HN2 := Lib.hid (show (sml s && (s.data.toList.take (k + 1)).all M.plainK) = false by rw [HN.out, M.plainK, decide_eq_false_iff_not]; omega)
                have e2 : ((c.toNat : Int) != 14) = false := by rw [bne_eq_false_iff_eq]; omega
                clear g2 HN
                go_wp2_with fail
                go_round
                case rel => exact ⟨k + 1, false, by omega, by go_num, rfl, HN2⟩
                case measure => simp [intOf]; omega
              · have e2 : ((c.toNat : Int) != 14) = true := by rw [bne_iff_ne]; omega
                by_cases g3 : c.toNat = 15
                · have HN2 := Lib.hid (show (sml s && (s.data.toList.take (k + 1)).all M.plainK) = false by rw [HN.out, M.plainK, decide_eq_false_iff_not]; omega)
                  have e3 : ((c.toNat : Int) != 15) = false := by rw [bne_eq_false_iff_eq]; omega
                  clear g2 g3 HN
                  go_wp2_with fail
                  go_round
                  case rel => exact ⟨k + 1, false, by omega, by go_num, rfl, HN2⟩
                  case measure => simp [intOf]; omega
                · have e3 : ((c.toNat : Int) != 15) = true := by rw [bne_iff_ne]; omega
                  by_cases g4 : c.toNat = 27
                  · have HN2 := Lib.hid (show (sml s && (s.data.toList.take (k + 1)).all M.plainK) = false by rw [HN.out, M.plainK, decide_eq_false_iff_not]; omega)
                    have e4 : ((c.toNat : Int) != 27) = false := by rw [bne_eq_false_iff_eq]; omega
                    clear g2 g3 g4 HN
                    go_wp2_with fail
                    go_round
                    case rel => exact ⟨k + 1, false, by omega, by go_num, rfl, HN2⟩
                    case measure => simp [intOf]; omega
                  · have e4 : ((c.toNat : Int) != 27) = true := by rw [bne_iff_ne]; omega
                    have HN2 := Lib.hid (show (sml s && (s.data.toList.take (k + 1)).all M.plainK) = true by rw [HN.out, M.plainK, decide_eq_true_eq]; omega)
                    clear g2 g3 g4 HN
                    go_wp2_with fail
                    go_round
                    case rel => exact ⟨k + 1, true, by omega, by go_num, rfl, HN2⟩
                    case measure => simp [intOf]; omega
            · have HN2 := Lib.hid (show (sml s && (s.data.toList.take (k + 1)).all M.plainK) = false by rw [HN.out, M.plainK, decide_eq_false_iff_not]; omega)
              clear HN
              go_wp2_with fail
              go_round
              case rel => exact ⟨k + 1, false, by omega, by go_num, rfl, HN2⟩
              case measure => simp [intOf]; omega
        · obtain rfl : k = s.size := by omega
          have hb2 := hno.out
          rw [List.take_of_length_le (by rw [← Lib.size_eq]; exact Nat.le_refl _)] at hb2
          cases bb with
          | false =>
            clear hb2
            go_wp2_with fail
            go_ret
            exact ⟨rfl, bw⟩
          | true =>
            obtain ⟨hs3, ys, hy, hyl, hd, he⟩ := back_facts s hb2
            have Hd := Lib.hid hd
            have He := Lib.hid he
            have HY := Lib.hid hy
            have hyle : ys.length ≤ s.size := by omega
            have hyle2 : s.size ≤ ys.length := by omega
            have e1 : ((ys.length : Int) != (s.size : Int)) = false := by rw [bne_eq_false_iff_eq]; omega
            clear hb2 hy hyl hd he
            go_wp2_with fail
            refine (decK_sl s _ _ Hd.out _).mono ?_
            rintro e wa ⟨A1, c1, rfl, o1, ba⟩
            go_wp2_with fail
            refine (encodeK_str _ _ s _ He.out _ o1.ints).mono ?_
            rintro e wb ⟨rfl, bb2⟩
            go_wp2_with fail
            have hi := o1.ints.bel bb2
            obtain ⟨A2, c2, hA, hc1, hc2, hn, hx⟩ := hi
            injection hA with hA1 hA2 hA3
            subst hA1
            subst hA3
            go_loopw [16] (fun i wr => ∃ k : Nat, k ≤ s.size ∧ i = .int .i64 k ∧ ∃ q, wr = wb.drewN q) (fun i _ => s.size - (intOf i).toNat)
            case atStart => exact ⟨0, by omega, rfl, 0, rfl⟩
            case round =>
              obtain ⟨k, hk, rfl, q, rfl⟩ := hrel
              by_cases hlt : k < s.size
              · obtain ⟨c, hc⟩ : ∃ c, s.data.toList[k]? = some c := ⟨_, List.getElem?_eq_getElem (by rw [← Lib.size_eq]; exact hlt)⟩
                obtain ⟨k0, h0⟩ := head_at s k c hc
                have hcl := c.toNat_lt
                have hyk : ys[k]? = some (c.toNat : Int) := by rw [HY.out, List.getElem?_map, hc]; rfl
                have i1 : (k : Int) < (ys.length : Int) := by omega
                cases A1 with
                | none => exfalso; have h3 := hn rfl; subst h3; simp at hyk
                | some x =>
                  have hcell := hx x rfl k _ hyk
                  clear hc hyk hx hn
                  go_wp2_with fail
                  go_quiet (fail)
                  go_wp2_with fail
                  go_roundw
                  case rel => exact ⟨k + 1, by omega, by go_num, _, rfl⟩
                  case measure => simp [intOf]; omega
              · obtain rfl : k = s.size := by omega
                clear hx hn
                go_wp2_with fail
                go_ret
                exact ⟨rfl, ((bw.trans ba).trans bb2).drewN _⟩
end Go.Proofs.Ythjafhoahhdlnaa

/-
  The document's answers on UTF-8: DecodeUtf8.
-/
import Derived.Test.YthjafhoahhdlnaaRUtf8c
import Derived.Test.YthjafhoahhdlnaaPlainUtf8e
namespace Go.Proofs.Ythjafhoahhdlnaa
open Go.RowKit
set_option maxRecDepth 1000000

theorem valueOf_any (s : ByteArray) (c : UInt8) (p : List UInt8) (hs : s.data.toList = c :: p) (m : Nat) (hm : (M.lead8 c.toNat).1 = m) (hp : p.length = m) (w : World) : Calls Try.prog 51 #[.string s] w fun e w' => e = .returned (.int .i64 (M.val8 c p)) ∧ Bel w w' := by
  have hc := c.toNat_lt
  rcases M.lead8_val c.toNat hc (by omega) with ⟨h1, h2⟩ | ⟨h1, h2, _⟩
  · have hm0 : m = 0 := by rw [h2] at hm; simp only at hm; omega
    subst hm0
    have hp0 : p = [] := List.eq_nil_of_length_eq_zero hp
    subst hp0
    rw [M.val8, if_pos h1]
    exact valueOf_1 s c hs w
  · rw [M.val8, if_neg (by omega)]
    have hl := M.lead8_len c.toNat h2
    rcases (show M.len8 c.toNat = 2 ∨ M.len8 c.toNat = 3 ∨ M.len8 c.toNat = 4 by
      unfold M.len8 at h2 ⊢; (repeat' split) <;> simp_all) with h | h | h
    · exact valueOf_2 s c p hs h (by omega) w
    · exact valueOf_3 s c p hs h (by omega) w
    · exact valueOf_4 s c p hs h (by omega) w
theorem isBegun_yes (s : ByteArray) (c : UInt8) (p : List UInt8) (hs : s.data.toList = c :: p) (m : Nat) (hm : (M.lead8 c.toNat).1 = m) (h : M.ok8 c p = true) (w : World) : Calls Try.prog 35 #[.string s] w fun e w' => e = .returned (.tuple #[.int .i64 ((m : Int) + 1), .bool true]) ∧ Bel w w' := by
  refine (isBegun_any s c p hs w).mono ?_
  rintro e w' ⟨a, rfl, h2, hb⟩
  rw [h] at h2 ⊢
  rw [h2 rfl, hm]
  exact ⟨rfl, hb⟩
theorem isBegun_no (s : ByteArray) (c : UInt8) (p : List UInt8) (hs : s.data.toList = c :: p) (h : M.ok8 c p = false) (w : World) : Calls Try.prog 35 #[.string s] w fun e w' => ∃ a : Int, e = .returned (.tuple #[.int .i64 a, .bool false]) ∧ Bel w w' := by
  refine (isBegun_any s c p hs w).mono ?_
  rintro e w' ⟨a, rfl, _, hb⟩
  rw [h]
  exact ⟨a, rfl, hb⟩
theorem take_cons (s : ByteArray) (c : UInt8) (t : List UInt8) (hs : s.data.toList = c :: t) (j : Nat) : (s.extract 0 (j + 1)).data.toList = c :: t.take j := by
  rw [Lib.extract_data, List.drop_zero, Nat.sub_zero, hs, List.take_succ_cons]
theorem decodeUtf8_any (s : ByteArray) (hs : s.size ≤ 68719476735) (w : World) : Calls Try.prog 37 #[.string s] w fun e w' => ∃ v, e = .returned (.tuple #[v, .string ⟨(M.told8 s.data.toList).2.toArray⟩]) ∧ Own w.heap.size 3 w' v ((M.told8 s.data.toList).1.map (Value.int .i64)) ∧ Bel w w' := by
  go_enter Try.func37, Try.ntmps37
  go_wp2_with fail
  go_loopw [0, 4] (fun vs v wr => ∃ (s' : ByteArray) (xs : List Int), vs = .string s' ∧ xs.length + s'.size ≤ s.size ∧ Hid (M.told8 s.data.toList = (xs ++ (M.told8 s'.data.toList).1, (M.told8 s'.data.toList).2)) ∧ Own w.heap.size 3 wr v (xs.map (Value.int .i64)) ∧ Bel w wr) (fun vs _ _ => strLen vs)
  case atStart => exact ⟨s, [], rfl, by simp, Lib.hid (by simp), Own.nil _ _ _, Bel.refl _⟩
  case round =>
    obtain ⟨s', xs, rfl, hle, HT, hown, hb⟩ := hrel
    by_cases he : s'.size = 0
    · have e0 : s'.data.toList = [] := List.eq_nil_of_length_eq_zero (by rw [← Lib.size_eq]; exact he)
      have HF := Lib.hid (show M.told8 s.data.toList = (xs, []) by
        rw [HT.out, e0]; simp [M.told8_nil])
      have he2 : s'.size ≤ 0 := by omega
      clear he e0
      go_wp2_with fail
      go_ret2
      rw [HF.out]
      exact ⟨_, rfl, hown, hb⟩
    · have hpos : 0 < s'.size := by omega
      obtain ⟨c, t, hct⟩ := cons_of_pos s' hpos
      have hlen : s'.size = t.length + 1 := by rw [Lib.size_eq, hct]; rfl
      obtain ⟨wo, hwo⟩ : ∃ wo : World, wo = wr := ⟨_, rfl⟩
      rcases M.round8 c t with ⟨hm, hok, hf⟩ | ⟨m, K, hm, k1, k2, k3, m3, hyes, hend⟩
      · -- it begins none
        have HF := Lib.hid (show M.told8 s.data.toList = ((xs ++ [65533]) ++ (M.told8 (s'.extract 1 s'.size).data.toList).1, (M.told8 (s'.extract 1 s'.size).data.toList).2) by
          rw [HT.out, drop_str, hct, M.told8_ok c t (by rw [hf]), hf]; simp)
        have HC := Lib.hid (show (s'.extract 0 1).data.toList = c :: [] by rw [take_cons s' c t hct 0]; rfl)
        have HS := Lib.hid (drop_size s' 1)
        have HO := Lib.hid hok
        clear he hct hm hok hf hlen hwo
        go_wp2_with fail
        go_loopw [5, 6] (fun vn vd wr' => vn = .int .i64 0 ∧ vd = .bool false ∧ wr' = wr) (fun _ _ _ => 0)
        case atStart => exact ⟨rfl, rfl, rfl⟩
        case round =>
          obtain ⟨rfl, rfl, rfl⟩ := hrel
          go_wp2_with fail
          refine (isBegun_no _ c [] HC.out HO.out _).mono ?_
          rintro e w1 ⟨a, rfl, b1⟩
          have hown1 := hown.bel b1
          have hsz : w.heap.size ≤ w1.heap.size := (hb.trans b1).size
          have hb3 := hb.trans b1
          go_wp2_with (first | (at_builtin; refine wpList_app rfl (.tmp 37) (.tmp 38) 22 rfl elemInt (by decide) w.heap.size _ _ _ rfl rfl hown1 rfl (by simp; omega) (by first | exact Nat.le_refl _ | assumption | (have := hb.size; omega)) ?_; intro v' w1 hown' hb1))
          go_roundw
          case rel => exact ⟨_, xs ++ [65533], rfl, by rw [HS.out, List.length_append, List.length_singleton]; omega, HF, by rw [List.map_append]; exact hown', hb3.upto hb1 (Nat.le_refl _)⟩
          case measure => simp only [strLen, HS.out]; omega
      · have hmi : (m : Int) + 1 = ((m + 1 : Nat) : Int) := by omega
        rcases hend with ⟨rfl, hf⟩ | ⟨hKm, hKt, hno, hf⟩ | ⟨hKm, hKt, hf⟩
        · -- whole
          have HF := Lib.hid (show M.told8 s.data.toList = ((xs ++ [M.val8 c (t.take m)]) ++ (M.told8 (s'.extract (m + 1) s'.size).data.toList).1, (M.told8 (s'.extract (m + 1) s'.size).data.toList).2) by
            rw [HT.out, drop_str, hct, M.told8_ok c t (by rw [hf]), hf]; simp only [Int.toNat_natCast]; simp)
          have HS := Lib.hid (drop_size s' (m + 1))
          have HC := Lib.hid hct
          have HM := Lib.hid hm
          have HY := Lib.hid hyes
          have hlt : m + 1 ≤ s'.size := by omega
          have hml : (t.take m).length = m := by rw [List.length_take]; omega
          have HL := Lib.hid hml
          clear he hct hm hyes hf hlen hwo hmi hml
          go_wp2_with fail
          go_loopw [5, 6] (fun vn vd wr' => ∃ j : Nat, j ≤ m + 1 ∧ vn = .int .i64 j ∧ vd = .bool (decide (j = m + 1)) ∧ Bel wr wr') (fun vn _ _ => m + 1 - (intOf vn).toNat)
          case atStart => exact ⟨0, by omega, rfl, rfl, Bel.refl _⟩
          case round =>
            obtain ⟨j, hj, rfl, rfl, hbj⟩ := hrel
            by_cases hjm : j = m + 1
            · subst hjm
              have e1 : decide (m + 1 = m + 1) = true := by simp
              rw [e1]
              have hcast : ((m + 1 : Nat) : Int) = (m : Int) + 1 := by omega
              rw [hcast]
              have HV := Lib.hid (show (s'.extract 0 (m + 1)).data.toList = c :: t.take m from take_cons s' c t HC.out m)
              have hxl : xs.length < 68719476736 := by omega
              have hb2 := hb.trans hbj
              have hown2 := hown.bel hbj
              clear e1 hcast
              by_cases hq : m + 1 < s'.size
              all_goals
                go_wp2_with fail
                refine (valueOf_any _ c (t.take m) HV.out m HM.out HL.out _).mono ?_
                rintro e w2 ⟨rfl, b2⟩
                have hown3 := hown2.bel b2
                have hb3 := hb2.trans b2
                have hsz : w.heap.size ≤ w2.heap.size := hb3.size
                go_wp2_with (first | (at_builtin; refine wpList_app rfl (.tmp 42) (.tmp 47) 22 rfl elemInt (by decide) w.heap.size _ _ _ rfl rfl hown3 rfl (by simp; omega) (by first | exact Nat.le_refl _ | assumption | (have := hb.size; omega)) ?_; intro v' w1 hown' hb1))
                go_roundw
                case rel => exact ⟨_, xs ++ [M.val8 c (t.take m)], rfl, by rw [HS.out, List.length_append, List.length_singleton]; omega, HF, by rw [List.map_append]; exact hown', hb3.upto hb1 (Nat.le_refl _)⟩
                case measure => simp only [strLen, HS.out]; omega
            · have hjl : j < s'.size := by omega
              have hjlt : j < m + 1 := by omega
              have e1 : decide (j = m + 1) = false := by simpa using hjm
              rw [e1]
              have HV := Lib.hid (show (s'.extract 0 (j + 1)).data.toList = c :: t.take j from take_cons s' c t HC.out j)
              have HO := Lib.hid (HY.out j (by omega))
              have HD := Lib.hid (show decide (j + 1 = m + 1) = ((j : Int) + 1 == (m : Int) + 1) by rw [Bool.eq_iff_iff, decide_eq_true_eq, beq_iff_eq]; omega)
              clear e1 hjm
              go_wp2_with fail
              refine (isBegun_yes _ c (t.take j) HV.out m HM.out HO.out _).mono ?_
              rintro e w2 ⟨rfl, b2⟩
              go_wp2_with fail
              go_roundw
              case rel => exact ⟨j + 1, by omega, by go_num, by rw [HD.out], hbj.trans b2⟩
              case measure => simp [intOf]; omega
        · -- it ends early
          have HF := Lib.hid (show M.told8 s.data.toList = ((xs ++ [65533]) ++ (M.told8 (s'.extract K s'.size).data.toList).1, (M.told8 (s'.extract K s'.size).data.toList).2) by
            rw [HT.out, drop_str, hct, M.told8_ok c t (by rw [hf]), hf]; simp only [Int.toNat_natCast]; simp)
          have HS := Lib.hid (drop_size s' K)
          have HC := Lib.hid hct
          have HM := Lib.hid hm
          have HY := Lib.hid hyes
          have HN := Lib.hid hno
          have hlt : K < s'.size := by omega
          clear he hct hm hyes hf hlen hwo hmi hno
          go_wp2_with fail
          go_loopw [5, 6] (fun vn vd wr' => ∃ j : Nat, j ≤ K ∧ vn = .int .i64 j ∧ vd = .bool false ∧ Bel wr wr') (fun vn _ _ => K - (intOf vn).toNat)
          case atStart => exact ⟨0, by omega, rfl, rfl, Bel.refl _⟩
          case round =>
            obtain ⟨j, hj, rfl, rfl, hbj⟩ := hrel
            have hjl : j < s'.size := by omega
            have HV := Lib.hid (show (s'.extract 0 (j + 1)).data.toList = c :: t.take j from take_cons s' c t HC.out j)
            by_cases hjm : j = K
            · subst hjm
              have e2 : ((j : Int) == (s'.size : Int)) = false := by rw [beq_eq_false_iff_ne]; omega
              have e3 : ((j : Int) == 0) = false := by rw [beq_eq_false_iff_ne]; omega
              have hxl : xs.length < 68719476736 := by omega
              have hb2 := hb.trans hbj
              have hown2 := hown.bel hbj
              go_wp2_with fail
              refine (isBegun_no _ c (t.take j) HV.out HN.out _).mono ?_
              rintro e w2 ⟨a, rfl, b2⟩
              have hown3 := hown2.bel b2
              have hb3 := hb2.trans b2
              have hsz : w.heap.size ≤ w2.heap.size := hb3.size
              go_wp2_with (first | (at_builtin; refine wpList_app rfl (.tmp 37) (.tmp 38) 22 rfl elemInt (by decide) w.heap.size _ _ _ rfl rfl hown3 rfl (by simp; omega) (by first | exact Nat.le_refl _ | assumption | (have := hb.size; omega)) ?_; intro v' w1 hown' hb1))
              go_roundw
              case rel => exact ⟨_, xs ++ [65533], rfl, by rw [HS.out, List.length_append, List.length_singleton]; omega, HF, by rw [List.map_append]; exact hown', hb3.upto hb1 (Nat.le_refl _)⟩
              case measure => simp only [strLen, HS.out]; omega
            · have hjlt : j < K := by omega
              have HO := Lib.hid (HY.out j hjlt)
              have HD := Lib.hid (show ((j : Int) + 1 == (m : Int) + 1) = false by rw [beq_eq_false_iff_ne]; omega)
              clear hjm
              go_wp2_with fail
              refine (isBegun_yes _ c (t.take j) HV.out m HM.out HO.out _).mono ?_
              rintro e w2 ⟨rfl, b2⟩
              go_wp2_with fail
              go_roundw
              case rel => exact ⟨j + 1, by omega, by go_num, by rw [HD.out], hbj.trans b2⟩
              case measure => simp [intOf]; omega
        · -- more must come
          have HF := Lib.hid (show M.told8 s.data.toList = (xs, s'.data.toList) by
            rw [HT.out, hct, M.told8_no c t (by rw [hf])]; simp)
          have HC := Lib.hid hct
          have HM := Lib.hid hm
          have HY := Lib.hid hyes
          have hKl : K ≤ s'.size := by omega
          have hKl2 : s'.size ≤ K := by omega
          clear he hct hm hyes hf hlen hwo hmi hKt
          go_wp2_with fail
          go_loopw [5, 6] (fun vn vd wr' => ∃ j : Nat, j ≤ K ∧ vn = .int .i64 j ∧ vd = .bool false ∧ Bel wr wr') (fun vn _ _ => K - (intOf vn).toNat)
          case atStart => exact ⟨0, by omega, rfl, rfl, Bel.refl _⟩
          case round =>
            obtain ⟨j, hj, rfl, rfl, hbj⟩ := hrel
            by_cases hjm : j = K
            · subst hjm
              have e2 : ((j : Int) == (s'.size : Int)) = true := by rw [beq_iff_eq]; omega
              have hb2 := hb.trans hbj
              have hown2 := hown.bel hbj
              go_wp2_with fail
              go_ret2
              rw [HF.out]
              exact ⟨_, by rw [str_eq]; rfl, hown2, hb2⟩
            · have hjlt : j < K := by omega
              have hjl : j < s'.size := by omega
              have HV := Lib.hid (show (s'.extract 0 (j + 1)).data.toList = c :: t.take j from take_cons s' c t HC.out j)
              have HO := Lib.hid (HY.out j hjlt)
              have HD := Lib.hid (show ((j : Int) + 1 == (m : Int) + 1) = false by rw [beq_eq_false_iff_ne]; omega)
              clear hjm
              go_wp2_with fail
              refine (isBegun_yes _ c (t.take j) HV.out m HM.out HO.out _).mono ?_
              rintro e w2 ⟨rfl, b2⟩
              go_wp2_with fail
              go_roundw
              case rel => exact ⟨j + 1, by omega, by go_num, by rw [HD.out], hbj.trans b2⟩
              case measure => simp [intOf]; omega
end Go.Proofs.Ythjafhoahhdlnaa

/-
  The law LabelNames.
-/
import Derived.Test.YtbddfefcgfenfaaDoorLawLabel
namespace Go.Proofs.YtbddfefcgfenfaaDoor
open Go.RowKit
set_option maxRecDepth 1000000

theorem find_fold (a b : List UInt8) (h : M.fold a = M.fold b) : M.find a = M.find b := by
  rw [M.find, M.find, ← M.trim_fold, ← M.trim_fold, h]
theorem find_named (n : Int) (hn : M.isEnc n = true) (u : List UInt8) (h : M.fold u = M.fold (M.nameOf n)) : M.find ([10, 32] ++ u ++ [9]) = n := by
  rw [← M.nameE_find n hn]
  conv => rhs; rw [M.nameE_find n hn]
  rw [find_fold ([10, 32] ++ u ++ [9]) ([10, 32] ++ M.nameOf n ++ [9]) (by unfold M.fold at h ⊢; simp only [List.map_append]; rw [h])]
  exact M.nameE_find n hn
theorem up_fold (c : UInt8) (h : 97 ≤ c.toNat ∧ c.toNat ≤ 122) : ∃ d : UInt8, (d.toNat : Int) = (c.toNat : Int) - 32 ∧ M.fold1 d = M.fold1 c := by
  refine ⟨UInt8.ofNat (c.toNat - 32), ?_, ?_⟩
  · rw [UInt8.toNat_ofNat_of_lt' (show c.toNat - 32 < 256 by omega)]; omega
  · apply UInt8.toNat_inj.1
    rw [M.fold1_nat, M.fold1_nat, UInt8.toNat_ofNat_of_lt' (show c.toNat - 32 < 256 by omega)]
    (repeat' split) <;> omega
theorem nameOf_len (n : Int) : (M.nameOf n).length ≤ 14 := by
  unfold M.nameOf; (repeat' split) <;> decide
theorem fold_snoc (t : List UInt8) (k : Nat) (c d : UInt8) (u : List UInt8) (hc : t[k]? = some c) (h : M.fold u = M.fold (t.take k)) (hd : M.fold1 d = M.fold1 c) : M.fold (u ++ [d]) = M.fold (t.take (k + 1)) := by
  rw [List.take_add_one, hc]
  unfold M.fold at h ⊢
  rw [List.map_append, List.map_append, h]
  simp [hd]
set_option maxHeartbeats 4000000 in
theorem labelNamesTrue (n : Int) (s : ByteArray) (w : World) (_hn : -9223372036854775808 ≤ n ∧ n ≤ 9223372036854775807) (hs0 : s.size ≤ reachBytes) : Calls Tryd.prog 4 #[.int .i64 n, .string s] w fun e w' => e = .returned (.bool true) ∧ Bel w w' := by
  have hs : s.size ≤ 9223372036854775807 := by unfold reachBytes at hs0; omega
  have hF : M.isEnc n = false ∨ M.isEnc n = true := by cases M.isEnc n <;> simp
  rcases hF with hi | hi
  · have HM := Lib.hid (show M.nameE n = ([], 6) by rw [M.nameE, hi, if_neg (by decide)])
    clear hi
    go_enter Tryd.func4, Tryd.ntmps4
    go_wp2_with fail
    refine (name_to n _ _ HM.out _).mono ?_
    rintro e w1 ⟨rfl, b1⟩
    go_wp2_with fail
    refine (labelBegun_any _).mono ?_
    rintro e w2 ⟨rfl, b2⟩
    have bA := b1.trans b2
    clear b1 b2
    by_cases hl : 3000 < s.size
    · have hl' : 3000 < s.data.toList.length := by rw [← Lib.size_eq]; exact hl
      have HT := Lib.hid (show M.trimE s.data.toList = ([], 2) by rw [M.trimE, if_pos hl'])
      have HO := Lib.hid (show M.foldE [] = ([], 0) from rfl)
      have HD := Lib.hid (show M.findE s.data.toList = (0, 2) by rw [M.findE, if_pos hl'])
      clear hl'
      go_wp2_with fail
      refine (trim_to s _ _ HT.out hs _).mono ?_
      rintro e w3 ⟨rfl, b3⟩
      go_wp2_with fail
      refine (fold_to ⟨#[]⟩ _ _ HO.out (by decide) _).mono ?_
      rintro e w4 ⟨rfl, b4⟩
      go_wp2_with fail
      refine (find_to s _ _ HD.out hs _).mono ?_
      rintro e w5 ⟨rfl, b5⟩
      go_wp2_with fail
      go_ret
      exact ⟨rfl, ((bA.trans b3).trans b4).trans b5⟩
    · have hl' : ¬ 3000 < s.data.toList.length := by rw [← Lib.size_eq]; exact hl
      have hl2 : ¬ 3000 < (M.trim s.data.toList).length := by have := M.trim_len s.data.toList; omega
      have hl3 : ¬ 3000 < (M.fold (M.trim s.data.toList)).length := by rw [M.fold_len]; exact hl2
      have HT := Lib.hid (show M.trimE s.data.toList = (M.trim s.data.toList, 0) by rw [M.trimE, if_neg hl'])
      have HO := Lib.hid (show M.foldE (M.trim s.data.toList) = (M.fold (M.trim s.data.toList), 0) by rw [M.foldE, if_neg hl2])
      have HD := Lib.hid (show M.findE s.data.toList = (M.find s.data.toList, 0) by rw [M.findE, if_neg hl'])
      have HD2 := Lib.hid (show M.findE (M.fold (M.trim s.data.toList)) = (M.find s.data.toList, 0) by rw [M.findE, if_neg hl3, M.find_again])
      have HT2 := Lib.hid (show M.trimE (M.fold (M.trim s.data.toList)) = (M.fold (M.trim s.data.toList), 0) by rw [M.trimE, if_neg hl3, M.trim_again])
      have z2 : (⟨(M.trim s.data.toList).toArray⟩ : ByteArray).size ≤ 9223372036854775807 := by rw [size_str]; omega
      have z3 : (⟨(M.fold (M.trim s.data.toList)).toArray⟩ : ByteArray).size ≤ 9223372036854775807 := by rw [size_str]; omega
      clear hl' hl2 hl3
      generalize M.find s.data.toList = q at *
      generalize hA : M.trim s.data.toList = A at *
      generalize hB : M.fold A = B at *
      clear hA hB
      go_wp2_with fail
      refine (trim_to s _ _ HT.out hs _).mono ?_
      rintro e w3 ⟨rfl, b3⟩
      go_wp2_with fail
      refine (fold_to ⟨A.toArray⟩ _ _ HO.out z2 _).mono ?_
      rintro e w4 ⟨rfl, b4⟩
      go_wp2_with fail
      refine (find_to s _ _ HD.out hs _).mono ?_
      rintro e w5 ⟨rfl, b5⟩
      go_wp2_with fail
      refine (find_to ⟨B.toArray⟩ _ _ HD2.out z3 _).mono ?_
      rintro e w6 ⟨rfl, b6⟩
      go_wp2_with fail
      refine (trim_to ⟨B.toArray⟩ _ _ HT2.out z3 _).mono ?_
      rintro e w7 ⟨rfl, b7⟩
      go_wp2_with fail
      go_ret
      exact ⟨rfl, ((((bA.trans b3).trans b4).trans b5).trans b6).trans b7⟩
  · have HM := Lib.hid (show M.nameE n = (M.nameOf n, 0) by rw [M.nameE, hi, if_pos rfl])
    have HN := Lib.hid (find_named n hi)
    have HL := Lib.hid (nameOf_len n)
    clear hi
    go_enter Tryd.func4, Tryd.ntmps4
    go_wp2_with fail
    refine (name_to n _ _ HM.out _).mono ?_
    rintro e w1 ⟨rfl, b1⟩
    go_wp2_with fail
    refine (labelBegun_any _).mono ?_
    rintro e w2 ⟨rfl, b2⟩
    have bA := b1.trans b2
    clear b1 b2
    obtain ⟨t, ht⟩ : ∃ t : ByteArray, t = ⟨(M.nameOf n).toArray⟩ := ⟨_, rfl⟩
    have HT0 := Lib.hid (show t.data.toList = M.nameOf n by rw [ht])
    rw [← ht]
    clear ht
    have htl : t.size ≤ 14 := by rw [Lib.size_eq, HT0.out]; exact HL.out
    go_wp2_with fail
    go_loopw [7, 8] (fun v i wr => ∃ (k : Nat) (u : List UInt8), k ≤ t.size ∧ i = .int .i64 k ∧ v = .string ⟨u.toArray⟩ ∧ u.length ≤ k ∧ Hid (M.fold u = M.fold (t.data.toList.take k)) ∧ Bel w wr) (fun _ i _ => t.size - (intOf i).toNat)
    case atStart => exact ⟨0, [], by omega, rfl, rfl, Nat.le_refl _, Lib.hid rfl, bA⟩
    case round =>
      clear bA
      obtain ⟨k, u, hk, rfl, rfl, hu, HU, bA⟩ := hrel
      by_cases hlt : k < t.size
      · have HB := Lib.hid (byte_at t k hlt)
        by_cases h1 : 97 ≤ t[k].toNat ∧ t[k].toNat ≤ 122
        · obtain ⟨d, hd1, hd2⟩ := up_fold _ h1
          obtain ⟨h1, h2⟩ := h1
          have HS1 := Lib.hid (fold_snoc _ k _ d u HB.out HU.out hd2)
          have HS2 := Lib.hid (fold_snoc _ k _ _ u HB.out HU.out rfl)
          go_wp2_with (first | ((with_reducible show wpList _ _ _ _ _ _); refine wpList_toString rfl (.tmp 54) _ _ 5 rfl Tryd.underlying34 Tryd.underlying5 Tryd.underlying9 wr.heap.size _ [d] rfl (own_row wr [d] [.int .u8 ((t[k].toNat : Int) - 32)] (by simp [byteVal, hd1]) (by simp)) ?_) | ((with_reducible show wpList _ _ _ _ _ _); refine wpList_toString rfl (.tmp 54) _ _ 5 rfl Tryd.underlying34 Tryd.underlying5 Tryd.underlying9 wr.heap.size _ [t[k]] rfl (own_row wr [t[k]] [.int .u8 (t[k].toNat : Int)] (by simp [byteVal]) (by simp)) ?_))
          · go_roundw
            case rel => exact ⟨k + 1, u ++ [d], by omega, by go_num, by rw [str_append], by simp; omega, HS1, bA.alloc _⟩
            case measure => simp [intOf]; omega
          · go_roundw
            case rel => exact ⟨k + 1, u ++ [t[k]], by omega, by go_num, by rw [str_append], by simp; omega, HS2, bA.alloc _⟩
            case measure => simp [intOf]; omega
        · have HS2 := Lib.hid (fold_snoc _ k _ _ u HB.out HU.out rfl)
          by_cases h2 : 97 ≤ t[k].toNat
          · have h3 : ¬ t[k].toNat ≤ 122 := fun h => h1 ⟨h2, h⟩
            clear h1
            go_wp2_with ((with_reducible show wpList _ _ _ _ _ _); refine wpList_toString rfl (.tmp 54) _ _ 5 rfl Tryd.underlying34 Tryd.underlying5 Tryd.underlying9 wr.heap.size _ [t[k]] rfl (own_row wr [t[k]] [.int .u8 (t[k].toNat : Int)] (by simp [byteVal]) (by simp)) ?_)
            all_goals
              go_roundw
              case rel => exact ⟨k + 1, u ++ [t[k]], by omega, by go_num, by rw [str_append], by simp; omega, HS2, bA.alloc _⟩
              case measure => simp [intOf]; omega
          · clear h1
            go_wp2_with ((with_reducible show wpList _ _ _ _ _ _); refine wpList_toString rfl (.tmp 54) _ _ 5 rfl Tryd.underlying34 Tryd.underlying5 Tryd.underlying9 wr.heap.size _ [t[k]] rfl (own_row wr [t[k]] [.int .u8 (t[k].toNat : Int)] (by simp [byteVal]) (by simp)) ?_)
            all_goals
              go_roundw
              case rel => exact ⟨k + 1, u ++ [t[k]], by omega, by go_num, by rw [str_append], by simp; omega, HS2, bA.alloc _⟩
              case measure => simp [intOf]; omega
      · obtain rfl : k = t.size := by omega
        have HQ := Lib.hid (show M.findE (((⟨#[10, 32]⟩ : ByteArray) ++ ⟨u.toArray⟩) ++ ⟨#[9]⟩ : ByteArray).data.toList = (n, 0) by
          rw [data_append, data_append]
          have e : ((⟨#[10, 32]⟩ : ByteArray).data.toList ++ (⟨u.toArray⟩ : ByteArray).data.toList ++ (⟨#[9]⟩ : ByteArray).data.toList) = [10, 32] ++ u ++ [9] := by simp
          rw [e, M.findE, if_neg (by simp; omega), HN.out u (by rw [HU.out, ← HT0.out, List.take_of_length_le (by rw [← Lib.size_eq]; exact Nat.le_refl _)])])
        have HZ : (((⟨#[10, 32]⟩ : ByteArray) ++ ⟨u.toArray⟩) ++ ⟨#[9]⟩ : ByteArray).size ≤ 9223372036854775807 := by
          rw [Lib.size_eq, data_append, data_append]; simp; omega
        generalize hg : (((⟨#[10, 32]⟩ : ByteArray) ++ ⟨u.toArray⟩) ++ ⟨#[9]⟩ : ByteArray) = G at HQ HZ
        go_wp2_with fail
        refine (find_to G _ _ HQ.out HZ _).mono ?_
        rintro e wq ⟨rfl, bq⟩
        have bA := bA.trans bq
        by_cases hl : 3000 < s.size
        · have hl' : 3000 < s.data.toList.length := by rw [← Lib.size_eq]; exact hl
          have HT := Lib.hid (show M.trimE s.data.toList = ([], 2) by rw [M.trimE, if_pos hl'])
          have HO := Lib.hid (show M.foldE [] = ([], 0) from rfl)
          have HD := Lib.hid (show M.findE s.data.toList = (0, 2) by rw [M.findE, if_pos hl'])
          clear hl'
          go_wp2_with fail
          refine (trim_to s _ _ HT.out hs _).mono ?_
          rintro e w3 ⟨rfl, b3⟩
          go_wp2_with fail
          refine (fold_to ⟨#[]⟩ _ _ HO.out (by decide) _).mono ?_
          rintro e w4 ⟨rfl, b4⟩
          go_wp2_with fail
          refine (find_to s _ _ HD.out hs _).mono ?_
          rintro e w5 ⟨rfl, b5⟩
          go_wp2_with fail
          go_ret
          exact ⟨rfl, ((bA.trans b3).trans b4).trans b5⟩
        · have hl' : ¬ 3000 < s.data.toList.length := by rw [← Lib.size_eq]; exact hl
          have hl2 : ¬ 3000 < (M.trim s.data.toList).length := by have := M.trim_len s.data.toList; omega
          have hl3 : ¬ 3000 < (M.fold (M.trim s.data.toList)).length := by rw [M.fold_len]; exact hl2
          have HT := Lib.hid (show M.trimE s.data.toList = (M.trim s.data.toList, 0) by rw [M.trimE, if_neg hl'])
          have HO := Lib.hid (show M.foldE (M.trim s.data.toList) = (M.fold (M.trim s.data.toList), 0) by rw [M.foldE, if_neg hl2])
          have HD := Lib.hid (show M.findE s.data.toList = (M.find s.data.toList, 0) by rw [M.findE, if_neg hl'])
          have HD2 := Lib.hid (show M.findE (M.fold (M.trim s.data.toList)) = (M.find s.data.toList, 0) by rw [M.findE, if_neg hl3, M.find_again])
          have HT2 := Lib.hid (show M.trimE (M.fold (M.trim s.data.toList)) = (M.fold (M.trim s.data.toList), 0) by rw [M.trimE, if_neg hl3, M.trim_again])
          have z2 : (⟨(M.trim s.data.toList).toArray⟩ : ByteArray).size ≤ 9223372036854775807 := by rw [size_str]; omega
          have z3 : (⟨(M.fold (M.trim s.data.toList)).toArray⟩ : ByteArray).size ≤ 9223372036854775807 := by rw [size_str]; omega
          clear hl' hl2 hl3
          generalize M.find s.data.toList = q at *
          generalize hA : M.trim s.data.toList = A at *
          generalize hB : M.fold A = B at *
          clear hA hB
          go_wp2_with fail
          refine (trim_to s _ _ HT.out hs _).mono ?_
          rintro e w3 ⟨rfl, b3⟩
          go_wp2_with fail
          refine (fold_to ⟨A.toArray⟩ _ _ HO.out z2 _).mono ?_
          rintro e w4 ⟨rfl, b4⟩
          go_wp2_with fail
          refine (find_to s _ _ HD.out hs _).mono ?_
          rintro e w5 ⟨rfl, b5⟩
          go_wp2_with fail
          refine (find_to ⟨B.toArray⟩ _ _ HD2.out z3 _).mono ?_
          rintro e w6 ⟨rfl, b6⟩
          go_wp2_with fail
          refine (trim_to ⟨B.toArray⟩ _ _ HT2.out z3 _).mono ?_
          rintro e w7 ⟨rfl, b7⟩
          go_wp2_with fail
          go_ret
          exact ⟨rfl, ((((bA.trans b3).trans b4).trans b5).trans b6).trans b7⟩
end Go.Proofs.YtbddfefcgfenfaaDoor

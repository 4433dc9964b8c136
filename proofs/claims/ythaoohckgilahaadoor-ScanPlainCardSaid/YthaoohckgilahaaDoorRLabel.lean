/-
  The document's answers on labels: TrimOf, FoldOf, FindOf, NameOf.
-/
import Derived.Test.YthaoohckgilahaaDoorWhite
import Derived.Test.YthaoohckgilahaaDoorRLong
import Derived.Test.YthaoohckgilahaaDoorBase7
import Derived.Test.YthaoohckgilahaaDoorLabel2
namespace Go.Proofs.YthaoohckgilahaaDoor
open Go.RowKit
set_option maxRecDepth 1000000

theorem trimL_cons (c : UInt8) (l : List UInt8) (h : M.white c = true) : M.trimL (c :: l) = M.trimL l := by
  rw [M.trimL, List.dropWhile_cons, if_pos h]; rfl
theorem trimR_snoc (c : UInt8) (l : List UInt8) (h : M.white c = true) : M.trimR (l ++ [c]) = M.trimR l := by
  rw [M.trimR, List.reverse_append, List.reverse_cons, List.reverse_nil, List.nil_append, List.singleton_append, List.dropWhile_cons, if_pos h]; rfl
theorem trimR_stop (c : UInt8) (l : List UInt8) (h : M.white c = false) : M.trimR (l ++ [c]) = l ++ [c] := by
  rw [M.trimR, List.reverse_append, List.reverse_cons, List.reverse_nil, List.nil_append, List.singleton_append, List.dropWhile_cons, if_neg (by rw [h]; decide), List.reverse_cons, List.reverse_reverse]
theorem take_str (s : ByteArray) (k : Nat) : (s.extract 0 k).data.toList = s.data.toList.take k := by
  rw [Lib.extract_data, List.drop_zero, Nat.sub_zero]
theorem snoc_of (u : ByteArray) (h : 0 < u.size) : u.data.toList = u.data.toList.take (u.size - 1) ++ [u[u.size - 1]] := by
  have e : u.size - 1 + 1 = u.data.toList.length := by rw [← Lib.size_eq]; omega
  have := List.take_add_one (l := u.data.toList) (i := u.size - 1)
  rw [e, List.take_length, byte_at u (u.size - 1) (by omega)] at this
  exact this
theorem M.trim_lr (l : List UInt8) : M.trim l = M.trimR (M.trimL l) := rfl
theorem trimOf_any (s : ByteArray) (w : World) (hs : s.size ≤ 68719476735) : Calls Tryd.prog 54 #[.string s] w fun e w' => e = .returned (.string ⟨(M.trim s.data.toList).toArray⟩) ∧ w = w' := by
  go_enter Tryd.func54, Tryd.ntmps54
  go_wp2_with fail
  go_loop [0] (fun v => ∃ t : ByteArray, v = .string t ∧ t.size ≤ s.size ∧ Hid (M.trimL t.data.toList = M.trimL s.data.toList)) (fun v => strLen v)
  case atStart => exact ⟨s, rfl, Nat.le_refl _, Lib.hid rfl⟩
  case round =>
    obtain ⟨t, rfl, ht, HT⟩ := hrel
    by_cases hlt : 0 < t.size
    · have HB := Lib.hid (byte_at t 0 hlt)
      have HS := Lib.hid (drop_size t 1)
      have HD := Lib.hid (drop_str t 1)
      cases hw : M.white t[0] with
      | true =>
        have HW := Lib.hid hw
        clear hw
        go_wp2_with (go_at_call 30; refine (isWhite_any _ _).mono ?_; rintro e w' ⟨rfl, rfl⟩; rw [HW.out])
        go_round
        case rel =>
          refine ⟨_, rfl, by rw [HS.out]; omega, Lib.hid ?_⟩
          rw [← HT.out, HD.out]
          cases hl : t.data.toList with
          | nil => rw [hl] at HB; cases HB.out
          | cons c l =>
            have h2 := HB.out
            rw [hl] at h2
            injection h2 with h2
            rw [trimL_cons c l (by rw [h2]; exact HW.out)]; rfl
        case measure => simp only [strLen, HS.out]; omega
      | false =>
        have HE := Lib.hid (show t.data.toList = M.trimL s.data.toList by
          rw [← HT.out, M.trimL_of_head]
          intro c hc
          have h2 := HB.out
          rw [List.head?_eq_getElem?, h2] at hc
          injection hc with hc
          rw [← hc]; exact hw)
        have HW := Lib.hid hw
        clear hw
        go_wp2_with (go_at_call 30; refine (isWhite_any _ _).mono ?_; rintro e w' ⟨rfl, rfl⟩; rw [HW.out])
        clear HB HS HD HT HW
        go_loop [0] (fun v => ∃ u : ByteArray, v = .string u ∧ u.size ≤ t.size ∧ Hid (M.trimR u.data.toList = M.trimR t.data.toList)) (fun v => strLen v)
        case atStart => exact ⟨t, rfl, Nat.le_refl _, Lib.hid rfl⟩
        case round =>
          obtain ⟨u, rfl, hu, HT⟩ := hrel
          by_cases hlt2 : 0 < u.size
          · have HB := Lib.hid (byte_at u (u.size - 1) (by omega))
            have hlast : ((u.size : Int) - 1).toNat = u.size - 1 := by omega
            cases hw : M.white (u[u.size - 1]'(by omega)) with
            | true =>
              have HW := Lib.hid hw
              clear hw
              go_wp2_with (go_at_call 30; refine (isWhite_any _ _).mono ?_; rintro e w' ⟨rfl, rfl⟩; rw [HW.out])
              go_round
              case rel =>
                refine ⟨_, rfl, ?_, Lib.hid ?_⟩
                · rw [Lib.size_eq, take_str, List.length_take, ← Lib.size_eq]; omega
                · rw [← HT.out, take_str]
                  have e := snoc_of u hlt2
                  conv => rhs; rw [e]
                  rw [trimR_snoc _ _ HW.out]
              case measure => simp only [strLen]; rw [Lib.size_eq, take_str, List.length_take, ← Lib.size_eq]; omega
            | false =>
              have HW := Lib.hid hw
              clear hw
              go_wp2_with (go_at_call 30; refine (isWhite_any _ _).mono ?_; rintro e w' ⟨rfl, rfl⟩; rw [HW.out])
              go_ret
              refine ⟨?_, rfl⟩
              rw [M.trim_lr, ← HE.out, ← HT.out]
              have e := snoc_of u hlt2
              rw [e, trimR_stop _ _ HW.out, ← e, str_eq]; rfl
          · have hz : u.data.toList = [] := by
              rw [← List.length_eq_zero_iff, ← Lib.size_eq]; omega
            have HZ := Lib.hid hz
            clear hz
            go_wp2_with fail
            go_ret
            refine ⟨?_, rfl⟩
            rw [M.trim_lr, ← HE.out, ← HT.out, HZ.out]
            have e : u = ⟨(M.trimR []).toArray⟩ := by rw [← str_eq u, HZ.out]; rfl
            rw [← e]; rfl
    · have hz : t.data.toList = [] := by
        rw [← List.length_eq_zero_iff, ← Lib.size_eq]; omega
      have HZ := Lib.hid hz
      clear hz
      go_wp2_with fail
      refine wp_loop_rounds 2 ?_
      rw [rounds_succ]
      go_wp2_with fail
      go_ret
      refine ⟨?_, rfl⟩
      rw [M.trim_lr, ← HT.out, HZ.out]
      have e : t = ⟨(M.trimR (M.trimL [])).toArray⟩ := by rw [← str_eq t, HZ.out]; rfl
      rw [← e]; rfl
theorem foldOf_any (s : ByteArray) (w : World) (hs : s.size ≤ 68719476735) : Calls Tryd.prog 32 #[.string s] w fun e w' => e = .returned (.string ⟨(M.fold s.data.toList).toArray⟩) ∧ Bel w w' := by
  have HL := Lib.hid (show (M.fold s.data.toList).length = s.size by rw [M.fold_len, ← Lib.size_eq])
  go_enter Tryd.func32, Tryd.ntmps32
  go_wp2_with fail
  go_loopw [3, 4] (fun v i wr => ∃ k : Nat, k ≤ s.size ∧ i = .int .i64 k ∧ Own w.heap.size 5 wr v (((M.fold s.data.toList).take k).map byteVal) ∧ Bel w wr) (fun _ i _ => s.size - (intOf i).toNat)
  case atStart => exact ⟨0, by omega, rfl, Own.nil _ _ _, Bel.refl _⟩
  case round =>
    obtain ⟨k, hk, rfl, hown, hb⟩ := hrel
    by_cases hlt : k < s.size
    · have HT := Lib.hid (take_snoc byteVal (M.fold s.data.toList) k (M.fold1 s[k]) (by unfold M.fold; rw [List.getElem?_map, byte_at s k hlt]; rfl))
      have hlen : ((M.fold s.data.toList).take k).length ≤ k := List.length_take_le _ _
      have hc0 : s[k].toNat < 256 := s[k].toNat_lt
      by_cases h1 : 65 ≤ s[k].toNat ∧ s[k].toNat ≤ 90
      · have HF := Lib.hid (show byteVal (M.fold1 s[k]) = .int .u8 ((s[k].toNat : Int) + 32) by
          rw [byteVal, M.fold1, if_pos h1, M.add32 s[k] h1]; rfl)
        have e1 : decide ((65 : Int) ≤ (s[k].toNat : Int) ∧ (s[k].toNat : Int) ≤ 90) = true := by rw [decide_eq_true_eq]; omega
        have h2 := h1.2
        go_wp2_with (first | (go_at_call 56; refine (between_any _ _ _ _).mono ?_; rintro e w' ⟨rfl, rfl⟩; rw [e1]) | (at_builtin; refine wpList_app rfl (.tmp 20) (.tmp 22) 72 rfl elemByte (by decide) w.heap.size _ _ _ rfl rfl hown rfl (by simp; omega) (by first | exact Nat.le_refl _ | assumption | (have := hb.size; omega)) ?_; intro v' w1 hown' hb1))
        go_roundw
        case rel => exact ⟨k + 1, by omega, by go_num, by rw [HT.out, HF.out]; exact hown', hb.upto hb1 (Nat.le_refl _)⟩
        case measure => simp [intOf]; omega
      · have HF := Lib.hid (show byteVal (M.fold1 s[k]) = .int .u8 (s[k].toNat : Int) by
          rw [byteVal, M.fold1, if_neg h1])
        have e1 : decide ((65 : Int) ≤ (s[k].toNat : Int) ∧ (s[k].toNat : Int) ≤ 90) = false := by rw [decide_eq_false_iff_not]; omega
        go_wp2_with (first | (go_at_call 56; refine (between_any _ _ _ _).mono ?_; rintro e w' ⟨rfl, rfl⟩; rw [e1]) | (at_builtin; refine wpList_app rfl (.tmp 20) (.tmp 22) 72 rfl elemByte (by decide) w.heap.size _ _ _ rfl rfl hown rfl (by simp; omega) (by first | exact Nat.le_refl _ | assumption | (have := hb.size; omega)) ?_; intro v' w1 hown' hb1))
        go_roundw
        case rel => exact ⟨k + 1, by omega, by go_num, by rw [HT.out, HF.out]; exact hown', hb.upto hb1 (Nat.le_refl _)⟩
        case measure => simp [intOf]; omega
    · obtain rfl : k = s.size := by omega
      have HT := Lib.hid (show (M.fold s.data.toList).take s.size = M.fold s.data.toList by rw [← HL.out, List.take_length])
      rw [HT.out] at hown
      go_wp2_with ((with_reducible show wpList _ _ _ _ _ _); refine wpList_toString rfl (.tmp 24) _ _ 5 rfl Tryd.underlying72 Tryd.underlying5 Tryd.underlying9 w.heap.size _ _ rfl hown ?_)
      go_ret
      exact ⟨rfl, hb⟩
theorem findOf_any (s : ByteArray) (w : World) (hs : s.size ≤ 68719476735) : Calls Tryd.prog 31 #[.string s] w fun e w' => e = .returned (.int .i64 (M.find s.data.toList)) ∧ Bel w w' := by
  have HF := Lib.hid (M.find_first (M.fold (M.trim s.data.toList)))
  have HN := Lib.hid (M.find_none (M.fold (M.trim s.data.toList)))
  have HL := Lib.hid (M.trim_len s.data.toList)
  have HS := Lib.hid (Lib.size_eq s)
  go_enter Tryd.func31, Tryd.ntmps31
  go_wp2_with (first | (go_at_call 55; refine (labels_any _).mono ?_; rintro e w' ⟨rfl, hc, b3, hg1⟩) | (go_at_call 54; refine (trimOf_any s _ (by omega)).mono ?_; rintro e w' ⟨rfl, rfl⟩) | (go_at_call 32; refine (foldOf_any _ _ (by rw [size_str]; have := HL.out; rw [← HS.out] at this; omega)).mono ?_; rintro e wA ⟨rfl, b1⟩))
  obtain ⟨z, hz⟩ : ∃ z : ByteArray, z = ⟨(M.fold (M.trim s.data.toList)).toArray⟩ := ⟨_, rfl⟩
  rw [← hz]
  have HZ := Lib.hid hz
  clear hz
  have HC := Lib.hid hc
  clear hc
  go_loop [4] (fun i => ∃ k : Nat, k ≤ 22 ∧ i = .int .i64 k ∧ Hid (∀ j, j < k → ((M.labelAt j).1 == M.fold (M.trim s.data.toList)) = false)) (fun i => 22 - (intOf i).toNat)
  case atStart => exact ⟨0, by omega, rfl, Lib.hid (fun j hj => by omega)⟩
  case round =>
    obtain ⟨k, hk, rfl, HNO⟩ := hrel
    by_cases hlt : k < 22
    · obtain ⟨c1, c2⟩ := HC.out k hlt
      rw [Nat.zero_add] at c1 c2
      have HA := Lib.hid (show ((⟨(M.labelAt k).1.toArray⟩ : ByteArray).toList == z.toList) = ((M.labelAt k).1 == M.fold (M.trim s.data.toList)) by
        rw [Lib.toList_data, HZ.out, Lib.toList_data])
      generalize (⟨(M.labelAt k).1.toArray⟩ : ByteArray) = a at c1 HA
      cases hq : ((M.labelAt k).1 == M.fold (M.trim s.data.toList)) with
      | true =>
        have ha : (a.toList == z.toList) = true := by rw [HA.out, hq]
        have HE := Lib.hid (HF.out k hlt hq HNO.out)
        clear hq
        go_wp2_with fail
        go_ret
        exact ⟨by rw [M.find, HE.out]; rfl, b1.trans b3⟩
      | false =>
        have ha : (a.toList == z.toList) = false := by rw [HA.out, hq]
        have HR := Lib.hid (show ∀ j, j < k + 1 → ((M.labelAt j).1 == M.fold (M.trim s.data.toList)) = false by
          intro j hj
          by_cases e : j = k
          · subst e; exact hq
          · exact HNO.out j (by omega))
        clear hq
        go_wp2_with fail
        go_round
        case rel => exact ⟨k + 1, by omega, by go_num, HR⟩
        case measure => simp [intOf]; omega
    · obtain rfl : k = 22 := by omega
      have HE := Lib.hid (HN.out HNO.out)
      go_wp2_with fail
      go_ret
      exact ⟨by rw [M.find, HE.out]; rfl, b1.trans b3⟩
end Go.Proofs.YthaoohckgilahaaDoor

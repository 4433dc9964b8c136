/-
  Texts of the proof, laid together: RAttr, RAttr3, RChar, RScan1. No condition of its own.
-/
import Derived.Test.YteingkjdemlhgaaGreatDoorG3
import Derived.Test.YteingkjdemlhgaaGreatDoorG4
import Derived.Deep.CutBlock
import Derived.Deep.Cut
import Derived.Deep.CutRange

/-
  The document's answers on attributes: AttrAt.
-/
namespace Go.Proofs.YteingkjdemlhgaaGreatDoor
open Go.RowKit
set_option maxRecDepth 1000000
theorem drop_cons (s : ByteArray) (k : Nat) (h : k < s.size) : s.data.toList.drop k = s[k] :: s.data.toList.drop (k + 1) := by
  have hk : k < s.data.toList.length := by rw [← Lib.size_eq]; exact h
  rw [List.drop_eq_getElem_cons hk]
  rfl
theorem drop_end (s : ByteArray) : s.data.toList.drop s.size = [] := List.drop_eq_nil_of_le (by rw [← Lib.size_eq]; exact Nat.le_refl _)
theorem dw_go (p : UInt8 → Bool) (s : ByteArray) (j : Nat) (h : j < s.size) (hp : p s[j] = true) : (s.data.toList.drop (j + 1)).dropWhile p = (s.data.toList.drop j).dropWhile p := by
  rw [drop_cons s j h, List.dropWhile_cons, if_pos hp]
theorem dw_stop (p : UInt8 → Bool) (s : ByteArray) (j : Nat) (h : j < s.size) (hp : p s[j] = false) : (s.data.toList.drop j).dropWhile p = s.data.toList.drop j := by
  rw [drop_cons s j h, List.dropWhile_cons, if_neg (by rw [hp]; decide)]
theorem tw_go (p : UInt8 → Bool) (s : ByteArray) (j : Nat) (h : j < s.size) (hp : p s[j] = true) : (s.data.toList.drop j).takeWhile p = s[j] :: (s.data.toList.drop (j + 1)).takeWhile p := by
  rw [drop_cons s j h, List.takeWhile_cons, if_pos hp]
theorem tw_stop (p : UInt8 → Bool) (s : ByteArray) (j : Nat) (h : j < s.size) (hp : p s[j] = false) : (s.data.toList.drop j).takeWhile p = [] := by
  rw [drop_cons s j h, List.takeWhile_cons, if_neg (by rw [hp]; decide)]
theorem one_str (s : ByteArray) (u : List UInt8) (j : Nat) (h : j < s.size) : (⟨u.toArray⟩ : ByteArray) ++ s.extract j (j + 1) = ⟨(u ++ [s[j]]).toArray⟩ := by
  rw [cut_str s j 1, drop_cons s j h, str_append]; rfl
theorem name_int2 (c : UInt8) : M.nameB c = (((c.toNat : Int) != 61) && ((c.toNat : Int) != 47) && ((c.toNat : Int) != 62) && !M.white c) := by
  rw [M.nameB]
  have e47 : UInt8.toNat 47 = 47 := rfl
  have e62 : UInt8.toNat 62 = 62 := rfl
  have e61 : UInt8.toNat 61 = 61 := rfl
  rw [Bool.eq_iff_iff]
  simp only [Bool.and_eq_true, bne_iff_ne, ne_eq, decide_eq_true_eq, ← UInt8.toNat_inj]
  constructor
  · rintro ⟨h0, h1, h2, h3⟩
    exact ⟨⟨⟨by omega, by omega⟩, by omega⟩, h0⟩
  · rintro ⟨⟨⟨h1, h2⟩, h3⟩, h0⟩
    exact ⟨h0, by omega, by omega, by omega⟩
theorem not_int (q c : UInt8) : (c != q) = ((c.toNat : Int) != (q.toNat : Int)) := by rw [bne, bne, byte_eq]
theorem quote_34 (c : UInt8) (h : ((c.toNat : Int) == 34) = true) : c = 34 ∨ c = 39 := .inl (UInt8.toNat_inj.1 (by have e : UInt8.toNat 34 = 34 := rfl; simp at h; omega))
theorem quote_39 (c : UInt8) (h : ((c.toNat : Int) == 39) = true) : c = 34 ∨ c = 39 := .inr (UInt8.toNat_inj.1 (by have e : UInt8.toNat 39 = 39 := rfl; simp at h; omega))
theorem quote_no (c : UInt8) (h : ((c.toNat : Int) == 34) = false) (h2 : ((c.toNat : Int) == 39) = false) : ¬ (c = 34 ∨ c = 39) := by
  simp at h h2
  rintro (rfl | rfl)
  · exact h rfl
  · exact h2 rfl
theorem fin_attr (n : Nat) (o : Option (List UInt8 × List UInt8)) (r : List UInt8) (o' : Option (List UInt8 × List UInt8)) (r' : List UInt8) (h : (o', r') = (o, r)) (X Y : ByteArray) (hX : Value.agg #[.string X, .string Y] = agA o') (kk : Nat) (hk : kk = n - r'.length) (b : Bool) (hb : o'.isSome = b) :
    Ending.returned (.tuple #[.agg #[.string X, .string Y], .int .i64 (kk : Int), .bool b]) = .returned (.tuple #[agA o, .int .i64 ((n - r.length : Nat) : Int), .bool o.isSome]) := by
  injection h with h1 h2
  subst h1; subst h2; subst hk; subst hb
  rw [hX]
set_option maxHeartbeats 16000000 in
theorem attrAt_any (s : ByteArray) (k : Nat) (hk : k ≤ s.size) (hs : s.size ≤ 3000) (o : Option (List UInt8 × List UInt8)) (r : List UInt8) (hn : M.nextA (s.data.toList.drop k) = (o, r)) (w : World) :
    Calls Tryz.prog 150 #[.string s, .int .i64 (k : Int)] w fun e w' => e = .returned (.tuple #[agA o, .int .i64 ((s.size - r.length : Nat) : Int), .bool o.isSome]) ∧ Bel w w' := by
  have HN := Lib.hid hn
  clear hn
  have hy : Box (w.alloc (.cells #[.string ⟨#[]⟩, .string ⟨#[]⟩] 56)) w.heap.size 56 [.string ⟨#[]⟩, .string ⟨#[]⟩] := Box.new w 56 [.string ⟨#[]⟩, .string ⟨#[]⟩]
  have hb : Bel w (w.alloc (.cells #[.string ⟨#[]⟩, .string ⟨#[]⟩] 56)) := (Bel.refl w).alloc _
  go_enter Tryz.func150, Tryz.ntmps150
  go_upto_block 0 with fail
  generalize (w.alloc (.cells #[.string ⟨#[]⟩, .string ⟨#[]⟩] 56)) = W at *
  go_cut [1] from 10 to 27 (fun v wx => (∃ j : Nat, v = .int .i64 (j : Int) ∧ k ≤ j ∧ j ≤ s.size ∧ s.data.toList.drop j = (s.data.toList.drop k).dropWhile M.skipB) ∧ W = wx)
  case first =>
    go_wp2_with fail
    go_loop [1] (fun v => ∃ j : Nat, v = .int .i64 (j : Int) ∧ k ≤ j ∧ j ≤ s.size ∧ Hid ((s.data.toList.drop j).dropWhile M.skipB = (s.data.toList.drop k).dropWhile M.skipB)) (fun v => s.size - (intOf v).toNat)
    case atStart => exact ⟨k, by first | rfl | go_num, Nat.le_refl _, by omega, Lib.hid rfl⟩
    case round =>
      obtain ⟨j, rfl, hsj, hj, HJ⟩ := hrel
      by_cases hlt : j < s.size
      ·
        cases hw : M.white s[j] with
        | true =>
          have hp : (M.skipB) s[j] = true := by simp [skip_int, hw]
          have HR := Lib.hid ((dw_go (M.skipB) s j hlt hp).trans HJ.out)
          have HW := Lib.hid hw
          clear hp hw
          go_wp2_with (go_at_call 122; refine (isWhite_any _ _).mono ?_; rintro e w' ⟨rfl, rfl⟩; rw [HW.out])
          go_round
          case rel => exact ⟨j + 1, by go_num, by omega, by omega, HR⟩
          case measure => simp [intOf]; omega
        | false =>
          cases h47 : ((s[j].toNat : Int) == 47) with
          | true =>
            have hp : (M.skipB) s[j] = true := by simp [skip_int, hw, h47]
            have HR := Lib.hid ((dw_go (M.skipB) s j hlt hp).trans HJ.out)
            have HW := Lib.hid hw
            clear hp hw
            go_wp2_with (go_at_call 122; refine (isWhite_any _ _).mono ?_; rintro e w' ⟨rfl, rfl⟩; rw [HW.out])
            go_round
            case rel => exact ⟨j + 1, by go_num, by omega, by omega, HR⟩
            case measure => simp [intOf]; omega
          | false =>
            have hp : (M.skipB) s[j] = false := by simp [skip_int, hw, h47]
            have HR := Lib.hid ((dw_stop (M.skipB) s j hlt hp).symm.trans HJ.out)
            have HW := Lib.hid hw
            clear hp hw
            go_wp2_with (go_at_call 122; refine (isWhite_any _ _).mono ?_; rintro e w' ⟨rfl, rfl⟩; rw [HW.out])
            go_meet
            exact ⟨⟨j, rfl, hsj, hj, HR.out⟩, rfl⟩
      · obtain rfl : j = s.size := by omega
        have HR := Lib.hid (show s.data.toList.drop s.size = (s.data.toList.drop k).dropWhile M.skipB by rw [← HJ.out, drop_end]; rfl)
        go_wp2_with fail
        go_meet
        exact ⟨⟨s.size, rfl, hsj, hj, HR.out⟩, rfl⟩
  case rest =>
  obtain ⟨⟨k1, rfl, hk01, hk1, hl1⟩, rfl⟩ := hcut
  by_cases hlt1 : k1 < s.size
  ·
    have hne1 : ((k1 : Int) == (s.size : Int)) = false := by simp; omega
    have hdc := drop_cons s k1 hlt1
    rw [hl1] at hdc
    have hend := end_int s[k1]
    cases h62 : ((s[k1].toNat : Int) != 62) with
    | false =>
      rw [h62] at hend
      have HX := Lib.hid (show M.nextA (s.data.toList.drop k) = (none, (s.data.toList.drop k).dropWhile M.skipB) by rw [M.nextA, hdc]; simp only; rw [if_pos (by simpa using hend)])
      have h62' : ((s[k1].toNat : Int) == 62) = true := by simpa using h62
      clear hend hdc h62
      have cy0 := hy.cell 0 _ rfl
      have cy1 := hy.cell 1 _ rfl
      have fy0 := hy.frozen 0
      have fy1 := hy.frozen 1
      go_wp2_with fail
      have hz := (hy.set 0 (.string ⟨#[]⟩)).set 1 (.string ⟨#[]⟩)
      have d0 := hz.cell 0 _ rfl
      have d1 := hz.cell 1 _ rfl
      refine bodyPost_ret (v := .tuple #[.agg #[.string ⟨#[]⟩, .string ⟨#[]⟩], .int .i64 ((k1 : Nat) : Int), .bool false]) (by simp [results, Tryz.results150, go_sem, d0, d1]) rfl ⟨?_, ?_⟩
      · exact fin_attr s.size o r _ _ (HX.out.symm.trans HN.out) _ _ rfl _ (at_of s k1 hk1 _ hl1) _ rfl
      · exact (hb.setCell (p := ⟨w.heap.size, 0, none⟩) (Nat.le_refl _) _).setCell (p := ⟨w.heap.size, 1, none⟩) (Nat.le_refl _) _
    | true =>
      rw [h62] at hend
      have hc62 : s[k1] ≠ 62 := by simpa using hend
      have HX := Lib.hid (show M.nextA (s.data.toList.drop k) = M.afterA ([s[k1]] ++ (s.data.toList.drop (k1 + 1)).takeWhile M.nameB) (((s.data.toList.drop (k1 + 1)).dropWhile M.nameB).dropWhile M.white) by rw [M.nextA, hdc]; simp only; rw [if_neg hc62]; rfl)
      have h62' : ((s[k1].toNat : Int) == 62) = false := by simpa using h62
      have hn1 : s.extract k1 (k1 + 1) = ⟨[s[k1]].toArray⟩ := by rw [cut_str s k1 1, drop_cons s k1 hlt1]; rfl
      have HN1 := Lib.hid hn1
      clear hend hdc h62 hc62 hn1 hl1
      go_upto_block 2 with fail
      rw [HN1.out]
      go_cut [1, 7] from 47 to 84 (fun v t wx => (∃ (j : Nat) (u : List UInt8), v = .int .i64 (j : Int) ∧ t = .string ⟨u.toArray⟩ ∧ (k1 + 1) ≤ j ∧ j ≤ s.size ∧ s.data.toList.drop j = (s.data.toList.drop (k1 + 1)).dropWhile M.nameB ∧ u = [s[k1]] ++ (s.data.toList.drop (k1 + 1)).takeWhile M.nameB) ∧ W = wx)
      case first =>
        go_wp2_with fail
        go_loop [1, 7] (fun v t => ∃ (j : Nat) (u : List UInt8), v = .int .i64 (j : Int) ∧ t = .string ⟨u.toArray⟩ ∧ (k1 + 1) ≤ j ∧ j ≤ s.size ∧ u.length ≤ j ∧ Hid ((s.data.toList.drop j).dropWhile M.nameB = (s.data.toList.drop (k1 + 1)).dropWhile M.nameB) ∧ Hid (u ++ (s.data.toList.drop j).takeWhile M.nameB = [s[k1]] ++ (s.data.toList.drop (k1 + 1)).takeWhile M.nameB)) (fun v _ => s.size - (intOf v).toNat)
        case atStart => exact ⟨(k1 + 1), [s[k1]], by first | rfl | go_num, by first | rfl | assumption, Nat.le_refl _, by omega, by simp; try omega, Lib.hid rfl, Lib.hid rfl⟩
        case round =>
          obtain ⟨j, u, rfl, rfl, hsj, hj, hul, HJ, HU⟩ := hrel
          by_cases hlt : j < s.size
          ·
            cases h61 : ((s[j].toNat : Int) != 61) with
            | true =>
              cases h47 : ((s[j].toNat : Int) != 47) with
              | true =>
                cases h62 : ((s[j].toNat : Int) != 62) with
                | true =>
                  cases hw : M.white s[j] with
                  | true =>
                    have hp : (M.nameB) s[j] = false := by simp [name_int2, h61, h47, h62, hw]
                    have HR := Lib.hid ((dw_stop (M.nameB) s j hlt hp).symm.trans HJ.out)
                    have HV := Lib.hid (show u = [s[k1]] ++ (s.data.toList.drop (k1 + 1)).takeWhile M.nameB by rw [← HU.out, tw_stop (M.nameB) s j hlt hp, List.append_nil])
                    have HW := Lib.hid hw
                    clear hp hw
                    go_wp2_with (go_at_call 122; refine (isWhite_any _ _).mono ?_; rintro e w' ⟨rfl, rfl⟩; rw [HW.out])
                    go_meet
                    exact ⟨⟨j, u, rfl, rfl, hsj, hj, HR.out, HV.out⟩, rfl⟩
                  | false =>
                    have hp : (M.nameB) s[j] = true := by simp [name_int2, h61, h47, h62, hw]
                    have HR := Lib.hid ((dw_go (M.nameB) s j hlt hp).trans HJ.out)
                    have HV := Lib.hid (show (u ++ [s[j]]) ++ (s.data.toList.drop (j + 1)).takeWhile M.nameB = [s[k1]] ++ (s.data.toList.drop (k1 + 1)).takeWhile M.nameB by rw [← HU.out, tw_go (M.nameB) s j hlt hp, List.append_assoc]; rfl)
                    have HS := Lib.hid (one_str s u j hlt)
                    have HW := Lib.hid hw
                    clear hp hw
                    go_wp2_with (go_at_call 122; refine (isWhite_any _ _).mono ?_; rintro e w' ⟨rfl, rfl⟩; rw [HW.out])
                    go_round
                    case rel => exact ⟨j + 1, u ++ [s[j]], by go_num, by rw [← HS.out], by omega, by omega, by rw [List.length_append, List.length_singleton]; omega, HR, HV⟩
                    case measure => simp [intOf]; omega
                | false =>
                  have hp : (M.nameB) s[j] = false := by simp [name_int2, h61, h47, h62]
                  have HR := Lib.hid ((dw_stop (M.nameB) s j hlt hp).symm.trans HJ.out)
                  have HV := Lib.hid (show u = [s[k1]] ++ (s.data.toList.drop (k1 + 1)).takeWhile M.nameB by rw [← HU.out, tw_stop (M.nameB) s j hlt hp, List.append_nil])
                  clear hp
                  go_wp2_with fail
                  go_meet
                  exact ⟨⟨j, u, rfl, rfl, hsj, hj, HR.out, HV.out⟩, rfl⟩
              | false =>
                have hp : (M.nameB) s[j] = false := by simp [name_int2, h61, h47]
                have HR := Lib.hid ((dw_stop (M.nameB) s j hlt hp).symm.trans HJ.out)
                have HV := Lib.hid (show u = [s[k1]] ++ (s.data.toList.drop (k1 + 1)).takeWhile M.nameB by rw [← HU.out, tw_stop (M.nameB) s j hlt hp, List.append_nil])
                clear hp
                go_wp2_with fail
                go_meet
                exact ⟨⟨j, u, rfl, rfl, hsj, hj, HR.out, HV.out⟩, rfl⟩
            | false =>
              have hp : (M.nameB) s[j] = false := by simp [name_int2, h61]
              have HR := Lib.hid ((dw_stop (M.nameB) s j hlt hp).symm.trans HJ.out)
              have HV := Lib.hid (show u = [s[k1]] ++ (s.data.toList.drop (k1 + 1)).takeWhile M.nameB by rw [← HU.out, tw_stop (M.nameB) s j hlt hp, List.append_nil])
              clear hp
              go_wp2_with fail
              go_meet
              exact ⟨⟨j, u, rfl, rfl, hsj, hj, HR.out, HV.out⟩, rfl⟩
          · obtain rfl : j = s.size := by omega
            have HR := Lib.hid (show s.data.toList.drop s.size = (s.data.toList.drop (k1 + 1)).dropWhile M.nameB by rw [← HJ.out, drop_end]; rfl)
            have HV := Lib.hid (show u = [s[k1]] ++ (s.data.toList.drop (k1 + 1)).takeWhile M.nameB by rw [← HU.out, drop_end]; simp)
            go_wp2_with fail
            go_meet
            exact ⟨⟨s.size, u, rfl, rfl, hsj, hj, HR.out, HV.out⟩, rfl⟩
      case rest =>
      obtain ⟨⟨k2, nm, rfl, rfl, hk12, hk2, hl2, hnm⟩, rfl⟩ := hcut
      have hnl : nm.length ≤ s.size := by rw [hnm]; have h9 := (List.takeWhile_prefix M.nameB (l := s.data.toList.drop (k1 + 1))).length_le; rw [List.length_drop, ← Lib.size_eq] at h9; rw [List.length_append, List.length_singleton]; omega
      rw [← hnm, ← hl2] at HX
      clear hnm hl2 HN1
      go_upto_block 4 with fail
      go_cut [1] from 85 to 96 (fun v wx => (∃ j : Nat, v = .int .i64 (j : Int) ∧ k2 ≤ j ∧ j ≤ s.size ∧ s.data.toList.drop j = (s.data.toList.drop k2).dropWhile M.white) ∧ W = wx)
      case first =>
        go_wp2_with fail
        go_loop [1] (fun v => ∃ j : Nat, v = .int .i64 (j : Int) ∧ k2 ≤ j ∧ j ≤ s.size ∧ Hid ((s.data.toList.drop j).dropWhile M.white = (s.data.toList.drop k2).dropWhile M.white)) (fun v => s.size - (intOf v).toNat)
        case atStart => exact ⟨k2, by first | rfl | go_num, Nat.le_refl _, by omega, Lib.hid rfl⟩
        case round =>
          obtain ⟨j, rfl, hsj, hj, HJ⟩ := hrel
          by_cases hlt : j < s.size
          ·
            cases hw : M.white s[j] with
            | true =>
              have hp : (M.white) s[j] = true := by simp [hw]
              have HR := Lib.hid ((dw_go (M.white) s j hlt hp).trans HJ.out)
              have HW := Lib.hid hw
              clear hp hw
              go_wp2_with (go_at_call 122; refine (isWhite_any _ _).mono ?_; rintro e w' ⟨rfl, rfl⟩; rw [HW.out])
              go_round
              case rel => exact ⟨j + 1, by go_num, by omega, by omega, HR⟩
              case measure => simp [intOf]; omega
            | false =>
              have hp : (M.white) s[j] = false := by simp [hw]
              have HR := Lib.hid ((dw_stop (M.white) s j hlt hp).symm.trans HJ.out)
              have HW := Lib.hid hw
              clear hp hw
              go_wp2_with (go_at_call 122; refine (isWhite_any _ _).mono ?_; rintro e w' ⟨rfl, rfl⟩; rw [HW.out])
              go_meet
              exact ⟨⟨j, rfl, hsj, hj, HR.out⟩, rfl⟩
          · obtain rfl : j = s.size := by omega
            have HR := Lib.hid (show s.data.toList.drop s.size = (s.data.toList.drop k2).dropWhile M.white by rw [← HJ.out, drop_end]; rfl)
            go_wp2_with fail
            go_meet
            exact ⟨⟨s.size, rfl, hsj, hj, HR.out⟩, rfl⟩
      case rest =>
      obtain ⟨⟨k3, rfl, hk23, hk3, hl3⟩, rfl⟩ := hcut
      rw [← hl3] at HX
      clear hl3
      by_cases hlt3 : k3 < s.size
      ·
        have hne3 : ((k3 : Int) == (s.size : Int)) = false := by simp; omega
        have hdc := drop_cons s k3 hlt3
        have h61i : (s[k3] != 61) = ((s[k3].toNat : Int) != 61) := not_int 61 s[k3]
        cases h61 : ((s[k3].toNat : Int) != 61) with
        | true =>
          rw [h61] at h61i
          have HY := Lib.hid (show M.nextA (s.data.toList.drop k) = (some (M.fold nm, []), s.data.toList.drop k3) by rw [HX.out, hdc, M.afterA, if_neg (by simpa using h61i)])
          clear h61i hdc
          have cy0 := hy.cell 0 _ rfl
          have cy1 := hy.cell 1 _ rfl
          have fy0 := hy.frozen 0
          have fy1 := hy.frozen 1
          go_wp2_with fail
          refine (foldOf_any ⟨nm.toArray⟩ _ (by rw [size_str]; omega)).mono ?_
          rintro e W2 ⟨rfl, hbb⟩
          have hy := hy.bel hbb
          have hb := hb.trans hbb
          clear cy0 cy1 fy0 fy1 hbb
          have cy0 := hy.cell 0 _ rfl
          have cy1 := hy.cell 1 _ rfl
          have fy0 := hy.frozen 0
          have fy1 := hy.frozen 1
          go_wp2_with fail
          have hz := (hy.set 0 (.string ⟨(M.fold nm).toArray⟩)).set 1 (.string ⟨#[]⟩)
          have d0 := hz.cell 0 _ rfl
          have d1 := hz.cell 1 _ rfl
          refine bodyPost_ret (v := .tuple #[.agg #[.string ⟨(M.fold nm).toArray⟩, .string ⟨#[]⟩], .int .i64 ((k3 : Nat) : Int), .bool true]) (by simp [results, Tryz.results150, go_sem, d0, d1]) rfl ⟨?_, ?_⟩
          · exact fin_attr s.size o r _ _ (HY.out.symm.trans HN.out) _ _ rfl _ (at_of s k3 hk3 _ rfl) _ rfl
          · exact (hb.setCell (p := ⟨w.heap.size, 0, none⟩) (Nat.le_refl _) _).setCell (p := ⟨w.heap.size, 1, none⟩) (Nat.le_refl _) _
        | false =>
          rw [h61] at h61i
          have HY := Lib.hid (show M.nextA (s.data.toList.drop k) = ((M.valueA (s.data.toList.drop (k3 + 1))).1.map (fun v => (M.fold nm, M.fold v)), (M.valueA (s.data.toList.drop (k3 + 1))).2) by rw [HX.out, hdc, M.afterA, if_pos (by simpa using h61i)])
          clear h61i hdc HX
          go_upto_block 6 with fail
          go_cut [1] from 113 to 124 (fun v wx => (∃ j : Nat, v = .int .i64 (j : Int) ∧ (k3 + 1) ≤ j ∧ j ≤ s.size ∧ s.data.toList.drop j = (s.data.toList.drop (k3 + 1)).dropWhile M.white) ∧ W = wx)
          case first =>
            go_wp2_with fail
            go_loop [1] (fun v => ∃ j : Nat, v = .int .i64 (j : Int) ∧ (k3 + 1) ≤ j ∧ j ≤ s.size ∧ Hid ((s.data.toList.drop j).dropWhile M.white = (s.data.toList.drop (k3 + 1)).dropWhile M.white)) (fun v => s.size - (intOf v).toNat)
            case atStart => exact ⟨(k3 + 1), by first | rfl | go_num, Nat.le_refl _, by omega, Lib.hid rfl⟩
            case round =>
              obtain ⟨j, rfl, hsj, hj, HJ⟩ := hrel
              by_cases hlt : j < s.size
              ·
                cases hw : M.white s[j] with
                | true =>
                  have hp : (M.white) s[j] = true := by simp [hw]
                  have HR := Lib.hid ((dw_go (M.white) s j hlt hp).trans HJ.out)
                  have HW := Lib.hid hw
                  clear hp hw
                  go_wp2_with (go_at_call 122; refine (isWhite_any _ _).mono ?_; rintro e w' ⟨rfl, rfl⟩; rw [HW.out])
                  go_round
                  case rel => exact ⟨j + 1, by go_num, by omega, by omega, HR⟩
                  case measure => simp [intOf]; omega
                | false =>
                  have hp : (M.white) s[j] = false := by simp [hw]
                  have HR := Lib.hid ((dw_stop (M.white) s j hlt hp).symm.trans HJ.out)
                  have HW := Lib.hid hw
                  clear hp hw
                  go_wp2_with (go_at_call 122; refine (isWhite_any _ _).mono ?_; rintro e w' ⟨rfl, rfl⟩; rw [HW.out])
                  go_meet
                  exact ⟨⟨j, rfl, hsj, hj, HR.out⟩, rfl⟩
              · obtain rfl : j = s.size := by omega
                have HR := Lib.hid (show s.data.toList.drop s.size = (s.data.toList.drop (k3 + 1)).dropWhile M.white by rw [← HJ.out, drop_end]; rfl)
                go_wp2_with fail
                go_meet
                exact ⟨⟨s.size, rfl, hsj, hj, HR.out⟩, rfl⟩
          case rest =>
          obtain ⟨⟨k4, rfl, hk34, hk4, hl4⟩, rfl⟩ := hcut
          by_cases hlt4 : k4 < s.size
          ·
            cases h34 : ((s[k4].toNat : Int) == 34) with
            | true =>
              have hqq := quote_34 _ h34
              have HQ := Lib.hid (show (s.data.toList.drop (k3 + 1)).dropWhile M.white = s[k4] :: s.data.toList.drop (k4 + 1) by rw [← hl4, drop_cons s k4 hlt4])
              have HV := Lib.hid (show M.valueA (s.data.toList.drop (k3 + 1)) = M.quotedA s[k4] (s.data.toList.drop (k4 + 1)) by rw [M.valueA, HQ.out]; simp only; rw [if_pos hqq])
              clear hl4 HQ hqq
              go_upto_block 8 with fail
              obtain ⟨q, hq⟩ : ∃ q, s[k4] = q := ⟨_, rfl⟩
              have HQQ := Lib.hid hq
              rw [hq] at HV
              try rw [hq]
              clear hq
              go_cut [1, 8] from 146 to 165 (fun v t wx => (∃ (j : Nat) (u : List UInt8), v = .int .i64 (j : Int) ∧ t = .string ⟨u.toArray⟩ ∧ (k4 + 1) ≤ j ∧ j ≤ s.size ∧ s.data.toList.drop j = (s.data.toList.drop (k4 + 1)).dropWhile (fun c => c != q) ∧ u = ([] : List UInt8) ++ (s.data.toList.drop (k4 + 1)).takeWhile (fun c => c != q)) ∧ W = wx)
              case first =>
                go_wp2_with fail
                go_loop [1, 8] (fun v t => ∃ (j : Nat) (u : List UInt8), v = .int .i64 (j : Int) ∧ t = .string ⟨u.toArray⟩ ∧ (k4 + 1) ≤ j ∧ j ≤ s.size ∧ u.length ≤ j ∧ Hid ((s.data.toList.drop j).dropWhile (fun c => c != q) = (s.data.toList.drop (k4 + 1)).dropWhile (fun c => c != q)) ∧ Hid (u ++ (s.data.toList.drop j).takeWhile (fun c => c != q) = ([] : List UInt8) ++ (s.data.toList.drop (k4 + 1)).takeWhile (fun c => c != q))) (fun v _ => s.size - (intOf v).toNat)
                case atStart => exact ⟨(k4 + 1), ([] : List UInt8), by first | rfl | go_num, by first | rfl | assumption, Nat.le_refl _, by omega, by simp; try omega, Lib.hid rfl, Lib.hid rfl⟩
                case round =>
                  obtain ⟨j, u, rfl, rfl, hsj, hj, hul, HJ, HU⟩ := hrel
                  by_cases hlt : j < s.size
                  ·
                    cases hq : ((s[j].toNat : Int) != (q.toNat : Int)) with
                    | true =>
                      have hp : ((fun c => c != q)) s[j] = true := by simp [not_int q, hq]
                      have HR := Lib.hid ((dw_go ((fun c => c != q)) s j hlt hp).trans HJ.out)
                      have HV := Lib.hid (show (u ++ [s[j]]) ++ (s.data.toList.drop (j + 1)).takeWhile (fun c => c != q) = ([] : List UInt8) ++ (s.data.toList.drop (k4 + 1)).takeWhile (fun c => c != q) by rw [← HU.out, tw_go ((fun c => c != q)) s j hlt hp, List.append_assoc]; rfl)
                      have HS := Lib.hid (one_str s u j hlt)
                      clear hp
                      go_wp2_with fail
                      go_round
                      case rel => exact ⟨j + 1, u ++ [s[j]], by go_num, by rw [← HS.out], by omega, by omega, by rw [List.length_append, List.length_singleton]; omega, HR, HV⟩
                      case measure => simp [intOf]; omega
                    | false =>
                      have hp : ((fun c => c != q)) s[j] = false := by simp [not_int q, hq]
                      have HR := Lib.hid ((dw_stop ((fun c => c != q)) s j hlt hp).symm.trans HJ.out)
                      have HV := Lib.hid (show u = ([] : List UInt8) ++ (s.data.toList.drop (k4 + 1)).takeWhile (fun c => c != q) by rw [← HU.out, tw_stop ((fun c => c != q)) s j hlt hp, List.append_nil])
                      clear hp
                      go_wp2_with fail
                      go_meet
                      exact ⟨⟨j, u, rfl, rfl, hsj, hj, HR.out, HV.out⟩, rfl⟩
                  · obtain rfl : j = s.size := by omega
                    have HR := Lib.hid (show s.data.toList.drop s.size = (s.data.toList.drop (k4 + 1)).dropWhile (fun c => c != q) by rw [← HJ.out, drop_end]; rfl)
                    have HV := Lib.hid (show u = ([] : List UInt8) ++ (s.data.toList.drop (k4 + 1)).takeWhile (fun c => c != q) by rw [← HU.out, drop_end]; simp)
                    go_wp2_with fail
                    go_meet
                    exact ⟨⟨s.size, u, rfl, rfl, hsj, hj, HR.out, HV.out⟩, rfl⟩
              case rest =>
              obtain ⟨⟨k5, vv, rfl, rfl, hk45, hk5, hl5, hvv⟩, rfl⟩ := hcut
              by_cases hlt5 : k5 < s.size
              ·
                have hne5 : ((k5 : Int) == (s.size : Int)) = false := by simp; omega
                have hq5 : (s.data.toList.drop (k4 + 1)).dropWhile (fun c => c != q) = s[k5] :: s.data.toList.drop (k5 + 1) := by rw [← hl5, drop_cons s k5 hlt5]
                have HZ := Lib.hid (show M.nextA (s.data.toList.drop k) = (some (M.fold nm, M.fold vv), s.data.toList.drop (k5 + 1)) by rw [HY.out, HV.out, M.quotedA, hq5]; simp only; rw [hvv]; rfl)
                clear HY HV hl5 hq5
                have hvl : (vv).length ≤ s.size := by rw [hvv]; have h9 := (List.takeWhile_prefix (fun c => c != q) (l := s.data.toList.drop (k4 + 1))).length_le; rw [List.length_drop, ← Lib.size_eq] at h9; rw [List.nil_append]; omega
                clear hvv
                have cy0 := hy.cell 0 _ rfl
                have cy1 := hy.cell 1 _ rfl
                have fy0 := hy.frozen 0
                have fy1 := hy.frozen 1
                go_wp2_with fail
                refine (foldOf_any ⟨nm.toArray⟩ _ (by rw [size_str]; omega)).mono ?_
                rintro e W2 ⟨rfl, hbb⟩
                have hy := hy.bel hbb
                have hb := hb.trans hbb
                clear cy0 cy1 fy0 fy1 hbb
                go_wp2_with fail
                refine (foldOf_any ⟨(vv).toArray⟩ _ (by rw [size_str]; omega)).mono ?_
                rintro e W3 ⟨rfl, hbb⟩
                have hy := hy.bel hbb
                have hb := hb.trans hbb
                have cy0 := hy.cell 0 _ rfl
                have cy1 := hy.cell 1 _ rfl
                have fy0 := hy.frozen 0
                have fy1 := hy.frozen 1
                go_wp2_with fail
                have hz := (hy.set 0 (.string ⟨(M.fold nm).toArray⟩)).set 1 (.string ⟨(M.fold vv).toArray⟩)
                have d0 := hz.cell 0 _ rfl
                have d1 := hz.cell 1 _ rfl
                refine bodyPost_ret (v := .tuple #[.agg #[.string ⟨(M.fold nm).toArray⟩, .string ⟨(M.fold vv).toArray⟩], .int .i64 ((k5 + 1 : Nat) : Int), .bool true]) (by simp [results, Tryz.results150, go_sem, d0, d1]) rfl ⟨?_, ?_⟩
                · exact fin_attr s.size o r _ _ (HZ.out.symm.trans HN.out) _ _ rfl _ (at_of s (k5 + 1) (by omega) _ rfl) _ rfl
                · exact (hb.setCell (p := ⟨w.heap.size, 0, none⟩) (Nat.le_refl _) _).setCell (p := ⟨w.heap.size, 1, none⟩) (Nat.le_refl _) _
              · obtain rfl : k5 = s.size := by omega
                have HZ := Lib.hid (show M.nextA (s.data.toList.drop k) = (none, []) by rw [HY.out, HV.out, M.quotedA, ← hl5, drop_end]; rfl)
                clear HY HV hl5 hvv
                have cy0 := hy.cell 0 _ rfl
                have cy1 := hy.cell 1 _ rfl
                have fy0 := hy.frozen 0
                have fy1 := hy.frozen 1
                go_wp2_with fail
                have hz := (hy.set 0 (.string ⟨#[]⟩)).set 1 (.string ⟨#[]⟩)
                have d0 := hz.cell 0 _ rfl
                have d1 := hz.cell 1 _ rfl
                refine bodyPost_ret (v := .tuple #[.agg #[.string ⟨#[]⟩, .string ⟨#[]⟩], .int .i64 ((s.size : Nat) : Int), .bool false]) (by simp [results, Tryz.results150, go_sem, d0, d1]) rfl ⟨?_, ?_⟩
                · exact fin_attr s.size o r _ _ (HZ.out.symm.trans HN.out) _ _ rfl _ (by simp) _ rfl
                · exact (hb.setCell (p := ⟨w.heap.size, 0, none⟩) (Nat.le_refl _) _).setCell (p := ⟨w.heap.size, 1, none⟩) (Nat.le_refl _) _
            | false =>
              cases h39 : ((s[k4].toNat : Int) == 39) with
              | true =>
                have hqq := quote_39 _ h39
                have HQ := Lib.hid (show (s.data.toList.drop (k3 + 1)).dropWhile M.white = s[k4] :: s.data.toList.drop (k4 + 1) by rw [← hl4, drop_cons s k4 hlt4])
                have HV := Lib.hid (show M.valueA (s.data.toList.drop (k3 + 1)) = M.quotedA s[k4] (s.data.toList.drop (k4 + 1)) by rw [M.valueA, HQ.out]; simp only; rw [if_pos hqq])
                clear hl4 HQ hqq
                go_upto_block 8 with fail
                obtain ⟨q, hq⟩ : ∃ q, s[k4] = q := ⟨_, rfl⟩
                have HQQ := Lib.hid hq
                rw [hq] at HV
                try rw [hq]
                clear hq
                go_cut [1, 8] from 146 to 165 (fun v t wx => (∃ (j : Nat) (u : List UInt8), v = .int .i64 (j : Int) ∧ t = .string ⟨u.toArray⟩ ∧ (k4 + 1) ≤ j ∧ j ≤ s.size ∧ s.data.toList.drop j = (s.data.toList.drop (k4 + 1)).dropWhile (fun c => c != q) ∧ u = ([] : List UInt8) ++ (s.data.toList.drop (k4 + 1)).takeWhile (fun c => c != q)) ∧ W = wx)
                case first =>
                  go_wp2_with fail
                  go_loop [1, 8] (fun v t => ∃ (j : Nat) (u : List UInt8), v = .int .i64 (j : Int) ∧ t = .string ⟨u.toArray⟩ ∧ (k4 + 1) ≤ j ∧ j ≤ s.size ∧ u.length ≤ j ∧ Hid ((s.data.toList.drop j).dropWhile (fun c => c != q) = (s.data.toList.drop (k4 + 1)).dropWhile (fun c => c != q)) ∧ Hid (u ++ (s.data.toList.drop j).takeWhile (fun c => c != q) = ([] : List UInt8) ++ (s.data.toList.drop (k4 + 1)).takeWhile (fun c => c != q))) (fun v _ => s.size - (intOf v).toNat)
                  case atStart => exact ⟨(k4 + 1), ([] : List UInt8), by first | rfl | go_num, by first | rfl | assumption, Nat.le_refl _, by omega, by simp; try omega, Lib.hid rfl, Lib.hid rfl⟩
                  case round =>
                    obtain ⟨j, u, rfl, rfl, hsj, hj, hul, HJ, HU⟩ := hrel
                    by_cases hlt : j < s.size
                    ·
                      cases hq : ((s[j].toNat : Int) != (q.toNat : Int)) with
                      | true =>
                        have hp : ((fun c => c != q)) s[j] = true := by simp [not_int q, hq]
                        have HR := Lib.hid ((dw_go ((fun c => c != q)) s j hlt hp).trans HJ.out)
                        have HV := Lib.hid (show (u ++ [s[j]]) ++ (s.data.toList.drop (j + 1)).takeWhile (fun c => c != q) = ([] : List UInt8) ++ (s.data.toList.drop (k4 + 1)).takeWhile (fun c => c != q) by rw [← HU.out, tw_go ((fun c => c != q)) s j hlt hp, List.append_assoc]; rfl)
                        have HS := Lib.hid (one_str s u j hlt)
                        clear hp
                        go_wp2_with fail
                        go_round
                        case rel => exact ⟨j + 1, u ++ [s[j]], by go_num, by rw [← HS.out], by omega, by omega, by rw [List.length_append, List.length_singleton]; omega, HR, HV⟩
                        case measure => simp [intOf]; omega
                      | false =>
                        have hp : ((fun c => c != q)) s[j] = false := by simp [not_int q, hq]
                        have HR := Lib.hid ((dw_stop ((fun c => c != q)) s j hlt hp).symm.trans HJ.out)
                        have HV := Lib.hid (show u = ([] : List UInt8) ++ (s.data.toList.drop (k4 + 1)).takeWhile (fun c => c != q) by rw [← HU.out, tw_stop ((fun c => c != q)) s j hlt hp, List.append_nil])
                        clear hp
                        go_wp2_with fail
                        go_meet
                        exact ⟨⟨j, u, rfl, rfl, hsj, hj, HR.out, HV.out⟩, rfl⟩
                    · obtain rfl : j = s.size := by omega
                      have HR := Lib.hid (show s.data.toList.drop s.size = (s.data.toList.drop (k4 + 1)).dropWhile (fun c => c != q) by rw [← HJ.out, drop_end]; rfl)
                      have HV := Lib.hid (show u = ([] : List UInt8) ++ (s.data.toList.drop (k4 + 1)).takeWhile (fun c => c != q) by rw [← HU.out, drop_end]; simp)
                      go_wp2_with fail
                      go_meet
                      exact ⟨⟨s.size, u, rfl, rfl, hsj, hj, HR.out, HV.out⟩, rfl⟩
                case rest =>
                obtain ⟨⟨k5, vv, rfl, rfl, hk45, hk5, hl5, hvv⟩, rfl⟩ := hcut
                by_cases hlt5 : k5 < s.size
                ·
                  have hne5 : ((k5 : Int) == (s.size : Int)) = false := by simp; omega
                  have hq5 : (s.data.toList.drop (k4 + 1)).dropWhile (fun c => c != q) = s[k5] :: s.data.toList.drop (k5 + 1) := by rw [← hl5, drop_cons s k5 hlt5]
                  have HZ := Lib.hid (show M.nextA (s.data.toList.drop k) = (some (M.fold nm, M.fold vv), s.data.toList.drop (k5 + 1)) by rw [HY.out, HV.out, M.quotedA, hq5]; simp only; rw [hvv]; rfl)
                  clear HY HV hl5 hq5
                  have hvl : (vv).length ≤ s.size := by rw [hvv]; have h9 := (List.takeWhile_prefix (fun c => c != q) (l := s.data.toList.drop (k4 + 1))).length_le; rw [List.length_drop, ← Lib.size_eq] at h9; rw [List.nil_append]; omega
                  clear hvv
                  have cy0 := hy.cell 0 _ rfl
                  have cy1 := hy.cell 1 _ rfl
                  have fy0 := hy.frozen 0
                  have fy1 := hy.frozen 1
                  go_wp2_with fail
                  refine (foldOf_any ⟨nm.toArray⟩ _ (by rw [size_str]; omega)).mono ?_
                  rintro e W2 ⟨rfl, hbb⟩
                  have hy := hy.bel hbb
                  have hb := hb.trans hbb
                  clear cy0 cy1 fy0 fy1 hbb
                  go_wp2_with fail
                  refine (foldOf_any ⟨(vv).toArray⟩ _ (by rw [size_str]; omega)).mono ?_
                  rintro e W3 ⟨rfl, hbb⟩
                  have hy := hy.bel hbb
                  have hb := hb.trans hbb
                  have cy0 := hy.cell 0 _ rfl
                  have cy1 := hy.cell 1 _ rfl
                  have fy0 := hy.frozen 0
                  have fy1 := hy.frozen 1
                  go_wp2_with fail
                  have hz := (hy.set 0 (.string ⟨(M.fold nm).toArray⟩)).set 1 (.string ⟨(M.fold vv).toArray⟩)
                  have d0 := hz.cell 0 _ rfl
                  have d1 := hz.cell 1 _ rfl
                  refine bodyPost_ret (v := .tuple #[.agg #[.string ⟨(M.fold nm).toArray⟩, .string ⟨(M.fold vv).toArray⟩], .int .i64 ((k5 + 1 : Nat) : Int), .bool true]) (by simp [results, Tryz.results150, go_sem, d0, d1]) rfl ⟨?_, ?_⟩
                  · exact fin_attr s.size o r _ _ (HZ.out.symm.trans HN.out) _ _ rfl _ (at_of s (k5 + 1) (by omega) _ rfl) _ rfl
                  · exact (hb.setCell (p := ⟨w.heap.size, 0, none⟩) (Nat.le_refl _) _).setCell (p := ⟨w.heap.size, 1, none⟩) (Nat.le_refl _) _
                · obtain rfl : k5 = s.size := by omega
                  have HZ := Lib.hid (show M.nextA (s.data.toList.drop k) = (none, []) by rw [HY.out, HV.out, M.quotedA, ← hl5, drop_end]; rfl)
                  clear HY HV hl5 hvv
                  have cy0 := hy.cell 0 _ rfl
                  have cy1 := hy.cell 1 _ rfl
                  have fy0 := hy.frozen 0
                  have fy1 := hy.frozen 1
                  go_wp2_with fail
                  have hz := (hy.set 0 (.string ⟨#[]⟩)).set 1 (.string ⟨#[]⟩)
                  have d0 := hz.cell 0 _ rfl
                  have d1 := hz.cell 1 _ rfl
                  refine bodyPost_ret (v := .tuple #[.agg #[.string ⟨#[]⟩, .string ⟨#[]⟩], .int .i64 ((s.size : Nat) : Int), .bool false]) (by simp [results, Tryz.results150, go_sem, d0, d1]) rfl ⟨?_, ?_⟩
                  · exact fin_attr s.size o r _ _ (HZ.out.symm.trans HN.out) _ _ rfl _ (by simp) _ rfl
                  · exact (hb.setCell (p := ⟨w.heap.size, 0, none⟩) (Nat.le_refl _) _).setCell (p := ⟨w.heap.size, 1, none⟩) (Nat.le_refl _) _
              | false =>
                have hqq := quote_no _ h34 h39
                have HV := Lib.hid (show M.valueA (s.data.toList.drop (k3 + 1)) = (some ((s.data.toList.drop k4).takeWhile M.valB), (s.data.toList.drop k4).dropWhile M.valB) by rw [M.valueA, ← hl4, drop_cons s k4 hlt4]; simp only; rw [if_neg hqq])
                clear hqq hl4
                go_upto_block 10 with fail
                go_cut [1, 8] from 174 to 199 (fun v t wx => (∃ (j : Nat) (u : List UInt8), v = .int .i64 (j : Int) ∧ t = .string ⟨u.toArray⟩ ∧ k4 ≤ j ∧ j ≤ s.size ∧ s.data.toList.drop j = (s.data.toList.drop k4).dropWhile M.valB ∧ u = ([] : List UInt8) ++ (s.data.toList.drop k4).takeWhile M.valB) ∧ W = wx)
                case first =>
                  go_wp2_with fail
                  go_loop [1, 8] (fun v t => ∃ (j : Nat) (u : List UInt8), v = .int .i64 (j : Int) ∧ t = .string ⟨u.toArray⟩ ∧ k4 ≤ j ∧ j ≤ s.size ∧ u.length ≤ j ∧ Hid ((s.data.toList.drop j).dropWhile M.valB = (s.data.toList.drop k4).dropWhile M.valB) ∧ Hid (u ++ (s.data.toList.drop j).takeWhile M.valB = ([] : List UInt8) ++ (s.data.toList.drop k4).takeWhile M.valB)) (fun v _ => s.size - (intOf v).toNat)
                  case atStart => exact ⟨k4, ([] : List UInt8), by first | rfl | go_num, by first | rfl | assumption, Nat.le_refl _, by omega, by simp; try omega, Lib.hid rfl, Lib.hid rfl⟩
                  case round =>
                    obtain ⟨j, u, rfl, rfl, hsj, hj, hul, HJ, HU⟩ := hrel
                    by_cases hlt : j < s.size
                    ·
                      cases h62 : ((s[j].toNat : Int) != 62) with
                      | true =>
                        cases hw : M.white s[j] with
                        | true =>
                          have hp : (M.valB) s[j] = false := by simp [val_int, h62, hw]
                          have HR := Lib.hid ((dw_stop (M.valB) s j hlt hp).symm.trans HJ.out)
                          have HV := Lib.hid (show u = ([] : List UInt8) ++ (s.data.toList.drop k4).takeWhile M.valB by rw [← HU.out, tw_stop (M.valB) s j hlt hp, List.append_nil])
                          have HW := Lib.hid hw
                          clear hp hw
                          go_wp2_with (go_at_call 122; refine (isWhite_any _ _).mono ?_; rintro e w' ⟨rfl, rfl⟩; rw [HW.out])
                          go_meet
                          exact ⟨⟨j, u, rfl, rfl, hsj, hj, HR.out, HV.out⟩, rfl⟩
                        | false =>
                          have hp : (M.valB) s[j] = true := by simp [val_int, h62, hw]
                          have HR := Lib.hid ((dw_go (M.valB) s j hlt hp).trans HJ.out)
                          have HV := Lib.hid (show (u ++ [s[j]]) ++ (s.data.toList.drop (j + 1)).takeWhile M.valB = ([] : List UInt8) ++ (s.data.toList.drop k4).takeWhile M.valB by rw [← HU.out, tw_go (M.valB) s j hlt hp, List.append_assoc]; rfl)
                          have HS := Lib.hid (one_str s u j hlt)
                          have HW := Lib.hid hw
                          clear hp hw
                          go_wp2_with (go_at_call 122; refine (isWhite_any _ _).mono ?_; rintro e w' ⟨rfl, rfl⟩; rw [HW.out])
                          go_round
                          case rel => exact ⟨j + 1, u ++ [s[j]], by go_num, by rw [← HS.out], by omega, by omega, by rw [List.length_append, List.length_singleton]; omega, HR, HV⟩
                          case measure => simp [intOf]; omega
                      | false =>
                        have hp : (M.valB) s[j] = false := by simp [val_int, h62]
                        have HR := Lib.hid ((dw_stop (M.valB) s j hlt hp).symm.trans HJ.out)
                        have HV := Lib.hid (show u = ([] : List UInt8) ++ (s.data.toList.drop k4).takeWhile M.valB by rw [← HU.out, tw_stop (M.valB) s j hlt hp, List.append_nil])
                        clear hp
                        go_wp2_with fail
                        go_meet
                        exact ⟨⟨j, u, rfl, rfl, hsj, hj, HR.out, HV.out⟩, rfl⟩
                    · obtain rfl : j = s.size := by omega
                      have HR := Lib.hid (show s.data.toList.drop s.size = (s.data.toList.drop k4).dropWhile M.valB by rw [← HJ.out, drop_end]; rfl)
                      have HV := Lib.hid (show u = ([] : List UInt8) ++ (s.data.toList.drop k4).takeWhile M.valB by rw [← HU.out, drop_end]; simp)
                      go_wp2_with fail
                      go_meet
                      exact ⟨⟨s.size, u, rfl, rfl, hsj, hj, HR.out, HV.out⟩, rfl⟩
                case rest =>
                obtain ⟨⟨k6, vv, rfl, rfl, hk46, hk6, hl6, hvv⟩, rfl⟩ := hcut
                have HZ := Lib.hid (show M.nextA (s.data.toList.drop k) = (some (M.fold nm, M.fold vv), s.data.toList.drop k6) by rw [HY.out, HV.out, hl6, hvv]; rfl)
                clear HY HV hl6
                have hvl : (vv).length ≤ s.size := by rw [hvv]; have h9 := (List.takeWhile_prefix M.valB (l := s.data.toList.drop k4)).length_le; rw [List.length_drop, ← Lib.size_eq] at h9; rw [List.nil_append]; omega
                clear hvv
                have cy0 := hy.cell 0 _ rfl
                have cy1 := hy.cell 1 _ rfl
                have fy0 := hy.frozen 0
                have fy1 := hy.frozen 1
                go_wp2_with fail
                refine (foldOf_any ⟨nm.toArray⟩ _ (by rw [size_str]; omega)).mono ?_
                rintro e W2 ⟨rfl, hbb⟩
                have hy := hy.bel hbb
                have hb := hb.trans hbb
                clear cy0 cy1 fy0 fy1 hbb
                go_wp2_with fail
                refine (foldOf_any ⟨(vv).toArray⟩ _ (by rw [size_str]; omega)).mono ?_
                rintro e W3 ⟨rfl, hbb⟩
                have hy := hy.bel hbb
                have hb := hb.trans hbb
                have cy0 := hy.cell 0 _ rfl
                have cy1 := hy.cell 1 _ rfl
                have fy0 := hy.frozen 0
                have fy1 := hy.frozen 1
                go_wp2_with fail
                have hz := (hy.set 0 (.string ⟨(M.fold nm).toArray⟩)).set 1 (.string ⟨(M.fold vv).toArray⟩)
                have d0 := hz.cell 0 _ rfl
                have d1 := hz.cell 1 _ rfl
                refine bodyPost_ret (v := .tuple #[.agg #[.string ⟨(M.fold nm).toArray⟩, .string ⟨(M.fold vv).toArray⟩], .int .i64 ((k6 : Nat) : Int), .bool true]) (by simp [results, Tryz.results150, go_sem, d0, d1]) rfl ⟨?_, ?_⟩
                · exact fin_attr s.size o r _ _ (HZ.out.symm.trans HN.out) _ _ rfl _ (at_of s k6 hk6 _ rfl) _ rfl
                · exact (hb.setCell (p := ⟨w.heap.size, 0, none⟩) (Nat.le_refl _) _).setCell (p := ⟨w.heap.size, 1, none⟩) (Nat.le_refl _) _
          · obtain rfl : k4 = s.size := by omega
            have HV := Lib.hid (show M.valueA (s.data.toList.drop (k3 + 1)) = (some ((s.data.toList.drop s.size).takeWhile M.valB), (s.data.toList.drop s.size).dropWhile M.valB) by rw [M.valueA, ← hl4, drop_end]; rfl)
            have HE := Lib.hid hl4
            clear hl4
            go_upto_block 10 with fail
            go_cut [1, 8] from 174 to 199 (fun v t wx => (∃ (j : Nat) (u : List UInt8), v = .int .i64 (j : Int) ∧ t = .string ⟨u.toArray⟩ ∧ s.size ≤ j ∧ j ≤ s.size ∧ s.data.toList.drop j = (s.data.toList.drop s.size).dropWhile M.valB ∧ u = ([] : List UInt8) ++ (s.data.toList.drop s.size).takeWhile M.valB) ∧ W = wx)
            case first =>
              go_wp2_with fail
              go_loop [1, 8] (fun v t => ∃ (j : Nat) (u : List UInt8), v = .int .i64 (j : Int) ∧ t = .string ⟨u.toArray⟩ ∧ s.size ≤ j ∧ j ≤ s.size ∧ u.length ≤ j ∧ Hid ((s.data.toList.drop j).dropWhile M.valB = (s.data.toList.drop s.size).dropWhile M.valB) ∧ Hid (u ++ (s.data.toList.drop j).takeWhile M.valB = ([] : List UInt8) ++ (s.data.toList.drop s.size).takeWhile M.valB)) (fun v _ => s.size - (intOf v).toNat)
              case atStart => exact ⟨s.size, ([] : List UInt8), by first | rfl | go_num, by first | rfl | assumption, Nat.le_refl _, by omega, by simp; try omega, Lib.hid rfl, Lib.hid rfl⟩
              case round =>
                obtain ⟨j, u, rfl, rfl, hsj, hj, hul, HJ, HU⟩ := hrel
                by_cases hlt : j < s.size
                ·
                  exfalso
                  omega
                · obtain rfl : j = s.size := by omega
                  have HR := Lib.hid (show s.data.toList.drop s.size = (s.data.toList.drop s.size).dropWhile M.valB by rw [← HJ.out, drop_end]; rfl)
                  have HV := Lib.hid (show u = ([] : List UInt8) ++ (s.data.toList.drop s.size).takeWhile M.valB by rw [← HU.out, drop_end]; simp)
                  go_wp2_with fail
                  go_meet
                  exact ⟨⟨s.size, u, rfl, rfl, hsj, hj, HR.out, HV.out⟩, rfl⟩
            case rest =>
            obtain ⟨⟨k6, vv, rfl, rfl, hk46, hk6, hl6, hvv⟩, rfl⟩ := hcut
            have HZ := Lib.hid (show M.nextA (s.data.toList.drop k) = (some (M.fold nm, M.fold vv), s.data.toList.drop k6) by rw [HY.out, HV.out, hl6, hvv]; rfl)
            clear HY HV hl6
            have hvl : (vv).length ≤ s.size := by rw [hvv, drop_end]; exact Nat.zero_le _
            clear hvv
            have cy0 := hy.cell 0 _ rfl
            have cy1 := hy.cell 1 _ rfl
            have fy0 := hy.frozen 0
            have fy1 := hy.frozen 1
            go_wp2_with fail
            refine (foldOf_any ⟨nm.toArray⟩ _ (by rw [size_str]; omega)).mono ?_
            rintro e W2 ⟨rfl, hbb⟩
            have hy := hy.bel hbb
            have hb := hb.trans hbb
            clear cy0 cy1 fy0 fy1 hbb
            go_wp2_with fail
            refine (foldOf_any ⟨(vv).toArray⟩ _ (by rw [size_str]; omega)).mono ?_
            rintro e W3 ⟨rfl, hbb⟩
            have hy := hy.bel hbb
            have hb := hb.trans hbb
            have cy0 := hy.cell 0 _ rfl
            have cy1 := hy.cell 1 _ rfl
            have fy0 := hy.frozen 0
            have fy1 := hy.frozen 1
            go_wp2_with fail
            have hz := (hy.set 0 (.string ⟨(M.fold nm).toArray⟩)).set 1 (.string ⟨(M.fold vv).toArray⟩)
            have d0 := hz.cell 0 _ rfl
            have d1 := hz.cell 1 _ rfl
            refine bodyPost_ret (v := .tuple #[.agg #[.string ⟨(M.fold nm).toArray⟩, .string ⟨(M.fold vv).toArray⟩], .int .i64 ((k6 : Nat) : Int), .bool true]) (by simp [results, Tryz.results150, go_sem, d0, d1]) rfl ⟨?_, ?_⟩
            · exact fin_attr s.size o r _ _ (HZ.out.symm.trans HN.out) _ _ rfl _ (at_of s k6 hk6 _ rfl) _ rfl
            · exact (hb.setCell (p := ⟨w.heap.size, 0, none⟩) (Nat.le_refl _) _).setCell (p := ⟨w.heap.size, 1, none⟩) (Nat.le_refl _) _
      · obtain rfl : k3 = s.size := by omega
        have HY := Lib.hid (show M.nextA (s.data.toList.drop k) = (some (M.fold nm, []), s.data.toList.drop s.size) by rw [HX.out, drop_end]; rfl)
        have cy0 := hy.cell 0 _ rfl
        have cy1 := hy.cell 1 _ rfl
        have fy0 := hy.frozen 0
        have fy1 := hy.frozen 1
        go_wp2_with fail
        refine (foldOf_any ⟨nm.toArray⟩ _ (by rw [size_str]; omega)).mono ?_
        rintro e W2 ⟨rfl, hbb⟩
        have hy := hy.bel hbb
        have hb := hb.trans hbb
        clear cy0 cy1 fy0 fy1 hbb
        have cy0 := hy.cell 0 _ rfl
        have cy1 := hy.cell 1 _ rfl
        have fy0 := hy.frozen 0
        have fy1 := hy.frozen 1
        go_wp2_with fail
        have hz := (hy.set 0 (.string ⟨(M.fold nm).toArray⟩)).set 1 (.string ⟨#[]⟩)
        have d0 := hz.cell 0 _ rfl
        have d1 := hz.cell 1 _ rfl
        refine bodyPost_ret (v := .tuple #[.agg #[.string ⟨(M.fold nm).toArray⟩, .string ⟨#[]⟩], .int .i64 ((s.size : Nat) : Int), .bool true]) (by simp [results, Tryz.results150, go_sem, d0, d1]) rfl ⟨?_, ?_⟩
        · exact fin_attr s.size o r _ _ (HY.out.symm.trans HN.out) _ _ rfl _ (by rw [drop_end]; simp) _ rfl
        · exact (hb.setCell (p := ⟨w.heap.size, 0, none⟩) (Nat.le_refl _) _).setCell (p := ⟨w.heap.size, 1, none⟩) (Nat.le_refl _) _
  · obtain rfl : k1 = s.size := by omega
    have HX := Lib.hid (show M.nextA (s.data.toList.drop k) = (none, []) by rw [M.nextA, ← hl1, drop_end])
    have cy0 := hy.cell 0 _ rfl
    have cy1 := hy.cell 1 _ rfl
    have fy0 := hy.frozen 0
    have fy1 := hy.frozen 1
    go_wp2_with fail
    have hz := (hy.set 0 (.string ⟨#[]⟩)).set 1 (.string ⟨#[]⟩)
    have d0 := hz.cell 0 _ rfl
    have d1 := hz.cell 1 _ rfl
    refine bodyPost_ret (v := .tuple #[.agg #[.string ⟨#[]⟩, .string ⟨#[]⟩], .int .i64 ((s.size : Nat) : Int), .bool false]) (by simp [results, Tryz.results150, go_sem, d0, d1]) rfl ⟨?_, ?_⟩
    · exact fin_attr s.size o r _ _ (HX.out.symm.trans HN.out) _ _ rfl _ (by simp) _ rfl
    · exact (hb.setCell (p := ⟨w.heap.size, 0, none⟩) (Nat.le_refl _) _).setCell (p := ⟨w.heap.size, 1, none⟩) (Nat.le_refl _) _
end Go.Proofs.YteingkjdemlhgaaGreatDoor

/-
  The document's answers on attributes: beginsAt, AttrsAt.
-/
namespace Go.Proofs.YteingkjdemlhgaaGreatDoor
open Go.RowKit
set_option maxRecDepth 1000000
theorem prefix_take (l p : List UInt8) (h : p.length ≤ l.length) : Lib.hasPrefix l p = (l.take p.length == p) := by
  have := Lib.occAt_iff_take l p 0 (by omega)
  rw [List.drop_zero] at this
  rw [← this]
  rfl
theorem prefix_short (l p : List UInt8) (h : l.length < p.length) : Lib.hasPrefix l p = false := by
  cases hp : Lib.hasPrefix l p with
  | false => rfl
  | true =>
    have h1 : Lib.occAt l p 0 = true := hp
    rcases Lib.occAt_room h1 with h2 | h2
    · omega
    · rw [h2] at h; simp at h
theorem beginsAt_any (s wd : ByteArray) (k : Nat) (hk : k ≤ s.size) (hs : s.size ≤ 3000) (w : World) : Calls Tryz.prog 121 #[.string s, .int .i64 (k : Int), .string wd] w fun e w' => e = .returned (.bool (Lib.hasPrefix (M.fold (s.data.toList.drop k)) wd.data.toList)) ∧ Bel w w' := by
  have hll : (M.fold (s.data.toList.drop k)).length = s.size - k := by rw [M.fold_len, List.length_drop, ← Lib.size_eq]
  by_cases h : wd.size ≤ s.size - k
  · have HB := Lib.hid (show Lib.hasPrefix (M.fold (s.data.toList.drop k)) wd.data.toList = (M.fold (List.take wd.size (List.drop k s.data.toList)) == wd.toList) by
      rw [prefix_take _ _ (by rw [hll, ← Lib.size_eq]; exact h), Lib.toList_data, ← Lib.size_eq]
      unfold M.fold
      rw [List.map_take])
    have hes : (s.extract k (k + wd.size)).size ≤ 68719476735 := by rw [cut_str, size_str, List.length_take, List.length_drop, ← Lib.size_eq]; omega
    have hge : (wd.size : Int) ≤ (s.size : Int) - (k : Int) := by omega
    clear hll
    go_enter Tryz.func121, Tryz.ntmps121
    go_wp2_with (go_at_call 118; refine (foldOf_any _ _ hes).mono ?_; rintro e w' ⟨rfl, hb⟩)
    go_ret
    exact ⟨by rw [HB.out]; rfl, hb⟩
  · have HB := Lib.hid (show Lib.hasPrefix (M.fold (s.data.toList.drop k)) wd.data.toList = false from prefix_short _ _ (by rw [hll, ← Lib.size_eq]; omega))
    have hge : ¬ (wd.size : Int) ≤ (s.size : Int) - (k : Int) := by omega
    clear hll
    go_enter Tryz.func121, Tryz.ntmps121
    go_wp2_with fail
    go_ret
    exact ⟨by rw [HB.out]; rfl, Bel.refl _⟩
set_option maxHeartbeats 2000000 in
theorem attrsAt_any (s : ByteArray) (k : Nat) (hk : k ≤ s.size) (hs : s.size ≤ 3000) (xs : List (List UInt8 × List UInt8)) (r : List UInt8) (hn : M.attrsA (s.data.toList.drop k) = (xs, r)) (w : World) : Calls Tryz.prog 123 #[.string s, .int .i64 (k : Int)] w fun e w' => ∃ v, e = .returned (.tuple #[v, .int .i64 ((s.size - r.length : Nat) : Int)]) ∧ OwnA w.heap.size w' v xs ∧ Bel w w' := by
  have HN := Lib.hid hn
  clear hn
  go_enter Tryz.func123, Tryz.ntmps123
  go_wp2_with fail
  go_loopg [1, 6] (s.size + 1) (fun gg at_ v wr => ∃ (j : Nat) (ys : List (List UInt8 × List UInt8)), at_ = .int .i64 (j : Int) ∧ j ≤ s.size ∧ s.size - j ≤ gg ∧ OwnA w.heap.size wr v ys ∧ ys.length + (s.size - j) ≤ s.size ∧ Bel w wr ∧ Hid ((xs, r) = (ys ++ (M.attrsA (s.data.toList.drop j)).1, (M.attrsA (s.data.toList.drop j)).2)))
  case atStart => exact ⟨k, [], rfl, hk, by omega, OwnA.nil _ _, by simp, Bel.refl _, Lib.hid (by rw [HN.out]; rfl)⟩
  case round =>
    clear hk
    obtain ⟨j, ys, rfl, hj, hg, hown, hyl, hb, HJ⟩ := hrel
    cases hn : M.nextA (s.data.toList.drop j) with
    | mk o r2 =>
      have nx := attrAt_any s j hj hs o r2 hn wr
      have hsuf := M.nextA_suf (s.data.toList.drop j)
      rw [hn] at hsuf
      have hsuf2 := M.Suf.trans (a := r2) hsuf (M.Suf.drop s.data.toList j)
      have hrl2 := hsuf2.len
      rw [← Lib.size_eq] at hrl2
      have hd2 : s.data.toList.drop (s.size - r2.length) = r2 := by
        have h9 := hsuf2.at
        rw [← Lib.size_eq] at h9
        exact h9.symm
      obtain ⟨k2, hk2⟩ : ∃ k2, s.size - r2.length = k2 := ⟨_, rfl⟩
      rw [hk2] at nx hd2
      clear hsuf hsuf2
      cases o with
      | none =>
        have HA := Lib.hid (M.attrsA_none _ _ hn)
        have HR := Lib.hid (show (xs, r) = (ys, r2) by have := HJ.out; rw [HA.out] at this; simpa using this)
        have HK := Lib.hid hk2
        clear hn hk2 hd2
        rw [show agA none = .agg #[.string ⟨#[]⟩, .string ⟨#[]⟩] from rfl, show (none : Option (List UInt8 × List UInt8)).isSome = false from rfl] at nx
        go_wp2_with fail
        refine nx.mono ?_
        rintro e W1 ⟨rfl, hb1⟩
        have hown1 := hown.bel hb1
        have hb2 := hb.trans hb1
        clear nx hown
        go_wp2_with fail
        go_ret2
        have h3 := HR.out
        injection h3 with h3 h4
        subst h3; subst h4
        rw [HK.out]
        exact ⟨_, rfl, hown1.bel ((Bel.refl W1).alloc _), hb2.alloc _⟩
      | some p =>
        have HA := Lib.hid (M.attrsA_some _ _ _ hn)
        have hless := M.nextA_less _ _ (by rw [hn])
        rw [hn] at hless
        have hless2 : r2.length < (s.data.toList.drop j).length := hless
        rw [List.length_drop, ← Lib.size_eq] at hless2
        have HR := Lib.hid (show (xs, r) = (ys ++ [p] ++ (M.attrsA (s.data.toList.drop k2)).1, (M.attrsA (s.data.toList.drop k2)).2) by
          have := HJ.out
          rw [HA.out] at this
          rw [hd2, this]; simp)
        have hk2l : k2 ≤ s.size := by omega
        have hk2g : s.size - k2 < s.size - j := by omega
        clear hn hless hk2 hd2 hless2 hrl2 HJ
        rw [show agA (some p) = .agg #[.string ⟨p.1.toArray⟩, .string ⟨p.2.toArray⟩] from rfl, show (some p).isSome = true from rfl] at nx
        go_wp2_with fail
        refine nx.mono ?_
        rintro e W1 ⟨rfl, hb1⟩
        have hown1 := hown.bel hb1
        have hb2 := hb.trans hb1
        clear nx hown
        have hbb : Bel W1 (W1.alloc (.cells #[.string ⟨p.1.toArray⟩, .string ⟨p.2.toArray⟩] 56)) := (Bel.refl W1).alloc _
        have hsz : (W1.alloc (.cells #[.string ⟨p.1.toArray⟩, .string ⟨p.2.toArray⟩] 56)).heap.size = W1.heap.size + 1 := World.size_alloc _ _
        have hown2 := hown1.bel hbb
        have hbs := hb2.size
        go_wp2_with (at_builtin; refine wpList_appA (.tmp 22) (.tmp 24) rfl w.heap.size _ ys p hown2 (by omega) (by rw [hsz]; omega) rfl (by rw [hsz]; rfl) rfl ?_; intro v' w5 hown5 hb5 hk5)
        have hb6 : Bel w w5 := Bel.upto (hb2.trans hbb) hb5 (Nat.le_refl _)
        go_roundg (s.size - k2)
        case measure => omega
        case rel => exact ⟨k2, ys ++ [p], rfl, hk2l, Nat.le_refl _, hown5, by rw [List.length_append, List.length_singleton]; omega, hb6, HR⟩
end Go.Proofs.YteingkjdemlhgaaGreatDoor

/-
  The document's answers on attributes: CharsetOf.
-/
namespace Go.Proofs.YteingkjdemlhgaaGreatDoor
open Go.RowKit
set_option maxRecDepth 1000000
theorem pre_room (l : List UInt8) (h : Lib.hasPrefix (M.fold l) M.charset7 = true) : 7 ≤ l.length := by
  have h1 : Lib.occAt (M.fold l) M.charset7 0 = true := h
  rcases Lib.occAt_room h1 with h2 | h2
  · rw [M.fold_len] at h2
    have : M.charset7.length = 7 := rfl
    omega
  · cases h2
theorem charOf_quote (l u : List UInt8) (q : UInt8) (h : l.dropWhile M.white = q :: u) (hq : q = 34 ∨ q = 39) (o : Option (List UInt8)) (ho : (M.quotedA q u).1 = o) : M.charOf l = o.elim 0 M.find := by
  subst ho
  rw [M.charOf, h]
  simp only
  rw [if_pos hq]
  cases (M.quotedA q u).1 <;> rfl
theorem char_found (s : ByteArray) (k1 k2 j : Nat) (hk : k2 < s.size) (hlt : j < s.size) (hQ : (s.data.toList.drop (k1 + 1)).dropWhile M.white = s[k2] :: s.data.toList.drop (k2 + 1)) (hqq : s[k2] = 34 ∨ s[k2] = 39)
    (hJ : (s.data.toList.drop j).dropWhile (fun c => c != s[k2]) = (s.data.toList.drop (k2 + 1)).dropWhile (fun c => c != s[k2]))
    (hT : (s.data.toList.drop (k2 + 1)).takeWhile (fun c => c != s[k2]) = (s.data.toList.drop (k2 + 1)).take (j - (k2 + 1)) ++ (s.data.toList.drop j).takeWhile (fun c => c != s[k2])) (hq : ((s[j].toNat : Int) == (s[k2].toNat : Int)) = true) :
    M.charOf (s.data.toList.drop (k1 + 1)) = M.find ((s.data.toList.drop (k2 + 1)).take (j - (k2 + 1))) := by
  have he : ((fun c => c != s[k2]) s[j]) = false := by show (s[j] != s[k2]) = false; rw [not_int]; simpa using hq
  have h1 : (s.data.toList.drop j).dropWhile (fun c => c != s[k2]) = s[j] :: s.data.toList.drop (j + 1) := by rw [drop_cons s j hlt, List.dropWhile_cons_of_neg (p := fun c => c != s[k2]) (fun h9 => Bool.noConfusion (h9.symm.trans he))]
  have h2 : (s.data.toList.drop j).takeWhile (fun c => c != s[k2]) = [] := by rw [drop_cons s j hlt, List.takeWhile_cons_of_neg (p := fun c => c != s[k2]) (fun h9 => Bool.noConfusion (h9.symm.trans he))]
  refine (charOf_quote _ _ _ hQ hqq (some ((s.data.toList.drop (k2 + 1)).take (j - (k2 + 1)))) ?_).trans rfl
  rw [M.quotedA, ← hJ, h1, hT, h2, List.append_nil]
theorem char_open (s : ByteArray) (k1 k2 : Nat) (hk : k2 < s.size) (hQ : (s.data.toList.drop (k1 + 1)).dropWhile M.white = s[k2] :: s.data.toList.drop (k2 + 1)) (hqq : s[k2] = 34 ∨ s[k2] = 39)
    (hJ : (s.data.toList.drop s.size).dropWhile (fun c => c != s[k2]) = (s.data.toList.drop (k2 + 1)).dropWhile (fun c => c != s[k2])) : M.charOf (s.data.toList.drop (k1 + 1)) = 0 := by
  refine (charOf_quote _ _ _ hQ hqq none ?_).trans rfl
  rw [M.quotedA, ← hJ, drop_end]
  rfl
theorem find_more (s : ByteArray) (k2 j : Nat) (hk : k2 < s.size) (hlt : j < s.size) (hkj : k2 + 1 ≤ j) (hq : ((s[j].toNat : Int) == (s[k2].toNat : Int)) = false)
    (hJ : (s.data.toList.drop j).dropWhile (fun c => c != s[k2]) = (s.data.toList.drop (k2 + 1)).dropWhile (fun c => c != s[k2]))
    (hT : (s.data.toList.drop (k2 + 1)).takeWhile (fun c => c != s[k2]) = (s.data.toList.drop (k2 + 1)).take (j - (k2 + 1)) ++ (s.data.toList.drop j).takeWhile (fun c => c != s[k2])) :
    (s.data.toList.drop (j + 1)).dropWhile (fun c => c != s[k2]) = (s.data.toList.drop (k2 + 1)).dropWhile (fun c => c != s[k2]) ∧
    (s.data.toList.drop (k2 + 1)).takeWhile (fun c => c != s[k2]) = (s.data.toList.drop (k2 + 1)).take (j + 1 - (k2 + 1)) ++ (s.data.toList.drop (j + 1)).takeWhile (fun c => c != s[k2]) := by
  have he : ((fun c => c != s[k2]) s[j]) = true := by show (s[j] != s[k2]) = true; rw [not_int]; simpa using hq
  refine ⟨(dw_go _ s j hlt he).trans hJ, ?_⟩
  rw [hT, tw_go _ s j hlt he, show j + 1 - (k2 + 1) = j - (k2 + 1) + 1 by omega, List.take_add_one, List.getElem?_drop, show k2 + 1 + (j - (k2 + 1)) = j by omega, byte_at s j hlt]
  simp
set_option maxHeartbeats 16000000 in
theorem charsetOf_any (s : ByteArray) (hs : s.size ≤ 3000) (w : World) : Calls Tryz.prog 151 #[.string s] w fun e w' => e = .returned (.int .i64 (M.charA s.data.toList)) ∧ Bel w w' := by
  go_enter Tryz.func151, Tryz.ntmps151
  go_wp2_with fail
  go_loopg [3] (s.size + 1) (fun gg at_ wr => ∃ j : Nat, at_ = .int .i64 (j : Int) ∧ j ≤ s.size ∧ s.size - j ≤ gg ∧ Bel w wr ∧ Hid (M.charA s.data.toList = M.charA (s.data.toList.drop j)))
  case atStart => exact ⟨0, rfl, by omega, by omega, Bel.refl _, Lib.hid (by rw [List.drop_zero])⟩
  case round =>
    obtain ⟨k0, rfl, hk0, hg, hb, HJ⟩ := hrel
    by_cases hlt : k0 < s.size
    · have hdc := drop_cons s k0 hlt
      have bg := beginsAt_any s ⟨#[99, 104, 97, 114, 115, 101, 116]⟩ k0 hk0 hs wr
      cases hpre : Lib.hasPrefix (M.fold (s.data.toList.drop k0)) M.charset7 with
      | false =>
        have HR := Lib.hid (show M.charA s.data.toList = M.charA (s.data.toList.drop (k0 + 1)) by rw [HJ.out, hdc]; exact M.charA_step _ _ (by rw [← hdc]; exact hpre))
        rw [show Lib.hasPrefix (M.fold (s.data.toList.drop k0)) (⟨#[99, 104, 97, 114, 115, 101, 116]⟩ : ByteArray).data.toList = false from hpre] at bg
        clear hpre hdc HJ
        go_wp2_with fail
        refine bg.mono ?_
        rintro e W ⟨rfl, hb1⟩
        have hb := hb.trans hb1
        clear hb1 bg
        go_wp2_with fail
        go_roundg (s.size - (k0 + 1))
        case measure => omega
        case rel => exact ⟨k0 + 1, by go_num, by omega, Nat.le_refl _, hb, HR⟩
      | true =>
        have hroom := pre_room _ hpre
        rw [List.length_drop, ← Lib.size_eq] at hroom
        have HB := Lib.hid hpre
        have HD := Lib.hid hdc
        rw [show Lib.hasPrefix (M.fold (s.data.toList.drop k0)) (⟨#[99, 104, 97, 114, 115, 101, 116]⟩ : ByteArray).data.toList = true from hpre] at bg
        clear hpre hdc
        go_wp2_with fail
        refine bg.mono ?_
        rintro e W ⟨rfl, hb1⟩
        have hb := hb.trans hb1
        clear hb1 bg
        go_upto_block 2 with fail
        go_cut [3] from 18 to 29 (fun v wx => (∃ j : Nat, v = .int .i64 (j : Int) ∧ (k0 + 7) ≤ j ∧ j ≤ s.size ∧ s.data.toList.drop j = (s.data.toList.drop (k0 + 7)).dropWhile M.white) ∧ W = wx)
        case first =>
          go_wp2_with fail
          go_loop [3] (fun v => ∃ j : Nat, v = .int .i64 (j : Int) ∧ (k0 + 7) ≤ j ∧ j ≤ s.size ∧ Hid ((s.data.toList.drop j).dropWhile M.white = (s.data.toList.drop (k0 + 7)).dropWhile M.white)) (fun v => s.size - (intOf v).toNat)
          case atStart => exact ⟨(k0 + 7), by first | rfl | go_num, Nat.le_refl _, by omega, Lib.hid rfl⟩
          case round =>
            obtain ⟨j, rfl, hsj, hj, HJ⟩ := hrel
            by_cases hlt : j < s.size
            ·
              cases hw : M.white s[j] with
              | true =>
                have hp : (M.white) s[j] = true := by simp [hw]
                have HR := Lib.hid ((dw_go (M.white) s j hlt hp).trans HJ.out)
                have HW := Lib.hid hw
                clear hp hw
                go_wp2_with (go_at_call 122; refine (isWhite_any _ _).mono ?_; rintro e w' ⟨rfl, rfl⟩; rw [HW.out])
                go_round
                case rel => exact ⟨j + 1, by go_num, by omega, by omega, HR⟩
                case measure => simp [intOf]; omega
              | false =>
                have hp : (M.white) s[j] = false := by simp [hw]
                have HR := Lib.hid ((dw_stop (M.white) s j hlt hp).symm.trans HJ.out)
                have HW := Lib.hid hw
                clear hp hw
                go_wp2_with (go_at_call 122; refine (isWhite_any _ _).mono ?_; rintro e w' ⟨rfl, rfl⟩; rw [HW.out])
                go_meet
                exact ⟨⟨j, rfl, hsj, hj, HR.out⟩, rfl⟩
            · obtain rfl : j = s.size := by omega
              have HR := Lib.hid (show s.data.toList.drop s.size = (s.data.toList.drop (k0 + 7)).dropWhile M.white by rw [← HJ.out, drop_end]; rfl)
              go_wp2_with fail
              go_meet
              exact ⟨⟨s.size, rfl, hsj, hj, HR.out⟩, rfl⟩
        case rest =>
        obtain ⟨⟨k1, rfl, hk01, hk1, hl1⟩, rfl⟩ := hcut
        have HL1 := Lib.hid (show ((s[k0] :: s.data.toList.drop (k0 + 1)).drop 7).dropWhile M.white = s.data.toList.drop k1 by rw [← HD.out, List.drop_drop, hl1])
        have HP := Lib.hid (show Lib.hasPrefix (M.fold (s[k0] :: s.data.toList.drop (k0 + 1))) M.charset7 = true by rw [← HD.out]; exact HB.out)
        clear hl1
        by_cases hlt1 : k1 < s.size
        ·
          have hne1 : ((k1 : Int) == (s.size : Int)) = false := by simp; omega
          have h61i : (s[k1] != 61) = ((s[k1].toNat : Int) != 61) := not_int 61 s[k1]
          cases h61 : ((s[k1].toNat : Int) != 61) with
          | true =>
            rw [h61] at h61i
            have HR := Lib.hid (show M.charA s.data.toList = M.charA (s.data.toList.drop k1) by rw [HJ.out, HD.out, M.charA_no _ _ HP.out (by rw [HL1.out, drop_cons s k1 hlt1]; simp only [M.behindEq]; rw [if_neg (by simpa using h61i)]), HL1.out])
            clear h61i
            go_wp2_with fail
            go_roundg (s.size - k1)
            case measure => omega
            case rel => exact ⟨k1, rfl, by omega, Nat.le_refl _, hb, HR⟩
          | false =>
            rw [h61] at h61i
            have HC := Lib.hid (show M.charA s.data.toList = M.charOf (s.data.toList.drop (k1 + 1)) by rw [HJ.out, HD.out]; exact M.charA_eq _ _ _ HP.out (by rw [HL1.out, drop_cons s k1 hlt1]; simp only [M.behindEq]; rw [if_pos (by simpa using h61i)]))
            clear h61i HJ HD HP HL1 HB
            go_upto_block 4 with fail
            go_cut [3] from 42 to 53 (fun v wx => (∃ j : Nat, v = .int .i64 (j : Int) ∧ (k1 + 1) ≤ j ∧ j ≤ s.size ∧ s.data.toList.drop j = (s.data.toList.drop (k1 + 1)).dropWhile M.white) ∧ W = wx)
            case first =>
              go_wp2_with fail
              go_loop [3] (fun v => ∃ j : Nat, v = .int .i64 (j : Int) ∧ (k1 + 1) ≤ j ∧ j ≤ s.size ∧ Hid ((s.data.toList.drop j).dropWhile M.white = (s.data.toList.drop (k1 + 1)).dropWhile M.white)) (fun v => s.size - (intOf v).toNat)
              case atStart => exact ⟨(k1 + 1), by first | rfl | go_num, Nat.le_refl _, by omega, Lib.hid rfl⟩
              case round =>
                obtain ⟨j, rfl, hsj, hj, HJ⟩ := hrel
                by_cases hlt : j < s.size
                ·
                  cases hw : M.white s[j] with
                  | true =>
                    have hp : (M.white) s[j] = true := by simp [hw]
                    have HR := Lib.hid ((dw_go (M.white) s j hlt hp).trans HJ.out)
                    have HW := Lib.hid hw
                    clear hp hw
                    go_wp2_with (go_at_call 122; refine (isWhite_any _ _).mono ?_; rintro e w' ⟨rfl, rfl⟩; rw [HW.out])
                    go_round
                    case rel => exact ⟨j + 1, by go_num, by omega, by omega, HR⟩
                    case measure => simp [intOf]; omega
                  | false =>
                    have hp : (M.white) s[j] = false := by simp [hw]
                    have HR := Lib.hid ((dw_stop (M.white) s j hlt hp).symm.trans HJ.out)
                    have HW := Lib.hid hw
                    clear hp hw
                    go_wp2_with (go_at_call 122; refine (isWhite_any _ _).mono ?_; rintro e w' ⟨rfl, rfl⟩; rw [HW.out])
                    go_meet
                    exact ⟨⟨j, rfl, hsj, hj, HR.out⟩, rfl⟩
                · obtain rfl : j = s.size := by omega
                  have HR := Lib.hid (show s.data.toList.drop s.size = (s.data.toList.drop (k1 + 1)).dropWhile M.white by rw [← HJ.out, drop_end]; rfl)
                  go_wp2_with fail
                  go_meet
                  exact ⟨⟨s.size, rfl, hsj, hj, HR.out⟩, rfl⟩
            case rest =>
            obtain ⟨⟨k2, rfl, hk12, hk2, hl2⟩, rfl⟩ := hcut
            by_cases hlt2 : k2 < s.size
            ·
              cases h34 : ((s[k2].toNat : Int) == 34) with
              | true =>
                have hqq := quote_34 _ h34
                have HQQ := Lib.hid hqq
                have HQ := Lib.hid (show (s.data.toList.drop (k1 + 1)).dropWhile M.white = s[k2] :: s.data.toList.drop (k2 + 1) by rw [← hl2, drop_cons s k2 hlt2])
                clear hl2 hqq
                go_wp2_with fail
                go_loopw [5] (fun v wr => ∃ j : Nat, v = .int .i64 (j : Int) ∧ k2 + 1 ≤ j ∧ j ≤ s.size ∧ Hid ((s.data.toList.drop j).dropWhile (fun c => c != s[k2]) = (s.data.toList.drop (k2 + 1)).dropWhile (fun c => c != s[k2])) ∧ Hid ((s.data.toList.drop (k2 + 1)).takeWhile (fun c => c != s[k2]) = (s.data.toList.drop (k2 + 1)).take (j - (k2 + 1)) ++ (s.data.toList.drop j).takeWhile (fun c => c != s[k2])) ∧ Bel w wr) (fun v _ => s.size - (intOf v).toNat)
                case atStart => exact ⟨k2 + 1, by first | rfl | go_num, Nat.le_refl _, by omega, Lib.hid rfl, Lib.hid (by simp), hb⟩
                case round =>
                  obtain ⟨j, rfl, hkj, hj, HJ, HT, hbr⟩ := hrel
                  by_cases hlt : j < s.size
                  ·
                    cases hq : ((s[j].toNat : Int) == (s[k2].toNat : Int)) with
                    | true =>
                      have HZ := Lib.hid (HC.out.trans (char_found s k1 k2 j hlt2 hlt HQ.out HQQ.out HJ.out HT.out hq))
                      clear HC HQ HQQ HJ HT
                      go_wp2_with fail
                      go_quiet (fail)
                      go_wp2_with fail
                      refine (findOf_any (s.extract (k2 + 1) j) _ (by have h9 := ByteArray.size_extract (a := s) (b := k2 + 1) (e := j); omega)).mono ?_
                      rintro e W2 ⟨rfl, hb2⟩
                      go_wp2_with fail
                      go_ret
                      exact ⟨by rw [HZ.out, ← Lib.extract_data]; rfl, (hbr.drewN _).trans hb2⟩
                    | false =>
                      have HR := Lib.hid (find_more s k2 j hlt2 hlt hkj hq HJ.out HT.out)
                      clear HJ HT
                      go_wp2_with fail
                      go_quiet (fail)
                      go_wp2_with fail
                      go_roundw
                      case rel => exact ⟨j + 1, by go_num, by omega, by omega, Lib.hid HR.out.1, Lib.hid HR.out.2, hbr.drewN _⟩
                      case measure => simp [intOf]; omega
                  · obtain rfl : j = s.size := by omega
                    have HZ := Lib.hid (HC.out.trans (char_open s k1 k2 hlt2 HQ.out HQQ.out HJ.out))
                    clear HC HQ HQQ HJ HT
                    go_wp2_with fail
                    go_ret
                    exact ⟨by rw [HZ.out]; rfl, hbr⟩
              | false =>
                cases h39 : ((s[k2].toNat : Int) == 39) with
                | true =>
                  have hqq := quote_39 _ h39
                  have HQQ := Lib.hid hqq
                  have HQ := Lib.hid (show (s.data.toList.drop (k1 + 1)).dropWhile M.white = s[k2] :: s.data.toList.drop (k2 + 1) by rw [← hl2, drop_cons s k2 hlt2])
                  clear hl2 hqq
                  go_wp2_with fail
                  go_loopw [5] (fun v wr => ∃ j : Nat, v = .int .i64 (j : Int) ∧ k2 + 1 ≤ j ∧ j ≤ s.size ∧ Hid ((s.data.toList.drop j).dropWhile (fun c => c != s[k2]) = (s.data.toList.drop (k2 + 1)).dropWhile (fun c => c != s[k2])) ∧ Hid ((s.data.toList.drop (k2 + 1)).takeWhile (fun c => c != s[k2]) = (s.data.toList.drop (k2 + 1)).take (j - (k2 + 1)) ++ (s.data.toList.drop j).takeWhile (fun c => c != s[k2])) ∧ Bel w wr) (fun v _ => s.size - (intOf v).toNat)
                  case atStart => exact ⟨k2 + 1, by first | rfl | go_num, Nat.le_refl _, by omega, Lib.hid rfl, Lib.hid (by simp), hb⟩
                  case round =>
                    obtain ⟨j, rfl, hkj, hj, HJ, HT, hbr⟩ := hrel
                    by_cases hlt : j < s.size
                    ·
                      cases hq : ((s[j].toNat : Int) == (s[k2].toNat : Int)) with
                      | true =>
                        have HZ := Lib.hid (HC.out.trans (char_found s k1 k2 j hlt2 hlt HQ.out HQQ.out HJ.out HT.out hq))
                        clear HC HQ HQQ HJ HT
                        go_wp2_with fail
                        go_quiet (fail)
                        go_wp2_with fail
                        refine (findOf_any (s.extract (k2 + 1) j) _ (by have h9 := ByteArray.size_extract (a := s) (b := k2 + 1) (e := j); omega)).mono ?_
                        rintro e W2 ⟨rfl, hb2⟩
                        go_wp2_with fail
                        go_ret
                        exact ⟨by rw [HZ.out, ← Lib.extract_data]; rfl, (hbr.drewN _).trans hb2⟩
                      | false =>
                        have HR := Lib.hid (find_more s k2 j hlt2 hlt hkj hq HJ.out HT.out)
                        clear HJ HT
                        go_wp2_with fail
                        go_quiet (fail)
                        go_wp2_with fail
                        go_roundw
                        case rel => exact ⟨j + 1, by go_num, by omega, by omega, Lib.hid HR.out.1, Lib.hid HR.out.2, hbr.drewN _⟩
                        case measure => simp [intOf]; omega
                    · obtain rfl : j = s.size := by omega
                      have HZ := Lib.hid (HC.out.trans (char_open s k1 k2 hlt2 HQ.out HQQ.out HJ.out))
                      clear HC HQ HQQ HJ HT
                      go_wp2_with fail
                      go_ret
                      exact ⟨by rw [HZ.out]; rfl, hbr⟩
                | false =>
                  have hqq := quote_no _ h34 h39
                  have HV := Lib.hid (show M.charOf (s.data.toList.drop (k1 + 1)) = M.find ((s.data.toList.drop k2).takeWhile M.labB) by rw [M.charOf, ← hl2, drop_cons s k2 hlt2]; simp only; rw [if_neg hqq])
                  clear hqq hl2
                  go_upto_block 8 with fail
                  go_cut [3, 4] from 91 to 116 (fun v t wx => (∃ (j : Nat) (u : List UInt8), v = .int .i64 (j : Int) ∧ t = .string ⟨u.toArray⟩ ∧ k2 ≤ j ∧ j ≤ s.size ∧ s.data.toList.drop j = (s.data.toList.drop k2).dropWhile M.labB ∧ u = ([] : List UInt8) ++ (s.data.toList.drop k2).takeWhile M.labB) ∧ W = wx)
                  case first =>
                    go_wp2_with fail
                    go_loop [3, 4] (fun v t => ∃ (j : Nat) (u : List UInt8), v = .int .i64 (j : Int) ∧ t = .string ⟨u.toArray⟩ ∧ k2 ≤ j ∧ j ≤ s.size ∧ u.length ≤ j ∧ Hid ((s.data.toList.drop j).dropWhile M.labB = (s.data.toList.drop k2).dropWhile M.labB) ∧ Hid (u ++ (s.data.toList.drop j).takeWhile M.labB = ([] : List UInt8) ++ (s.data.toList.drop k2).takeWhile M.labB)) (fun v _ => s.size - (intOf v).toNat)
                    case atStart => exact ⟨k2, ([] : List UInt8), by first | rfl | go_num, by first | rfl | assumption, Nat.le_refl _, by omega, by simp; try omega, Lib.hid rfl, Lib.hid rfl⟩
                    case round =>
                      obtain ⟨j, u, rfl, rfl, hsj, hj, hul, HJ, HU⟩ := hrel
                      by_cases hlt : j < s.size
                      ·
                        cases hw : M.white s[j] with
                        | true =>
                          have hp : (M.labB) s[j] = false := by simp [lab_int, hw]
                          have HR := Lib.hid ((dw_stop (M.labB) s j hlt hp).symm.trans HJ.out)
                          have HV := Lib.hid (show u = ([] : List UInt8) ++ (s.data.toList.drop k2).takeWhile M.labB by rw [← HU.out, tw_stop (M.labB) s j hlt hp, List.append_nil])
                          have HW := Lib.hid hw
                          clear hp hw
                          go_wp2_with (go_at_call 122; refine (isWhite_any _ _).mono ?_; rintro e w' ⟨rfl, rfl⟩; rw [HW.out])
                          go_meet
                          exact ⟨⟨j, u, rfl, rfl, hsj, hj, HR.out, HV.out⟩, rfl⟩
                        | false =>
                          cases h59 : ((s[j].toNat : Int) != 59) with
                          | true =>
                            have hp : (M.labB) s[j] = true := by simp [lab_int, hw, h59]
                            have HR := Lib.hid ((dw_go (M.labB) s j hlt hp).trans HJ.out)
                            have HV := Lib.hid (show (u ++ [s[j]]) ++ (s.data.toList.drop (j + 1)).takeWhile M.labB = ([] : List UInt8) ++ (s.data.toList.drop k2).takeWhile M.labB by rw [← HU.out, tw_go (M.labB) s j hlt hp, List.append_assoc]; rfl)
                            have HS := Lib.hid (one_str s u j hlt)
                            have HW := Lib.hid hw
                            clear hp hw
                            go_wp2_with (go_at_call 122; refine (isWhite_any _ _).mono ?_; rintro e w' ⟨rfl, rfl⟩; rw [HW.out])
                            go_round
                            case rel => exact ⟨j + 1, u ++ [s[j]], by go_num, by rw [← HS.out], by omega, by omega, by rw [List.length_append, List.length_singleton]; omega, HR, HV⟩
                            case measure => simp [intOf]; omega
                          | false =>
                            have hp : (M.labB) s[j] = false := by simp [lab_int, hw, h59]
                            have HR := Lib.hid ((dw_stop (M.labB) s j hlt hp).symm.trans HJ.out)
                            have HV := Lib.hid (show u = ([] : List UInt8) ++ (s.data.toList.drop k2).takeWhile M.labB by rw [← HU.out, tw_stop (M.labB) s j hlt hp, List.append_nil])
                            have HW := Lib.hid hw
                            clear hp hw
                            go_wp2_with (go_at_call 122; refine (isWhite_any _ _).mono ?_; rintro e w' ⟨rfl, rfl⟩; rw [HW.out])
                            go_meet
                            exact ⟨⟨j, u, rfl, rfl, hsj, hj, HR.out, HV.out⟩, rfl⟩
                      · obtain rfl : j = s.size := by omega
                        have HR := Lib.hid (show s.data.toList.drop s.size = (s.data.toList.drop k2).dropWhile M.labB by rw [← HJ.out, drop_end]; rfl)
                        have HV := Lib.hid (show u = ([] : List UInt8) ++ (s.data.toList.drop k2).takeWhile M.labB by rw [← HU.out, drop_end]; simp)
                        go_wp2_with fail
                        go_meet
                        exact ⟨⟨s.size, u, rfl, rfl, hsj, hj, HR.out, HV.out⟩, rfl⟩
                  case rest =>
                  obtain ⟨⟨k3, vv, rfl, rfl, hk23, hk3, hl3, hvv⟩, rfl⟩ := hcut
                  have hvl : vv.length ≤ s.size := by rw [hvv]; have h9 := (List.takeWhile_prefix M.labB (l := s.data.toList.drop k2)).length_le; rw [List.length_drop, ← Lib.size_eq] at h9; rw [List.nil_append]; omega
                  have HZ := Lib.hid (show M.charA s.data.toList = M.find vv by rw [HC.out, HV.out, hvv]; rfl)
                  clear HC HV hl3 hvv
                  go_wp2_with fail
                  refine (findOf_any ⟨vv.toArray⟩ _ (by rw [size_str]; omega)).mono ?_
                  rintro e W2 ⟨rfl, hb2⟩
                  go_wp2_with fail
                  go_ret
                  exact ⟨by rw [HZ.out]; rfl, hb.trans hb2⟩
            · obtain rfl : k2 = s.size := by omega
              have HV := Lib.hid (show M.charOf (s.data.toList.drop (k1 + 1)) = M.find ((s.data.toList.drop s.size).takeWhile M.labB) by rw [M.charOf, ← hl2, drop_end]; rfl)
              have HE := Lib.hid hl2
              clear hl2
              go_upto_block 8 with fail
              go_cut [3, 4] from 91 to 116 (fun v t wx => (∃ (j : Nat) (u : List UInt8), v = .int .i64 (j : Int) ∧ t = .string ⟨u.toArray⟩ ∧ s.size ≤ j ∧ j ≤ s.size ∧ s.data.toList.drop j = (s.data.toList.drop s.size).dropWhile M.labB ∧ u = ([] : List UInt8) ++ (s.data.toList.drop s.size).takeWhile M.labB) ∧ W = wx)
              case first =>
                go_wp2_with fail
                go_loop [3, 4] (fun v t => ∃ (j : Nat) (u : List UInt8), v = .int .i64 (j : Int) ∧ t = .string ⟨u.toArray⟩ ∧ s.size ≤ j ∧ j ≤ s.size ∧ u.length ≤ j ∧ Hid ((s.data.toList.drop j).dropWhile M.labB = (s.data.toList.drop s.size).dropWhile M.labB) ∧ Hid (u ++ (s.data.toList.drop j).takeWhile M.labB = ([] : List UInt8) ++ (s.data.toList.drop s.size).takeWhile M.labB)) (fun v _ => s.size - (intOf v).toNat)
                case atStart => exact ⟨s.size, ([] : List UInt8), by first | rfl | go_num, by first | rfl | assumption, Nat.le_refl _, by omega, by simp; try omega, Lib.hid rfl, Lib.hid rfl⟩
                case round =>
                  obtain ⟨j, u, rfl, rfl, hsj, hj, hul, HJ, HU⟩ := hrel
                  by_cases hlt : j < s.size
                  ·
                    exfalso
                    omega
                  · obtain rfl : j = s.size := by omega
                    have HR := Lib.hid (show s.data.toList.drop s.size = (s.data.toList.drop s.size).dropWhile M.labB by rw [← HJ.out, drop_end]; rfl)
                    have HV := Lib.hid (show u = ([] : List UInt8) ++ (s.data.toList.drop s.size).takeWhile M.labB by rw [← HU.out, drop_end]; simp)
                    go_wp2_with fail
                    go_meet
                    exact ⟨⟨s.size, u, rfl, rfl, hsj, hj, HR.out, HV.out⟩, rfl⟩
              case rest =>
              obtain ⟨⟨k3, vv, rfl, rfl, hk23, hk3, hl3, hvv⟩, rfl⟩ := hcut
              have hvl : vv.length ≤ s.size := by rw [hvv]; have h9 := (List.takeWhile_prefix M.labB (l := s.data.toList.drop s.size)).length_le; rw [List.length_drop, ← Lib.size_eq] at h9; rw [List.nil_append]; omega
              have HZ := Lib.hid (show M.charA s.data.toList = M.find vv by rw [HC.out, HV.out, hvv]; rfl)
              clear HC HV hl3 hvv
              go_wp2_with fail
              refine (findOf_any ⟨vv.toArray⟩ _ (by rw [size_str]; omega)).mono ?_
              rintro e W2 ⟨rfl, hb2⟩
              go_wp2_with fail
              go_ret
              exact ⟨by rw [HZ.out]; rfl, hb.trans hb2⟩
        · obtain rfl : k1 = s.size := by omega
          have HR := Lib.hid (show M.charA s.data.toList = M.charA (s.data.toList.drop s.size) by rw [HJ.out, HD.out, M.charA_no _ _ HP.out (by rw [HL1.out, drop_end]; rfl), HL1.out])
          go_wp2_with fail
          go_roundg (s.size - s.size)
          case measure => omega
          case rel => exact ⟨s.size, rfl, by omega, Nat.le_refl _, hb, HR⟩
    · obtain rfl : k0 = s.size := by omega
      have HR := Lib.hid (show M.charA s.data.toList = 0 by rw [HJ.out, drop_end]; rfl)
      go_wp2_with fail
      go_ret
      exact ⟨by rw [HR.out]; rfl, hb⟩
end Go.Proofs.YteingkjdemlhgaaGreatDoor

/-
  The document's answers on scans: MetaOf, isLetter.
-/
namespace Go.Proofs.YteingkjdemlhgaaGreatDoor
open Go.RowKit
set_option maxRecDepth 1000000
set_option maxHeartbeats 4000000
/-- The first place from k on that has the name; -1: none has. -/
def FirstN (xs : List (List UInt8 × List UInt8)) (nm : List UInt8) (k : Nat) (r : Int) : Prop :=
  (r = -1 ∧ ∀ j, k ≤ j → j < xs.length → ((xs.getD j ([], [])).1 == nm) = false) ∨ ∃ d : Nat, k ≤ d ∧ d < xs.length ∧ r = d ∧ ((xs.getD d ([], [])).1 == nm) = true ∧ ∀ j, k ≤ j → j < d → ((xs.getD j ([], [])).1 == nm) = false
theorem FirstN.at {xs : List (List UInt8 × List UInt8)} {nm : List UInt8} {r : Int} (h : FirstN xs nm 0 r) : (r = -1 ∧ M.valOf xs nm = none) ∨ ∃ (k : Nat) (q : List UInt8 × List UInt8), r = k ∧ xs[k]? = some q ∧ M.valOf xs nm = some q.2 := by
  have h1 : FirstAt xs.length (fun j => (xs.getD j ([], [])).1 == nm) r := by
    rcases h with ⟨e, h⟩ | ⟨d, _, hd, e, hy, hno⟩
    · exact .inl ⟨e, fun j hj => h j (Nat.zero_le _) hj⟩
    · exact .inr ⟨d, hd, e, hy, fun j hj => hno j (Nat.zero_le _) hj⟩
  rcases find_at xs (fun a => a.1 == nm) r h1 with ⟨e, hf⟩ | ⟨k, q, e, hk, hf⟩
  · exact .inl ⟨e, valOf_none _ _ hf⟩
  · exact .inr ⟨k, q, e, hk, valOf_some _ _ _ hf⟩
theorem FirstN.end (xs : List (List UInt8 × List UInt8)) (nm : List UInt8) : FirstN xs nm xs.length (-1) := .inl ⟨rfl, fun j h1 h2 => by omega⟩
theorem FirstN.yes {xs : List (List UInt8 × List UInt8)} {nm : List UInt8} {k : Nat} {q : List UInt8 × List UInt8} (hq : xs[k]? = some q) (h : (q.1 == nm) = true) : FirstN xs nm k (k : Int) :=
  .inr ⟨k, Nat.le_refl _, (List.getElem?_eq_some_iff.1 hq).1, rfl, by rw [List.getD_eq_getElem?_getD, hq]; exact h, fun j h1 h2 => by omega⟩
theorem FirstN.no {xs : List (List UInt8 × List UInt8)} {nm : List UInt8} {k : Nat} {q : List UInt8 × List UInt8} {r : Int} (hq : xs[k]? = some q) (h : (q.1 == nm) = false) (hr : FirstN xs nm (k + 1) r) : FirstN xs nm k r := by
  have hk : ((xs.getD k ([], [])).1 == nm) = false := by rw [List.getD_eq_getElem?_getD, hq]; exact h
  rcases hr with ⟨e, hr⟩ | ⟨d, hkd, hd, e, hy, hno⟩
  · refine .inl ⟨e, fun j h1 h2 => ?_⟩
    by_cases ej : j = k
    · subst ej; exact hk
    · exact hr j (by omega) h2
  · refine .inr ⟨d, by omega, hd, e, hy, fun j h1 h2 => ?_⟩
    by_cases ej : j = k
    · subst ej; exact hk
    · exact hno j (by omega) h2
theorem metaOf_any (v : Value) (xs : List (List UInt8 × List UInt8)) (w : World) (h : AttrSl w v xs) (hs : ShortV xs) : Calls Tryz.prog 124 #[v] w fun e w' => e = .returned (.int .i64 (M.metaA xs)) ∧ Bel w w' := by
  obtain ⟨a, c, rfl, hc1, hc2, hn, hx⟩ := h
  unfold maxLen at hc2
  have HX := Lib.hid hx
  have HN := Lib.hid hn
  clear hx hn
  go_enter Tryz.func124, Tryz.ntmps124
  go_wp2_with fail
  go_loop [3, 4, 5, 6] (fun x y z i => ∃ (k : Nat) (r1 r2 r3 : Int), k ≤ xs.length ∧ i = .int .i64 ((k : Int) - 1) ∧ x = .int .i64 r1 ∧ y = .int .i64 r2 ∧ z = .int .i64 r3 ∧ Hid (FirstN xs M.charset7 k r1) ∧ Hid (FirstN xs M.httpEquiv k r2) ∧ Hid (FirstN xs M.contentB k r3)) (fun _ _ _ i => (intOf i + 1).toNat)
  case atStart => exact ⟨xs.length, -1, -1, -1, Nat.le_refl _, by first | rfl | go_num, rfl, rfl, rfl, Lib.hid (FirstN.end _ _), Lib.hid (FirstN.end _ _), Lib.hid (FirstN.end _ _)⟩
  case round =>
    obtain ⟨k, r1, r2, r3, hk, rfl, rfl, rfl, rfl, F1, F2, F3⟩ := hrel
    cases k with
    | succ m =>
      rw [show ((m + 1 : Nat) : Int) - 1 = (m : Int) by omega]
      obtain ⟨q, hq⟩ : ∃ q, xs[m]? = some q := ⟨_, List.getElem?_eq_getElem (by omega)⟩
      cases a with
      | none => exfalso; rw [HN.out rfl] at hk; exact absurd hk (by simp)
      | some x =>
        obtain ⟨g, o, rfl, hx'⟩ := HX.out x rfl (List.ne_nil_of_length_pos (by omega))
        obtain ⟨c1, c2⟩ := hx' m q hq
        clear hx'
        cases e1 : (q.1 == ([99, 104, 97, 114, 115, 101, 116] : List UInt8)) with
        | true =>
          have e1' : q.1 = [99, 104, 97, 114, 115, 101, 116] := by simpa using e1
          have HR := Lib.hid (show FirstN xs M.charset7 m (m : Int) ∧ FirstN xs M.httpEquiv m r2 ∧ FirstN xs M.contentB m r3 from ⟨FirstN.yes hq e1, FirstN.no hq (by rw [e1']; rfl) F2.out, FirstN.no hq (by rw [e1']; rfl) F3.out⟩)
          clear hq e1
          go_wp2_with fail
          go_round
          case rel => exact ⟨m, _, _, _, by omega, by go_num, rfl, rfl, rfl, Lib.hid HR.out.1, Lib.hid HR.out.2.1, Lib.hid HR.out.2.2⟩
          case measure => simp [intOf] <;> omega
        | false =>
          cases e2 : (q.1 == ([104, 116, 116, 112, 45, 101, 113, 117, 105, 118] : List UInt8)) with
          | true =>
            have e2' : q.1 = [104, 116, 116, 112, 45, 101, 113, 117, 105, 118] := by simpa using e2
            have hh := e1
            have HR := Lib.hid (show FirstN xs M.charset7 m r1 ∧ FirstN xs M.httpEquiv m (m : Int) ∧ FirstN xs M.contentB m r3 from ⟨FirstN.no hq e1 F1.out, FirstN.yes hq e2, FirstN.no hq (by rw [e2']; rfl) F3.out⟩)
            clear hq e1
            go_wp2_with fail
            go_round
            case rel => exact ⟨m, _, _, _, by omega, by go_num, rfl, rfl, rfl, Lib.hid HR.out.1, Lib.hid HR.out.2.1, Lib.hid HR.out.2.2⟩
            case measure => simp [intOf] <;> omega
          | false =>
            cases e3 : (q.1 == ([99, 111, 110, 116, 101, 110, 116] : List UInt8)) with
            | true =>
              have hh := e1
              have HR := Lib.hid (show FirstN xs M.charset7 m r1 ∧ FirstN xs M.httpEquiv m r2 ∧ FirstN xs M.contentB m (m : Int) from ⟨FirstN.no hq e1 F1.out, FirstN.no hq e2 F2.out, FirstN.yes hq e3⟩)
              clear hq e1
              go_wp2_with fail
              go_round
              case rel => exact ⟨m, _, _, _, by omega, by go_num, rfl, rfl, rfl, Lib.hid HR.out.1, Lib.hid HR.out.2.1, Lib.hid HR.out.2.2⟩
              case measure => simp [intOf] <;> omega
            | false =>
              have hh := e1
              have HR := Lib.hid (show FirstN xs M.charset7 m r1 ∧ FirstN xs M.httpEquiv m r2 ∧ FirstN xs M.contentB m r3 from ⟨FirstN.no hq e1 F1.out, FirstN.no hq e2 F2.out, FirstN.no hq e3 F3.out⟩)
              clear hq e1
              go_wp2_with fail
              go_round
              case rel => exact ⟨m, _, _, _, by omega, by go_num, rfl, rfl, rfl, Lib.hid HR.out.1, Lib.hid HR.out.2.1, Lib.hid HR.out.2.2⟩
              case measure => simp [intOf] <;> omega
    | zero =>
      have P1 := F1.out.at
      have P2 := F2.out.at
      have P3 := F3.out.at
      rw [show ((0 : Nat) : Int) - 1 = -1 from rfl]
      clear F1 F2 F3
      rcases P1 with ⟨rfl, hv1⟩ | ⟨d, q, rfl, hd, hv1⟩
      · rcases P2 with ⟨rfl, hv2⟩ | ⟨d2, q2, rfl, hd2, hv2⟩
        · have HT := Lib.hid (show M.metaA xs = 0 by rw [M.metaA, M.toldA, hv1, hv2]; rfl)
          clear hv1 hv2
          go_wp2_with fail
          go_ret
          exact ⟨by rw [HT.out]; rfl, Bel.refl _⟩
        · rcases P3 with ⟨rfl, hv3⟩ | ⟨d3, q3, rfl, hd3, hv3⟩
          · have HT := Lib.hid (show M.metaA xs = 0 by
              rw [M.metaA, M.toldA, hv1, hv2, hv3]
              show M.turnA (if some q2.2 = some M.contentType then M.charA [] else 0) = 0
              rw [M.charA_nil, ite_self]
              rfl)
            clear hv1 hv2 hv3 hd2
            go_wp2_with fail
            go_ret
            exact ⟨by rw [HT.out]; rfl, Bel.refl _⟩
          · cases a with
            | none => exfalso; have h9 := (List.getElem?_eq_some_iff.1 hd2).1; rw [HN.out rfl] at h9; exact absurd h9 (Nat.not_lt_zero _)
            | some x =>
              obtain ⟨g, o, rfl, hx'⟩ := HX.out x rfl (List.ne_nil_of_length_pos (Nat.lt_of_le_of_lt (Nat.zero_le _) (List.getElem?_eq_some_iff.1 hd2).1))
              have ck := (hx' d2 q2 hd2).2
              have cc := (hx' d3 q3 hd3).2
              have l2 := (List.getElem?_eq_some_iff.1 hd2).1
              have l3 := (List.getElem?_eq_some_iff.1 hd3).1
              have hsz := hs q3 (List.mem_of_getElem? hd3)
              cases hct : (q2.2 == ([99, 111, 110, 116, 101, 110, 116, 45, 116, 121, 112, 101] : List UInt8)) with
              | false =>
                have HT := Lib.hid (show M.metaA xs = 0 by
                  rw [M.metaA, M.toldA, hv1, hv2]
                  show M.turnA (if some q2.2 = some M.contentType then _ else 0) = 0
                  rw [if_neg (fun h9 => by injection h9 with h9; rw [h9] at hct; exact absurd hct (by decide))]
                  rfl)
                clear hv1 hv2 hv3 hd2 hd3 hx'
                go_wp2_with fail
                go_ret
                exact ⟨by rw [HT.out]; rfl, Bel.refl _⟩
              | true =>
                obtain ⟨f, hf⟩ : ∃ f, M.charA q3.2 = f := ⟨_, rfl⟩
                have HT := Lib.hid (show M.metaA xs = M.turnA f by
                  rw [M.metaA, M.toldA, hv1, hv2, hv3]
                  show M.turnA (if some q2.2 = some M.contentType then M.charA q3.2 else 0) = _
                  rw [if_pos (congrArg some (show q2.2 = M.contentType from eq_of_beq hct)), hf])
                have FC := Lib.hid (fun W => charsetOf_any ⟨q3.2.toArray⟩ (by rw [size_str]; exact hsz) W)
                rw [show (⟨q3.2.toArray⟩ : ByteArray).data.toList = q3.2 by simp, hf] at FC
                clear hv1 hv2 hv3 hd2 hd3 hx' hf
                by_cases f2 : f = 2
                · subst f2
                  skip
                  go_wp2_with fail
                  refine (FC.out _).mono ?_
                  rintro e W2 ⟨rfl, b2⟩
                  go_wp2_with fail
                  go_ret
                  exact ⟨by rw [HT.out]; rfl, b2⟩
                · by_cases f3 : f = 3
                  · subst f3
                    skip
                    go_wp2_with fail
                    refine (FC.out _).mono ?_
                    rintro e W2 ⟨rfl, b2⟩
                    go_wp2_with fail
                    go_ret
                    exact ⟨by rw [HT.out]; rfl, b2⟩
                  · by_cases f5 : f = 5
                    · subst f5
                      skip
                      go_wp2_with fail
                      refine (FC.out _).mono ?_
                      rintro e W2 ⟨rfl, b2⟩
                      go_wp2_with fail
                      go_ret
                      exact ⟨by rw [HT.out]; rfl, b2⟩
                    · have HX := Lib.hid (show M.turnA f = f by unfold M.turnA; rw [if_neg (by omega), if_neg f5])
                      have e2 : (f == 2) = false := by simp [f2]
                      have e3 : (f == 3) = false := by simp [f3]
                      have e5 : (f == 5) = false := by simp [f5]
                      clear f2 f3 f5
                      go_wp2_with fail
                      refine (FC.out _).mono ?_
                      rintro e W2 ⟨rfl, b2⟩
                      go_wp2_with fail
                      go_ret
                      exact ⟨by rw [HT.out, HX.out]; rfl, b2⟩
      · cases a with
        | none => exfalso; have h9 := (List.getElem?_eq_some_iff.1 hd).1; rw [HN.out rfl] at h9; exact absurd h9 (Nat.not_lt_zero _)
        | some x =>
          obtain ⟨g, o, rfl, hx'⟩ := HX.out x rfl (List.ne_nil_of_length_pos (Nat.lt_of_le_of_lt (Nat.zero_le _) (List.getElem?_eq_some_iff.1 hd).1))
          have ck := (hx' d q hd).2
          have l2 := (List.getElem?_eq_some_iff.1 hd).1
          have hsz := hs q (List.mem_of_getElem? hd)
          obtain ⟨f, hf⟩ : ∃ f, M.find q.2 = f := ⟨_, rfl⟩
          have HT := Lib.hid (show M.metaA xs = M.turnA f by rw [M.metaA, M.toldA, hv1]; simp only; rw [hf])
          have FC := Lib.hid (fun W => findOf_any ⟨q.2.toArray⟩ W (by rw [size_str]; omega))
          rw [show (⟨q.2.toArray⟩ : ByteArray).data.toList = q.2 by simp, hf] at FC
          clear hv1 hd hx' hf P2 P3
          by_cases f2 : f = 2
          · subst f2
            skip
            go_wp2_with fail
            refine (FC.out _).mono ?_
            rintro e W2 ⟨rfl, b2⟩
            go_wp2_with fail
            go_ret
            exact ⟨by rw [HT.out]; rfl, b2⟩
          · by_cases f3 : f = 3
            · subst f3
              skip
              go_wp2_with fail
              refine (FC.out _).mono ?_
              rintro e W2 ⟨rfl, b2⟩
              go_wp2_with fail
              go_ret
              exact ⟨by rw [HT.out]; rfl, b2⟩
            · by_cases f5 : f = 5
              · subst f5
                skip
                go_wp2_with fail
                refine (FC.out _).mono ?_
                rintro e W2 ⟨rfl, b2⟩
                go_wp2_with fail
                go_ret
                exact ⟨by rw [HT.out]; rfl, b2⟩
              · have HX := Lib.hid (show M.turnA f = f by unfold M.turnA; rw [if_neg (by omega), if_neg f5])
                have e2 : (f == 2) = false := by simp [f2]
                have e3 : (f == 3) = false := by simp [f3]
                have e5 : (f == 5) = false := by simp [f5]
                clear f2 f3 f5
                go_wp2_with fail
                refine (FC.out _).mono ?_
                rintro e W2 ⟨rfl, b2⟩
                go_wp2_with fail
                go_ret
                exact ⟨by rw [HT.out, HX.out]; rfl, b2⟩
end Go.Proofs.YteingkjdemlhgaaGreatDoor

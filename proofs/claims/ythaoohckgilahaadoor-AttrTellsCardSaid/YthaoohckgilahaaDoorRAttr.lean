/-
  The document's answers on attributes: AttrAt.
-/
import Derived.Test.YthaoohckgilahaaDoorAttr4
import Derived.Test.YthaoohckgilahaaDoorRLabel
import Derived.Deep.CutBlock
import Derived.Deep.Cut
import Derived.Deep.CutRange
namespace Go.Proofs.YthaoohckgilahaaDoor
open Go.RowKit
set_option maxRecDepth 1000000

theorem drop_cons (s : ByteArray) (k : Nat) (h : k < s.size) : s.data.toList.drop k = s[k] :: s.data.toList.drop (k + 1) := by
  have hk : k < s.data.toList.length := by rw [← Lib.size_eq]; exact h
  rw [List.drop_eq_getElem_cons hk]
  rfl
theorem drop_end (s : ByteArray) : s.data.toList.drop s.size = [] := List.drop_eq_nil_of_le (by rw [← Lib.size_eq]; exact Nat.le_refl _)
theorem dw_go (p : UInt8 → Bool) (s : ByteArray) (j : Nat) (h : j < s.size) (hp : p s[j] = true) : (s.data.toList.drop (j + 1)).dropWhile p = (s.data.toList.drop j).dropWhile p := by
  rw [drop_cons s j h, List.dropWhile_cons, if_pos hp]
theorem dw_stop (p : UInt8 → Bool) (s : ByteArray) (j : Nat) (h : j < s.size) (hp : p s[j] = false) : (s.data.toList.drop j).dropWhile p = s.data.toList.drop j := by
  rw [drop_cons s j h, List.dropWhile_cons, if_neg (by rw [hp]; decide)]
theorem tw_go (p : UInt8 → Bool) (s : ByteArray) (j : Nat) (h : j < s.size) (hp : p s[j] = true) : (s.data.toList.drop j).takeWhile p = s[j] :: (s.data.toList.drop (j + 1)).takeWhile p := by
  rw [drop_cons s j h, List.takeWhile_cons, if_pos hp]
theorem tw_stop (p : UInt8 → Bool) (s : ByteArray) (j : Nat) (h : j < s.size) (hp : p s[j] = false) : (s.data.toList.drop j).takeWhile p = [] := by
  rw [drop_cons s j h, List.takeWhile_cons, if_neg (by rw [hp]; decide)]
theorem one_str (s : ByteArray) (u : List UInt8) (j : Nat) (h : j < s.size) : (⟨u.toArray⟩ : ByteArray) ++ s.extract j (j + 1) = ⟨(u ++ [s[j]]).toArray⟩ := by
  rw [cut_str s j 1, drop_cons s j h, str_append]; rfl
theorem name_int2 (c : UInt8) : M.nameB c = (((c.toNat : Int) != 61) && ((c.toNat : Int) != 47) && ((c.toNat : Int) != 62) && !M.white c) := by
  rw [M.nameB]
  have e47 : UInt8.toNat 47 = 47 := rfl
  have e62 : UInt8.toNat 62 = 62 := rfl
  have e61 : UInt8.toNat 61 = 61 := rfl
  rw [Bool.eq_iff_iff]
  simp only [Bool.and_eq_true, bne_iff_ne, ne_eq, decide_eq_true_eq, ← UInt8.toNat_inj]
  constructor
  · rintro ⟨h0, h1, h2, h3⟩
    exact ⟨⟨⟨by omega, by omega⟩, by omega⟩, h0⟩
  · rintro ⟨⟨⟨h1, h2⟩, h3⟩, h0⟩
    exact ⟨h0, by omega, by omega, by omega⟩
theorem not_int (q c : UInt8) : (c != q) = ((c.toNat : Int) != (q.toNat : Int)) := by rw [bne, bne, byte_eq]
theorem quote_34 (c : UInt8) (h : ((c.toNat : Int) == 34) = true) : c = 34 ∨ c = 39 := .inl (UInt8.toNat_inj.1 (by have e : UInt8.toNat 34 = 34 := rfl; simp at h; omega))
theorem quote_39 (c : UInt8) (h : ((c.toNat : Int) == 39) = true) : c = 34 ∨ c = 39 := .inr (UInt8.toNat_inj.1 (by have e : UInt8.toNat 39 = 39 := rfl; simp at h; omega))
theorem quote_no (c : UInt8) (h : ((c.toNat : Int) == 34) = false) (h2 : ((c.toNat : Int) == 39) = false) : ¬ (c = 34 ∨ c = 39) := by
  simp at h h2
  rintro (rfl | rfl)
  · exact h rfl
  · exact h2 rfl
theorem fin_attr (n : Nat) (o : Option (List UInt8 × List UInt8)) (r : List UInt8) (o' : Option (List UInt8 × List UInt8)) (r' : List UInt8) (h : (o', r') = (o, r)) (X Y : ByteArray) (hX : Value.agg #[.string X, .string Y] = agA o') (kk : Nat) (hk : kk = n - r'.length) (b : Bool) (hb : o'.isSome = b) :
    Ending.returned (.tuple #[.agg #[.string X, .string Y], .int .i64 (kk : Int), .bool b]) = .returned (.tuple #[agA o, .int .i64 ((n - r.length : Nat) : Int), .bool o.isSome]) := by
  injection h with h1 h2
  subst h1; subst h2; subst hk; subst hb
  rw [hX]
set_option maxHeartbeats 16000000 in
theorem attrAt_any (s : ByteArray) (k : Nat) (hk : k ≤ s.size) (hs : s.size ≤ 3000) (o : Option (List UInt8 × List UInt8)) (r : List UInt8) (hn : M.nextA (s.data.toList.drop k) = (o, r)) (w : World) :
    Calls Tryd.prog 13 #[.string s, .int .i64 (k : Int)] w fun e w' => e = .returned (.tuple #[agA o, .int .i64 ((s.size - r.length : Nat) : Int), .bool o.isSome]) ∧ Bel w w' := by
  have HN := Lib.hid hn
  clear hn
  have hy : Box (w.alloc (.cells #[.string ⟨#[]⟩, .string ⟨#[]⟩] 23)) w.heap.size 23 [.string ⟨#[]⟩, .string ⟨#[]⟩] := Box.new w 23 [.string ⟨#[]⟩, .string ⟨#[]⟩]
  have hb : Bel w (w.alloc (.cells #[.string ⟨#[]⟩, .string ⟨#[]⟩] 23)) := (Bel.refl w).alloc _
  go_enter Tryd.func13, Tryd.ntmps13
  go_upto_block 0 with fail
  generalize (w.alloc (.cells #[.string ⟨#[]⟩, .string ⟨#[]⟩] 23)) = W at *
  go_cut [1] from 10 to 27 (fun v wx => (∃ j : Nat, v = .int .i64 (j : Int) ∧ k ≤ j ∧ j ≤ s.size ∧ s.data.toList.drop j = (s.data.toList.drop k).dropWhile M.skipB) ∧ W = wx)
  case first =>
    go_wp2_with fail
    go_loop [1] (fun v => ∃ j : Nat, v = .int .i64 (j : Int) ∧ k ≤ j ∧ j ≤ s.size ∧ Hid ((s.data.toList.drop j).dropWhile M.skipB = (s.data.toList.drop k).dropWhile M.skipB)) (fun v => s.size - (intOf v).toNat)
    case atStart => exact ⟨k, by first | rfl | go_num, Nat.le_refl _, by omega, Lib.hid rfl⟩
    case round =>
      obtain ⟨j, rfl, hsj, hj, HJ⟩ := hrel
      by_cases hlt : j < s.size
      ·
        cases hw : M.white s[j] with
        | true =>
          have hp : (M.skipB) s[j] = true := by simp [skip_int, hw]
          have HR := Lib.hid ((dw_go (M.skipB) s j hlt hp).trans HJ.out)
          have HW := Lib.hid hw
          clear hp hw
          go_wp2_with (go_at_call 30; refine (isWhite_any _ _).mono ?_; rintro e w' ⟨rfl, rfl⟩; rw [HW.out])
          go_round
          case rel => exact ⟨j + 1, by go_num, by omega, by omega, HR⟩
          case measure => simp [intOf]; omega
        | false =>
          cases h47 : ((s[j].toNat : Int) == 47) with
          | true =>
            have hp : (M.skipB) s[j] = true := by simp [skip_int, hw, h47]
            have HR := Lib.hid ((dw_go (M.skipB) s j hlt hp).trans HJ.out)
            have HW := Lib.hid hw
            clear hp hw
            go_wp2_with (go_at_call 30; refine (isWhite_any _ _).mono ?_; rintro e w' ⟨rfl, rfl⟩; rw [HW.out])
            go_round
            case rel => exact ⟨j + 1, by go_num, by omega, by omega, HR⟩
            case measure => simp [intOf]; omega
          | false =>
            have hp : (M.skipB) s[j] = false := by simp [skip_int, hw, h47]
            have HR := Lib.hid ((dw_stop (M.skipB) s j hlt hp).symm.trans HJ.out)
            have HW := Lib.hid hw
            clear hp hw
            go_wp2_with (go_at_call 30; refine (isWhite_any _ _).mono ?_; rintro e w' ⟨rfl, rfl⟩; rw [HW.out])
            go_meet
            exact ⟨⟨j, rfl, hsj, hj, HR.out⟩, rfl⟩
      · obtain rfl : j = s.size := by omega
        have HR := Lib.hid (show s.data.toList.drop s.size = (s.data.toList.drop k).dropWhile M.skipB by rw [← HJ.out, drop_end]; rfl)
        go_wp2_with fail
        go_meet
        exact ⟨⟨s.size, rfl, hsj, hj, HR.out⟩, rfl⟩
  case rest =>
  obtain ⟨⟨k1, rfl, hk01, hk1, hl1⟩, rfl⟩ := hcut
  by_cases hlt1 : k1 < s.size
  ·
    have hne1 : ((k1 : Int) == (s.size : Int)) = false := by simp; omega
    have hdc := drop_cons s k1 hlt1
    rw [hl1] at hdc
    have hend := end_int s[k1]
    cases h62 : ((s[k1].toNat : Int) != 62) with
    | false =>
      rw [h62] at hend
      have HX := Lib.hid (show M.nextA (s.data.toList.drop k) = (none, (s.data.toList.drop k).dropWhile M.skipB) by rw [M.nextA, hdc]; simp only; rw [if_pos (by simpa using hend)])
      have h62' : ((s[k1].toNat : Int) == 62) = true := by simpa using h62
      clear hend hdc h62
      have cy0 := hy.cell 0 _ rfl
      have cy1 := hy.cell 1 _ rfl
      have fy0 := hy.frozen 0
      have fy1 := hy.frozen 1
      go_wp2_with fail
      have hz := (hy.set 0 (.string ⟨#[]⟩)).set 1 (.string ⟨#[]⟩)
      have d0 := hz.cell 0 _ rfl
      have d1 := hz.cell 1 _ rfl
      refine bodyPost_ret (v := .tuple #[.agg #[.string ⟨#[]⟩, .string ⟨#[]⟩], .int .i64 ((k1 : Nat) : Int), .bool false]) (by simp [results, Tryd.results13, go_sem, d0, d1]) rfl ⟨?_, ?_⟩
      · exact fin_attr s.size o r _ _ (HX.out.symm.trans HN.out) _ _ rfl _ (at_of s k1 hk1 _ hl1) _ rfl
      · exact (hb.setCell (p := ⟨w.heap.size, 0, none⟩) (Nat.le_refl _) _).setCell (p := ⟨w.heap.size, 1, none⟩) (Nat.le_refl _) _
    | true =>
      rw [h62] at hend
      have hc62 : s[k1] ≠ 62 := by simpa using hend
      have HX := Lib.hid (show M.nextA (s.data.toList.drop k) = M.afterA ([s[k1]] ++ (s.data.toList.drop (k1 + 1)).takeWhile M.nameB) (((s.data.toList.drop (k1 + 1)).dropWhile M.nameB).dropWhile M.white) by rw [M.nextA, hdc]; simp only; rw [if_neg hc62]; rfl)
      have h62' : ((s[k1].toNat : Int) == 62) = false := by simpa using h62
      have hn1 : s.extract k1 (k1 + 1) = ⟨[s[k1]].toArray⟩ := by rw [cut_str s k1 1, drop_cons s k1 hlt1]; rfl
      have HN1 := Lib.hid hn1
      clear hend hdc h62 hc62 hn1 hl1
      go_upto_block 2 with fail
      rw [HN1.out]
      go_cut [1, 7] from 47 to 84 (fun v t wx => (∃ (j : Nat) (u : List UInt8), v = .int .i64 (j : Int) ∧ t = .string ⟨u.toArray⟩ ∧ (k1 + 1) ≤ j ∧ j ≤ s.size ∧ s.data.toList.drop j = (s.data.toList.drop (k1 + 1)).dropWhile M.nameB ∧ u = [s[k1]] ++ (s.data.toList.drop (k1 + 1)).takeWhile M.nameB) ∧ W = wx)
      case first =>
        go_wp2_with fail
        go_loop [1, 7] (fun v t => ∃ (j : Nat) (u : List UInt8), v = .int .i64 (j : Int) ∧ t = .string ⟨u.toArray⟩ ∧ (k1 + 1) ≤ j ∧ j ≤ s.size ∧ u.length ≤ j ∧ Hid ((s.data.toList.drop j).dropWhile M.nameB = (s.data.toList.drop (k1 + 1)).dropWhile M.nameB) ∧ Hid (u ++ (s.data.toList.drop j).takeWhile M.nameB = [s[k1]] ++ (s.data.toList.drop (k1 + 1)).takeWhile M.nameB)) (fun v _ => s.size - (intOf v).toNat)
        case atStart => exact ⟨(k1 + 1), [s[k1]], by first | rfl | go_num, by first | rfl | assumption, Nat.le_refl _, by omega, by simp; try omega, Lib.hid rfl, Lib.hid rfl⟩
        case round =>
          obtain ⟨j, u, rfl, rfl, hsj, hj, hul, HJ, HU⟩ := hrel
          by_cases hlt : j < s.size
          ·
            cases h61 : ((s[j].toNat : Int) != 61) with
            | true =>
              cases h47 : ((s[j].toNat : Int) != 47) with
              | true =>
                cases h62 : ((s[j].toNat : Int) != 62) with
                | true =>
                  cases hw : M.white s[j] with
                  | true =>
                    have hp : (M.nameB) s[j] = false := by simp [name_int2, h61, h47, h62, hw]
                    have HR := Lib.hid ((dw_stop (M.nameB) s j hlt hp).symm.trans HJ.out)
                    have HV := Lib.hid (show u = [s[k1]] ++ (s.data.toList.drop (k1 + 1)).takeWhile M.nameB by rw [← HU.out, tw_stop (M.nameB) s j hlt hp, List.append_nil])
                    have HW := Lib.hid hw
                    clear hp hw
                    go_wp2_with (go_at_call 30; refine (isWhite_any _ _).mono ?_; rintro e w' ⟨rfl, rfl⟩; rw [HW.out])
                    go_meet
                    exact ⟨⟨j, u, rfl, rfl, hsj, hj, HR.out, HV.out⟩, rfl⟩
                  | false =>
                    have hp : (M.nameB) s[j] = true := by simp [name_int2, h61, h47, h62, hw]
                    have HR := Lib.hid ((dw_go (M.nameB) s j hlt hp).trans HJ.out)
                    have HV := Lib.hid (show (u ++ [s[j]]) ++ (s.data.toList.drop (j + 1)).takeWhile M.nameB = [s[k1]] ++ (s.data.toList.drop (k1 + 1)).takeWhile M.nameB by rw [← HU.out, tw_go (M.nameB) s j hlt hp, List.append_assoc]; rfl)
                    have HS := Lib.hid (one_str s u j hlt)
                    have HW := Lib.hid hw
                    clear hp hw
                    go_wp2_with (go_at_call 30; refine (isWhite_any _ _).mono ?_; rintro e w' ⟨rfl, rfl⟩; rw [HW.out])
                    go_round
                    case rel => exact ⟨j + 1, u ++ [s[j]], by go_num, by rw [← HS.out], by omega, by omega, by rw [List.length_append, List.length_singleton]; omega, HR, HV⟩
                    case measure => simp [intOf]; omega
                | false =>
                  have hp : (M.nameB) s[j] = false := by simp [name_int2, h61, h47, h62]
                  have HR := Lib.hid ((dw_stop (M.nameB) s j hlt hp).symm.trans HJ.out)
                  have HV := Lib.hid (show u = [s[k1]] ++ (s.data.toList.drop (k1 + 1)).takeWhile M.nameB by rw [← HU.out, tw_stop (M.nameB) s j hlt hp, List.append_nil])
                  clear hp
                  go_wp2_with fail
                  go_meet
                  exact ⟨⟨j, u, rfl, rfl, hsj, hj, HR.out, HV.out⟩, rfl⟩
              | false =>
                have hp : (M.nameB) s[j] = false := by simp [name_int2, h61, h47]
                have HR := Lib.hid ((dw_stop (M.nameB) s j hlt hp).symm.trans HJ.out)
                have HV := Lib.hid (show u = [s[k1]] ++ (s.data.toList.drop (k1 + 1)).takeWhile M.nameB by rw [← HU.out, tw_stop (M.nameB) s j hlt hp, List.append_nil])
                clear hp
                go_wp2_with fail
                go_meet
                exact ⟨⟨j, u, rfl, rfl, hsj, hj, HR.out, HV.out⟩, rfl⟩
            | false =>
              have hp : (M.nameB) s[j] = false := by simp [name_int2, h61]
              have HR := Lib.hid ((dw_stop (M.nameB) s j hlt hp).symm.trans HJ.out)
              have HV := Lib.hid (show u = [s[k1]] ++ (s.data.toList.drop (k1 + 1)).takeWhile M.nameB by rw [← HU.out, tw_stop (M.nameB) s j hlt hp, List.append_nil])
              clear hp
              go_wp2_with fail
              go_meet
              exact ⟨⟨j, u, rfl, rfl, hsj, hj, HR.out, HV.out⟩, rfl⟩
          · obtain rfl : j = s.size := by omega
            have HR := Lib.hid (show s.data.toList.drop s.size = (s.data.toList.drop (k1 + 1)).dropWhile M.nameB by rw [← HJ.out, drop_end]; rfl)
            have HV := Lib.hid (show u = [s[k1]] ++ (s.data.toList.drop (k1 + 1)).takeWhile M.nameB by rw [← HU.out, drop_end]; simp)
            go_wp2_with fail
            go_meet
            exact ⟨⟨s.size, u, rfl, rfl, hsj, hj, HR.out, HV.out⟩, rfl⟩
      case rest =>
      obtain ⟨⟨k2, nm, rfl, rfl, hk12, hk2, hl2, hnm⟩, rfl⟩ := hcut
      have hnl : nm.length ≤ s.size := by rw [hnm]; have h9 := (List.takeWhile_prefix M.nameB (l := s.data.toList.drop (k1 + 1))).length_le; rw [List.length_drop, ← Lib.size_eq] at h9; rw [List.length_append, List.length_singleton]; omega
      rw [← hnm, ← hl2] at HX
      clear hnm hl2 HN1
      go_upto_block 4 with fail
      go_cut [1] from 85 to 96 (fun v wx => (∃ j : Nat, v = .int .i64 (j : Int) ∧ k2 ≤ j ∧ j ≤ s.size ∧ s.data.toList.drop j = (s.data.toList.drop k2).dropWhile M.white) ∧ W = wx)
      case first =>
        go_wp2_with fail
        go_loop [1] (fun v => ∃ j : Nat, v = .int .i64 (j : Int) ∧ k2 ≤ j ∧ j ≤ s.size ∧ Hid ((s.data.toList.drop j).dropWhile M.white = (s.data.toList.drop k2).dropWhile M.white)) (fun v => s.size - (intOf v).toNat)
        case atStart => exact ⟨k2, by first | rfl | go_num, Nat.le_refl _, by omega, Lib.hid rfl⟩
        case round =>
          obtain ⟨j, rfl, hsj, hj, HJ⟩ := hrel
          by_cases hlt : j < s.size
          ·
            cases hw : M.white s[j] with
            | true =>
              have hp : (M.white) s[j] = true := by simp [hw]
              have HR := Lib.hid ((dw_go (M.white) s j hlt hp).trans HJ.out)
              have HW := Lib.hid hw
              clear hp hw
              go_wp2_with (go_at_call 30; refine (isWhite_any _ _).mono ?_; rintro e w' ⟨rfl, rfl⟩; rw [HW.out])
              go_round
              case rel => exact ⟨j + 1, by go_num, by omega, by omega, HR⟩
              case measure => simp [intOf]; omega
            | false =>
              have hp : (M.white) s[j] = false := by simp [hw]
              have HR := Lib.hid ((dw_stop (M.white) s j hlt hp).symm.trans HJ.out)
              have HW := Lib.hid hw
              clear hp hw
              go_wp2_with (go_at_call 30; refine (isWhite_any _ _).mono ?_; rintro e w' ⟨rfl, rfl⟩; rw [HW.out])
              go_meet
              exact ⟨⟨j, rfl, hsj, hj, HR.out⟩, rfl⟩
          · obtain rfl : j = s.size := by omega
            have HR := Lib.hid (show s.data.toList.drop s.size = (s.data.toList.drop k2).dropWhile M.white by rw [← HJ.out, drop_end]; rfl)
            go_wp2_with fail
            go_meet
            exact ⟨⟨s.size, rfl, hsj, hj, HR.out⟩, rfl⟩
      case rest =>
      obtain ⟨⟨k3, rfl, hk23, hk3, hl3⟩, rfl⟩ := hcut
      rw [← hl3] at HX
      clear hl3
      by_cases hlt3 : k3 < s.size
      ·
        have hne3 : ((k3 : Int) == (s.size : Int)) = false := by simp; omega
        have hdc := drop_cons s k3 hlt3
        have h61i : (s[k3] != 61) = ((s[k3].toNat : Int) != 61) := not_int 61 s[k3]
        cases h61 : ((s[k3].toNat : Int) != 61) with
        | true =>
          rw [h61] at h61i
          have HY := Lib.hid (show M.nextA (s.data.toList.drop k) = (some (M.fold nm, []), s.data.toList.drop k3) by rw [HX.out, hdc, M.afterA, if_neg (by simpa using h61i)])
          clear h61i hdc
          have cy0 := hy.cell 0 _ rfl
          have cy1 := hy.cell 1 _ rfl
          have fy0 := hy.frozen 0
          have fy1 := hy.frozen 1
          go_wp2_with fail
          refine (foldOf_any ⟨nm.toArray⟩ _ (by rw [size_str]; omega)).mono ?_
          rintro e W2 ⟨rfl, hbb⟩
          have hy := hy.bel hbb
          have hb := hb.trans hbb
          clear cy0 cy1 fy0 fy1 hbb
          have cy0 := hy.cell 0 _ rfl
          have cy1 := hy.cell 1 _ rfl
          have fy0 := hy.frozen 0
          have fy1 := hy.frozen 1
          go_wp2_with fail
          have hz := (hy.set 0 (.string ⟨(M.fold nm).toArray⟩)).set 1 (.string ⟨#[]⟩)
          have d0 := hz.cell 0 _ rfl
          have d1 := hz.cell 1 _ rfl
          refine bodyPost_ret (v := .tuple #[.agg #[.string ⟨(M.fold nm).toArray⟩, .string ⟨#[]⟩], .int .i64 ((k3 : Nat) : Int), .bool true]) (by simp [results, Tryd.results13, go_sem, d0, d1]) rfl ⟨?_, ?_⟩
          · exact fin_attr s.size o r _ _ (HY.out.symm.trans HN.out) _ _ rfl _ (at_of s k3 hk3 _ rfl) _ rfl
          · exact (hb.setCell (p := ⟨w.heap.size, 0, none⟩) (Nat.le_refl _) _).setCell (p := ⟨w.heap.size, 1, none⟩) (Nat.le_refl _) _
        | false =>
          rw [h61] at h61i
          have HY := Lib.hid (show M.nextA (s.data.toList.drop k) = ((M.valueA (s.data.toList.drop (k3 + 1))).1.map (fun v => (M.fold nm, M.fold v)), (M.valueA (s.data.toList.drop (k3 + 1))).2) by rw [HX.out, hdc, M.afterA, if_pos (by simpa using h61i)])
          clear h61i hdc HX
          go_upto_block 6 with fail
          go_cut [1] from 113 to 124 (fun v wx => (∃ j : Nat, v = .int .i64 (j : Int) ∧ (k3 + 1) ≤ j ∧ j ≤ s.size ∧ s.data.toList.drop j = (s.data.toList.drop (k3 + 1)).dropWhile M.white) ∧ W = wx)
          case first =>
            go_wp2_with fail
            go_loop [1] (fun v => ∃ j : Nat, v = .int .i64 (j : Int) ∧ (k3 + 1) ≤ j ∧ j ≤ s.size ∧ Hid ((s.data.toList.drop j).dropWhile M.white = (s.data.toList.drop (k3 + 1)).dropWhile M.white)) (fun v => s.size - (intOf v).toNat)
            case atStart => exact ⟨(k3 + 1), by first | rfl | go_num, Nat.le_refl _, by omega, Lib.hid rfl⟩
            case round =>
              obtain ⟨j, rfl, hsj, hj, HJ⟩ := hrel
              by_cases hlt : j < s.size
              ·
                cases hw : M.white s[j] with
                | true =>
                  have hp : (M.white) s[j] = true := by simp [hw]
                  have HR := Lib.hid ((dw_go (M.white) s j hlt hp).trans HJ.out)
                  have HW := Lib.hid hw
                  clear hp hw
                  go_wp2_with (go_at_call 30; refine (isWhite_any _ _).mono ?_; rintro e w' ⟨rfl, rfl⟩; rw [HW.out])
                  go_round
                  case rel => exact ⟨j + 1, by go_num, by omega, by omega, HR⟩
                  case measure => simp [intOf]; omega
                | false =>
                  have hp : (M.white) s[j] = false := by simp [hw]
                  have HR := Lib.hid ((dw_stop (M.white) s j hlt hp).symm.trans HJ.out)
                  have HW := Lib.hid hw
                  clear hp hw
                  go_wp2_with (go_at_call 30; refine (isWhite_any _ _).mono ?_; rintro e w' ⟨rfl, rfl⟩; rw [HW.out])
                  go_meet
                  exact ⟨⟨j, rfl, hsj, hj, HR.out⟩, rfl⟩
              · obtain rfl : j = s.size := by omega
                have HR := Lib.hid (show s.data.toList.drop s.size = (s.data.toList.drop (k3 + 1)).dropWhile M.white by rw [← HJ.out, drop_end]; rfl)
                go_wp2_with fail
                go_meet
                exact ⟨⟨s.size, rfl, hsj, hj, HR.out⟩, rfl⟩
          case rest =>
          obtain ⟨⟨k4, rfl, hk34, hk4, hl4⟩, rfl⟩ := hcut
          by_cases hlt4 : k4 < s.size
          ·
            cases h34 : ((s[k4].toNat : Int) == 34) with
            | true =>
              have hqq := quote_34 _ h34
              have HQ := Lib.hid (show (s.data.toList.drop (k3 + 1)).dropWhile M.white = s[k4] :: s.data.toList.drop (k4 + 1) by rw [← hl4, drop_cons s k4 hlt4])
              have HV := Lib.hid (show M.valueA (s.data.toList.drop (k3 + 1)) = M.quotedA s[k4] (s.data.toList.drop (k4 + 1)) by rw [M.valueA, HQ.out]; simp only; rw [if_pos hqq])
              clear hl4 HQ hqq
              go_upto_block 8 with fail
              obtain ⟨q, hq⟩ : ∃ q, s[k4] = q := ⟨_, rfl⟩
              have HQQ := Lib.hid hq
              rw [hq] at HV
              try rw [hq]
              clear hq
              go_cut [1, 8] from 146 to 165 (fun v t wx => (∃ (j : Nat) (u : List UInt8), v = .int .i64 (j : Int) ∧ t = .string ⟨u.toArray⟩ ∧ (k4 + 1) ≤ j ∧ j ≤ s.size ∧ s.data.toList.drop j = (s.data.toList.drop (k4 + 1)).dropWhile (fun c => c != q) ∧ u = ([] : List UInt8) ++ (s.data.toList.drop (k4 + 1)).takeWhile (fun c => c != q)) ∧ W = wx)
              case first =>
                go_wp2_with fail
                go_loop [1, 8] (fun v t => ∃ (j : Nat) (u : List UInt8), v = .int .i64 (j : Int) ∧ t = .string ⟨u.toArray⟩ ∧ (k4 + 1) ≤ j ∧ j ≤ s.size ∧ u.length ≤ j ∧ Hid ((s.data.toList.drop j).dropWhile (fun c => c != q) = (s.data.toList.drop (k4 + 1)).dropWhile (fun c => c != q)) ∧ Hid (u ++ (s.data.toList.drop j).takeWhile (fun c => c != q) = ([] : List UInt8) ++ (s.data.toList.drop (k4 + 1)).takeWhile (fun c => c != q))) (fun v _ => s.size - (intOf v).toNat)
                case atStart => exact ⟨(k4 + 1), ([] : List UInt8), by first | rfl | go_num, by first | rfl | assumption, Nat.le_refl _, by omega, by simp; try omega, Lib.hid rfl, Lib.hid rfl⟩
                case round =>
                  obtain ⟨j, u, rfl, rfl, hsj, hj, hul, HJ, HU⟩ := hrel
                  by_cases hlt : j < s.size
                  ·
                    cases hq : ((s[j].toNat : Int) != (q.toNat : Int)) with
                    | true =>
                      have hp : ((fun c => c != q)) s[j] = true := by simp [not_int q, hq]
                      have HR := Lib.hid ((dw_go ((fun c => c != q)) s j hlt hp).trans HJ.out)
                      have HV := Lib.hid (show (u ++ [s[j]]) ++ (s.data.toList.drop (j + 1)).takeWhile (fun c => c != q) = ([] : List UInt8) ++ (s.data.toList.drop (k4 + 1)).takeWhile (fun c => c != q) by rw [← HU.out, tw_go ((fun c => c != q)) s j hlt hp, List.append_assoc]; rfl)
                      have HS := Lib.hid (one_str s u j hlt)
                      clear hp
                      go_wp2_with fail
                      go_round
                      case rel => exact ⟨j + 1, u ++ [s[j]], by go_num, by rw [← HS.out], by omega, by omega, by rw [List.length_append, List.length_singleton]; omega, HR, HV⟩
                      case measure => simp [intOf]; omega
                    | false =>
                      have hp : ((fun c => c != q)) s[j] = false := by simp [not_int q, hq]
                      have HR := Lib.hid ((dw_stop ((fun c => c != q)) s j hlt hp).symm.trans HJ.out)
                      have HV := Lib.hid (show u = ([] : List UInt8) ++ (s.data.toList.drop (k4 + 1)).takeWhile (fun c => c != q) by rw [← HU.out, tw_stop ((fun c => c != q)) s j hlt hp, List.append_nil])
                      clear hp
                      go_wp2_with fail
                      go_meet
                      exact ⟨⟨j, u, rfl, rfl, hsj, hj, HR.out, HV.out⟩, rfl⟩
                  · obtain rfl : j = s.size := by omega
                    have HR := Lib.hid (show s.data.toList.drop s.size = (s.data.toList.drop (k4 + 1)).dropWhile (fun c => c != q) by rw [← HJ.out, drop_end]; rfl)
                    have HV := Lib.hid (show u = ([] : List UInt8) ++ (s.data.toList.drop (k4 + 1)).takeWhile (fun c => c != q) by rw [← HU.out, drop_end]; simp)
                    go_wp2_with fail
                    go_meet
                    exact ⟨⟨s.size, u, rfl, rfl, hsj, hj, HR.out, HV.out⟩, rfl⟩
              case rest =>
              obtain ⟨⟨k5, vv, rfl, rfl, hk45, hk5, hl5, hvv⟩, rfl⟩ := hcut
              by_cases hlt5 : k5 < s.size
              ·
                have hne5 : ((k5 : Int) == (s.size : Int)) = false := by simp; omega
                have hq5 : (s.data.toList.drop (k4 + 1)).dropWhile (fun c => c != q) = s[k5] :: s.data.toList.drop (k5 + 1) := by rw [← hl5, drop_cons s k5 hlt5]
                have HZ := Lib.hid (show M.nextA (s.data.toList.drop k) = (some (M.fold nm, M.fold vv), s.data.toList.drop (k5 + 1)) by rw [HY.out, HV.out, M.quotedA, hq5]; simp only; rw [hvv]; rfl)
                clear HY HV hl5 hq5
                have hvl : (vv).length ≤ s.size := by rw [hvv]; have h9 := (List.takeWhile_prefix (fun c => c != q) (l := s.data.toList.drop (k4 + 1))).length_le; rw [List.length_drop, ← Lib.size_eq] at h9; rw [List.nil_append]; omega
                clear hvv
                have cy0 := hy.cell 0 _ rfl
                have cy1 := hy.cell 1 _ rfl
                have fy0 := hy.frozen 0
                have fy1 := hy.frozen 1
                go_wp2_with fail
                refine (foldOf_any ⟨nm.toArray⟩ _ (by rw [size_str]; omega)).mono ?_
                rintro e W2 ⟨rfl, hbb⟩
                have hy := hy.bel hbb
                have hb := hb.trans hbb
                clear cy0 cy1 fy0 fy1 hbb
                go_wp2_with fail
                refine (foldOf_any ⟨(vv).toArray⟩ _ (by rw [size_str]; omega)).mono ?_
                rintro e W3 ⟨rfl, hbb⟩
                have hy := hy.bel hbb
                have hb := hb.trans hbb
                have cy0 := hy.cell 0 _ rfl
                have cy1 := hy.cell 1 _ rfl
                have fy0 := hy.frozen 0
                have fy1 := hy.frozen 1
                go_wp2_with fail
                have hz := (hy.set 0 (.string ⟨(M.fold nm).toArray⟩)).set 1 (.string ⟨(M.fold vv).toArray⟩)
                have d0 := hz.cell 0 _ rfl
                have d1 := hz.cell 1 _ rfl
                refine bodyPost_ret (v := .tuple #[.agg #[.string ⟨(M.fold nm).toArray⟩, .string ⟨(M.fold vv).toArray⟩], .int .i64 ((k5 + 1 : Nat) : Int), .bool true]) (by simp [results, Tryd.results13, go_sem, d0, d1]) rfl ⟨?_, ?_⟩
                · exact fin_attr s.size o r _ _ (HZ.out.symm.trans HN.out) _ _ rfl _ (at_of s (k5 + 1) (by omega) _ rfl) _ rfl
                · exact (hb.setCell (p := ⟨w.heap.size, 0, none⟩) (Nat.le_refl _) _).setCell (p := ⟨w.heap.size, 1, none⟩) (Nat.le_refl _) _
              · obtain rfl : k5 = s.size := by omega
                have HZ := Lib.hid (show M.nextA (s.data.toList.drop k) = (none, []) by rw [HY.out, HV.out, M.quotedA, ← hl5, drop_end]; rfl)
                clear HY HV hl5 hvv
                have cy0 := hy.cell 0 _ rfl
                have cy1 := hy.cell 1 _ rfl
                have fy0 := hy.frozen 0
                have fy1 := hy.frozen 1
                go_wp2_with fail
                have hz := (hy.set 0 (.string ⟨#[]⟩)).set 1 (.string ⟨#[]⟩)
                have d0 := hz.cell 0 _ rfl
                have d1 := hz.cell 1 _ rfl
                refine bodyPost_ret (v := .tuple #[.agg #[.string ⟨#[]⟩, .string ⟨#[]⟩], .int .i64 ((s.size : Nat) : Int), .bool false]) (by simp [results, Tryd.results13, go_sem, d0, d1]) rfl ⟨?_, ?_⟩
                · exact fin_attr s.size o r _ _ (HZ.out.symm.trans HN.out) _ _ rfl _ (by simp) _ rfl
                · exact (hb.setCell (p := ⟨w.heap.size, 0, none⟩) (Nat.le_refl _) _).setCell (p := ⟨w.heap.size, 1, none⟩) (Nat.le_refl _) _
            | false =>
              cases h39 : ((s[k4].toNat : Int) == 39) with
              | true =>
                have hqq := quote_39 _ h39
                have HQ := Lib.hid (show (s.data.toList.drop (k3 + 1)).dropWhile M.white = s[k4] :: s.data.toList.drop (k4 + 1) by rw [← hl4, drop_cons s k4 hlt4])
                have HV := Lib.hid (show M.valueA (s.data.toList.drop (k3 + 1)) = M.quotedA s[k4] (s.data.toList.drop (k4 + 1)) by rw [M.valueA, HQ.out]; simp only; rw [if_pos hqq])
                clear hl4 HQ hqq
                go_upto_block 8 with fail
                obtain ⟨q, hq⟩ : ∃ q, s[k4] = q := ⟨_, rfl⟩
                have HQQ := Lib.hid hq
                rw [hq] at HV
                try rw [hq]
                clear hq
                go_cut [1, 8] from 146 to 165 (fun v t wx => (∃ (j : Nat) (u : List UInt8), v = .int .i64 (j : Int) ∧ t = .string ⟨u.toArray⟩ ∧ (k4 + 1) ≤ j ∧ j ≤ s.size ∧ s.data.toList.drop j = (s.data.toList.drop (k4 + 1)).dropWhile (fun c => c != q) ∧ u = ([] : List UInt8) ++ (s.data.toList.drop (k4 + 1)).takeWhile (fun c => c != q)) ∧ W = wx)
                case first =>
                  go_wp2_with fail
                  go_loop [1, 8] (fun v t => ∃ (j : Nat) (u : List UInt8), v = .int .i64 (j : Int) ∧ t = .string ⟨u.toArray⟩ ∧ (k4 + 1) ≤ j ∧ j ≤ s.size ∧ u.length ≤ j ∧ Hid ((s.data.toList.drop j).dropWhile (fun c => c != q) = (s.data.toList.drop (k4 + 1)).dropWhile (fun c => c != q)) ∧ Hid (u ++ (s.data.toList.drop j).takeWhile (fun c => c != q) = ([] : List UInt8) ++ (s.data.toList.drop (k4 + 1)).takeWhile (fun c => c != q))) (fun v _ => s.size - (intOf v).toNat)
                  case atStart => exact ⟨(k4 + 1), ([] : List UInt8), by first | rfl | go_num, by first | rfl | assumption, Nat.le_refl _, by omega, by simp; try omega, Lib.hid rfl, Lib.hid rfl⟩
                  case round =>
                    obtain ⟨j, u, rfl, rfl, hsj, hj, hul, HJ, HU⟩ := hrel
                    by_cases hlt : j < s.size
                    ·
                      cases hq : ((s[j].toNat : Int) != (q.toNat : Int)) with
                      | true =>
                        have hp : ((fun c => c != q)) s[j] = true := by simp [not_int q, hq]
                        have HR := Lib.hid ((dw_go ((fun c => c != q)) s j hlt hp).trans HJ.out)
                        have HV := Lib.hid (show (u ++ [s[j]]) ++ (s.data.toList.drop (j + 1)).takeWhile (fun c => c != q) = ([] : List UInt8) ++ (s.data.toList.drop (k4 + 1)).takeWhile (fun c => c != q) by rw [← HU.out, tw_go ((fun c => c != q)) s j hlt hp, List.append_assoc]; rfl)
                        have HS := Lib.hid (one_str s u j hlt)
                        clear hp
                        go_wp2_with fail
                        go_round
                        case rel => exact ⟨j + 1, u ++ [s[j]], by go_num, by rw [← HS.out], by omega, by omega, by rw [List.length_append, List.length_singleton]; omega, HR, HV⟩
                        case measure => simp [intOf]; omega
                      | false =>
                        have hp : ((fun c => c != q)) s[j] = false := by simp [not_int q, hq]
                        have HR := Lib.hid ((dw_stop ((fun c => c != q)) s j hlt hp).symm.trans HJ.out)
                        have HV := Lib.hid (show u = ([] : List UInt8) ++ (s.data.toList.drop (k4 + 1)).takeWhile (fun c => c != q) by rw [← HU.out, tw_stop ((fun c => c != q)) s j hlt hp, List.append_nil])
                        clear hp
                        go_wp2_with fail
                        go_meet
                        exact ⟨⟨j, u, rfl, rfl, hsj, hj, HR.out, HV.out⟩, rfl⟩
                    · obtain rfl : j = s.size := by omega
                      have HR := Lib.hid (show s.data.toList.drop s.size = (s.data.toList.drop (k4 + 1)).dropWhile (fun c => c != q) by rw [← HJ.out, drop_end]; rfl)
                      have HV := Lib.hid (show u = ([] : List UInt8) ++ (s.data.toList.drop (k4 + 1)).takeWhile (fun c => c != q) by rw [← HU.out, drop_end]; simp)
                      go_wp2_with fail
                      go_meet
                      exact ⟨⟨s.size, u, rfl, rfl, hsj, hj, HR.out, HV.out⟩, rfl⟩
                case rest =>
                obtain ⟨⟨k5, vv, rfl, rfl, hk45, hk5, hl5, hvv⟩, rfl⟩ := hcut
                by_cases hlt5 : k5 < s.size
                ·
                  have hne5 : ((k5 : Int) == (s.size : Int)) = false := by simp; omega
                  have hq5 : (s.data.toList.drop (k4 + 1)).dropWhile (fun c => c != q) = s[k5] :: s.data.toList.drop (k5 + 1) := by rw [← hl5, drop_cons s k5 hlt5]
                  have HZ := Lib.hid (show M.nextA (s.data.toList.drop k) = (some (M.fold nm, M.fold vv), s.data.toList.drop (k5 + 1)) by rw [HY.out, HV.out, M.quotedA, hq5]; simp only; rw [hvv]; rfl)
                  clear HY HV hl5 hq5
                  have hvl : (vv).length ≤ s.size := by rw [hvv]; have h9 := (List.takeWhile_prefix (fun c => c != q) (l := s.data.toList.drop (k4 + 1))).length_le; rw [List.length_drop, ← Lib.size_eq] at h9; rw [List.nil_append]; omega
                  clear hvv
                  have cy0 := hy.cell 0 _ rfl
                  have cy1 := hy.cell 1 _ rfl
                  have fy0 := hy.frozen 0
                  have fy1 := hy.frozen 1
                  go_wp2_with fail
                  refine (foldOf_any ⟨nm.toArray⟩ _ (by rw [size_str]; omega)).mono ?_
                  rintro e W2 ⟨rfl, hbb⟩
                  have hy := hy.bel hbb
                  have hb := hb.trans hbb
                  clear cy0 cy1 fy0 fy1 hbb
                  go_wp2_with fail
                  refine (foldOf_any ⟨(vv).toArray⟩ _ (by rw [size_str]; omega)).mono ?_
                  rintro e W3 ⟨rfl, hbb⟩
                  have hy := hy.bel hbb
                  have hb := hb.trans hbb
                  have cy0 := hy.cell 0 _ rfl
                  have cy1 := hy.cell 1 _ rfl
                  have fy0 := hy.frozen 0
                  have fy1 := hy.frozen 1
                  go_wp2_with fail
                  have hz := (hy.set 0 (.string ⟨(M.fold nm).toArray⟩)).set 1 (.string ⟨(M.fold vv).toArray⟩)
                  have d0 := hz.cell 0 _ rfl
                  have d1 := hz.cell 1 _ rfl
                  refine bodyPost_ret (v := .tuple #[.agg #[.string ⟨(M.fold nm).toArray⟩, .string ⟨(M.fold vv).toArray⟩], .int .i64 ((k5 + 1 : Nat) : Int), .bool true]) (by simp [results, Tryd.results13, go_sem, d0, d1]) rfl ⟨?_, ?_⟩
                  · exact fin_attr s.size o r _ _ (HZ.out.symm.trans HN.out) _ _ rfl _ (at_of s (k5 + 1) (by omega) _ rfl) _ rfl
                  · exact (hb.setCell (p := ⟨w.heap.size, 0, none⟩) (Nat.le_refl _) _).setCell (p := ⟨w.heap.size, 1, none⟩) (Nat.le_refl _) _
                · obtain rfl : k5 = s.size := by omega
                  have HZ := Lib.hid (show M.nextA (s.data.toList.drop k) = (none, []) by rw [HY.out, HV.out, M.quotedA, ← hl5, drop_end]; rfl)
                  clear HY HV hl5 hvv
                  have cy0 := hy.cell 0 _ rfl
                  have cy1 := hy.cell 1 _ rfl
                  have fy0 := hy.frozen 0
                  have fy1 := hy.frozen 1
                  go_wp2_with fail
                  have hz := (hy.set 0 (.string ⟨#[]⟩)).set 1 (.string ⟨#[]⟩)
                  have d0 := hz.cell 0 _ rfl
                  have d1 := hz.cell 1 _ rfl
                  refine bodyPost_ret (v := .tuple #[.agg #[.string ⟨#[]⟩, .string ⟨#[]⟩], .int .i64 ((s.size : Nat) : Int), .bool false]) (by simp [results, Tryd.results13, go_sem, d0, d1]) rfl ⟨?_, ?_⟩
                  · exact fin_attr s.size o r _ _ (HZ.out.symm.trans HN.out) _ _ rfl _ (by simp) _ rfl
                  · exact (hb.setCell (p := ⟨w.heap.size, 0, none⟩) (Nat.le_refl _) _).setCell (p := ⟨w.heap.size, 1, none⟩) (Nat.le_refl _) _
              | false =>
                have hqq := quote_no _ h34 h39
                have HV := Lib.hid (show M.valueA (s.data.toList.drop (k3 + 1)) = (some ((s.data.toList.drop k4).takeWhile M.valB), (s.data.toList.drop k4).dropWhile M.valB) by rw [M.valueA, ← hl4, drop_cons s k4 hlt4]; simp only; rw [if_neg hqq])
                clear hqq hl4
                go_upto_block 10 with fail
                go_cut [1, 8] from 174 to 199 (fun v t wx => (∃ (j : Nat) (u : List UInt8), v = .int .i64 (j : Int) ∧ t = .string ⟨u.toArray⟩ ∧ k4 ≤ j ∧ j ≤ s.size ∧ s.data.toList.drop j = (s.data.toList.drop k4).dropWhile M.valB ∧ u = ([] : List UInt8) ++ (s.data.toList.drop k4).takeWhile M.valB) ∧ W = wx)
                case first =>
                  go_wp2_with fail
                  go_loop [1, 8] (fun v t => ∃ (j : Nat) (u : List UInt8), v = .int .i64 (j : Int) ∧ t = .string ⟨u.toArray⟩ ∧ k4 ≤ j ∧ j ≤ s.size ∧ u.length ≤ j ∧ Hid ((s.data.toList.drop j).dropWhile M.valB = (s.data.toList.drop k4).dropWhile M.valB) ∧ Hid (u ++ (s.data.toList.drop j).takeWhile M.valB = ([] : List UInt8) ++ (s.data.toList.drop k4).takeWhile M.valB)) (fun v _ => s.size - (intOf v).toNat)
                  case atStart => exact ⟨k4, ([] : List UInt8), by first | rfl | go_num, by first | rfl | assumption, Nat.le_refl _, by omega, by simp; try omega, Lib.hid rfl, Lib.hid rfl⟩
                  case round =>
                    obtain ⟨j, u, rfl, rfl, hsj, hj, hul, HJ, HU⟩ := hrel
                    by_cases hlt : j < s.size
                    ·
                      cases h62 : ((s[j].toNat : Int) != 62) with
                      | true =>
                        cases hw : M.white s[j] with
                        | true =>
                          have hp : (M.valB) s[j] = false := by simp [val_int, h62, hw]
                          have HR := Lib.hid ((dw_stop (M.valB) s j hlt hp).symm.trans HJ.out)
                          have HV := Lib.hid (show u = ([] : List UInt8) ++ (s.data.toList.drop k4).takeWhile M.valB by rw [← HU.out, tw_stop (M.valB) s j hlt hp, List.append_nil])
                          have HW := Lib.hid hw
                          clear hp hw
                          go_wp2_with (go_at_call 30; refine (isWhite_any _ _).mono ?_; rintro e w' ⟨rfl, rfl⟩; rw [HW.out])
                          go_meet
                          exact ⟨⟨j, u, rfl, rfl, hsj, hj, HR.out, HV.out⟩, rfl⟩
                        | false =>
                          have hp : (M.valB) s[j] = true := by simp [val_int, h62, hw]
                          have HR := Lib.hid ((dw_go (M.valB) s j hlt hp).trans HJ.out)
                          have HV := Lib.hid (show (u ++ [s[j]]) ++ (s.data.toList.drop (j + 1)).takeWhile M.valB = ([] : List UInt8) ++ (s.data.toList.drop k4).takeWhile M.valB by rw [← HU.out, tw_go (M.valB) s j hlt hp, List.append_assoc]; rfl)
                          have HS := Lib.hid (one_str s u j hlt)
                          have HW := Lib.hid hw
                          clear hp hw
                          go_wp2_with (go_at_call 30; refine (isWhite_any _ _).mono ?_; rintro e w' ⟨rfl, rfl⟩; rw [HW.out])
                          go_round
                          case rel => exact ⟨j + 1, u ++ [s[j]], by go_num, by rw [← HS.out], by omega, by omega, by rw [List.length_append, List.length_singleton]; omega, HR, HV⟩
                          case measure => simp [intOf]; omega
                      | false =>
                        have hp : (M.valB) s[j] = false := by simp [val_int, h62]
                        have HR := Lib.hid ((dw_stop (M.valB) s j hlt hp).symm.trans HJ.out)
                        have HV := Lib.hid (show u = ([] : List UInt8) ++ (s.data.toList.drop k4).takeWhile M.valB by rw [← HU.out, tw_stop (M.valB) s j hlt hp, List.append_nil])
                        clear hp
                        go_wp2_with fail
                        go_meet
                        exact ⟨⟨j, u, rfl, rfl, hsj, hj, HR.out, HV.out⟩, rfl⟩
                    · obtain rfl : j = s.size := by omega
                      have HR := Lib.hid (show s.data.toList.drop s.size = (s.data.toList.drop k4).dropWhile M.valB by rw [← HJ.out, drop_end]; rfl)
                      have HV := Lib.hid (show u = ([] : List UInt8) ++ (s.data.toList.drop k4).takeWhile M.valB by rw [← HU.out, drop_end]; simp)
                      go_wp2_with fail
                      go_meet
                      exact ⟨⟨s.size, u, rfl, rfl, hsj, hj, HR.out, HV.out⟩, rfl⟩
                case rest =>
                obtain ⟨⟨k6, vv, rfl, rfl, hk46, hk6, hl6, hvv⟩, rfl⟩ := hcut
                have HZ := Lib.hid (show M.nextA (s.data.toList.drop k) = (some (M.fold nm, M.fold vv), s.data.toList.drop k6) by rw [HY.out, HV.out, hl6, hvv]; rfl)
                clear HY HV hl6
                have hvl : (vv).length ≤ s.size := by rw [hvv]; have h9 := (List.takeWhile_prefix M.valB (l := s.data.toList.drop k4)).length_le; rw [List.length_drop, ← Lib.size_eq] at h9; rw [List.nil_append]; omega
                clear hvv
                have cy0 := hy.cell 0 _ rfl
                have cy1 := hy.cell 1 _ rfl
                have fy0 := hy.frozen 0
                have fy1 := hy.frozen 1
                go_wp2_with fail
                refine (foldOf_any ⟨nm.toArray⟩ _ (by rw [size_str]; omega)).mono ?_
                rintro e W2 ⟨rfl, hbb⟩
                have hy := hy.bel hbb
                have hb := hb.trans hbb
                clear cy0 cy1 fy0 fy1 hbb
                go_wp2_with fail
                refine (foldOf_any ⟨(vv).toArray⟩ _ (by rw [size_str]; omega)).mono ?_
                rintro e W3 ⟨rfl, hbb⟩
                have hy := hy.bel hbb
                have hb := hb.trans hbb
                have cy0 := hy.cell 0 _ rfl
                have cy1 := hy.cell 1 _ rfl
                have fy0 := hy.frozen 0
                have fy1 := hy.frozen 1
                go_wp2_with fail
                have hz := (hy.set 0 (.string ⟨(M.fold nm).toArray⟩)).set 1 (.string ⟨(M.fold vv).toArray⟩)
                have d0 := hz.cell 0 _ rfl
                have d1 := hz.cell 1 _ rfl
                refine bodyPost_ret (v := .tuple #[.agg #[.string ⟨(M.fold nm).toArray⟩, .string ⟨(M.fold vv).toArray⟩], .int .i64 ((k6 : Nat) : Int), .bool true]) (by simp [results, Tryd.results13, go_sem, d0, d1]) rfl ⟨?_, ?_⟩
                · exact fin_attr s.size o r _ _ (HZ.out.symm.trans HN.out) _ _ rfl _ (at_of s k6 hk6 _ rfl) _ rfl
                · exact (hb.setCell (p := ⟨w.heap.size, 0, none⟩) (Nat.le_refl _) _).setCell (p := ⟨w.heap.size, 1, none⟩) (Nat.le_refl _) _
          · obtain rfl : k4 = s.size := by omega
            have HV := Lib.hid (show M.valueA (s.data.toList.drop (k3 + 1)) = (some ((s.data.toList.drop s.size).takeWhile M.valB), (s.data.toList.drop s.size).dropWhile M.valB) by rw [M.valueA, ← hl4, drop_end]; rfl)
            have HE := Lib.hid hl4
            clear hl4
            go_upto_block 10 with fail
            go_cut [1, 8] from 174 to 199 (fun v t wx => (∃ (j : Nat) (u : List UInt8), v = .int .i64 (j : Int) ∧ t = .string ⟨u.toArray⟩ ∧ s.size ≤ j ∧ j ≤ s.size ∧ s.data.toList.drop j = (s.data.toList.drop s.size).dropWhile M.valB ∧ u = ([] : List UInt8) ++ (s.data.toList.drop s.size).takeWhile M.valB) ∧ W = wx)
            case first =>
              go_wp2_with fail
              go_loop [1, 8] (fun v t => ∃ (j : Nat) (u : List UInt8), v = .int .i64 (j : Int) ∧ t = .string ⟨u.toArray⟩ ∧ s.size ≤ j ∧ j ≤ s.size ∧ u.length ≤ j ∧ Hid ((s.data.toList.drop j).dropWhile M.valB = (s.data.toList.drop s.size).dropWhile M.valB) ∧ Hid (u ++ (s.data.toList.drop j).takeWhile M.valB = ([] : List UInt8) ++ (s.data.toList.drop s.size).takeWhile M.valB)) (fun v _ => s.size - (intOf v).toNat)
              case atStart => exact ⟨s.size, ([] : List UInt8), by first | rfl | go_num, by first | rfl | assumption, Nat.le_refl _, by omega, by simp; try omega, Lib.hid rfl, Lib.hid rfl⟩
              case round =>
                obtain ⟨j, u, rfl, rfl, hsj, hj, hul, HJ, HU⟩ := hrel
                by_cases hlt : j < s.size
                ·
                  exfalso
                  omega
                · obtain rfl : j = s.size := by omega
                  have HR := Lib.hid (show s.data.toList.drop s.size = (s.data.toList.drop s.size).dropWhile M.valB by rw [← HJ.out, drop_end]; rfl)
                  have HV := Lib.hid (show u = ([] : List UInt8) ++ (s.data.toList.drop s.size).takeWhile M.valB by rw [← HU.out, drop_end]; simp)
                  go_wp2_with fail
                  go_meet
                  exact ⟨⟨s.size, u, rfl, rfl, hsj, hj, HR.out, HV.out⟩, rfl⟩
            case rest =>
            obtain ⟨⟨k6, vv, rfl, rfl, hk46, hk6, hl6, hvv⟩, rfl⟩ := hcut
            have HZ := Lib.hid (show M.nextA (s.data.toList.drop k) = (some (M.fold nm, M.fold vv), s.data.toList.drop k6) by rw [HY.out, HV.out, hl6, hvv]; rfl)
            clear HY HV hl6
            have hvl : (vv).length ≤ s.size := by rw [hvv, drop_end]; exact Nat.zero_le _
            clear hvv
            have cy0 := hy.cell 0 _ rfl
            have cy1 := hy.cell 1 _ rfl
            have fy0 := hy.frozen 0
            have fy1 := hy.frozen 1
            go_wp2_with fail
            refine (foldOf_any ⟨nm.toArray⟩ _ (by rw [size_str]; omega)).mono ?_
            rintro e W2 ⟨rfl, hbb⟩
            have hy := hy.bel hbb
            have hb := hb.trans hbb
            clear cy0 cy1 fy0 fy1 hbb
            go_wp2_with fail
            refine (foldOf_any ⟨(vv).toArray⟩ _ (by rw [size_str]; omega)).mono ?_
            rintro e W3 ⟨rfl, hbb⟩
            have hy := hy.bel hbb
            have hb := hb.trans hbb
            have cy0 := hy.cell 0 _ rfl
            have cy1 := hy.cell 1 _ rfl
            have fy0 := hy.frozen 0
            have fy1 := hy.frozen 1
            go_wp2_with fail
            have hz := (hy.set 0 (.string ⟨(M.fold nm).toArray⟩)).set 1 (.string ⟨(M.fold vv).toArray⟩)
            have d0 := hz.cell 0 _ rfl
            have d1 := hz.cell 1 _ rfl
            refine bodyPost_ret (v := .tuple #[.agg #[.string ⟨(M.fold nm).toArray⟩, .string ⟨(M.fold vv).toArray⟩], .int .i64 ((k6 : Nat) : Int), .bool true]) (by simp [results, Tryd.results13, go_sem, d0, d1]) rfl ⟨?_, ?_⟩
            · exact fin_attr s.size o r _ _ (HZ.out.symm.trans HN.out) _ _ rfl _ (at_of s k6 hk6 _ rfl) _ rfl
            · exact (hb.setCell (p := ⟨w.heap.size, 0, none⟩) (Nat.le_refl _) _).setCell (p := ⟨w.heap.size, 1, none⟩) (Nat.le_refl _) _
      · obtain rfl : k3 = s.size := by omega
        have HY := Lib.hid (show M.nextA (s.data.toList.drop k) = (some (M.fold nm, []), s.data.toList.drop s.size) by rw [HX.out, drop_end]; rfl)
        have cy0 := hy.cell 0 _ rfl
        have cy1 := hy.cell 1 _ rfl
        have fy0 := hy.frozen 0
        have fy1 := hy.frozen 1
        go_wp2_with fail
        refine (foldOf_any ⟨nm.toArray⟩ _ (by rw [size_str]; omega)).mono ?_
        rintro e W2 ⟨rfl, hbb⟩
        have hy := hy.bel hbb
        have hb := hb.trans hbb
        clear cy0 cy1 fy0 fy1 hbb
        have cy0 := hy.cell 0 _ rfl
        have cy1 := hy.cell 1 _ rfl
        have fy0 := hy.frozen 0
        have fy1 := hy.frozen 1
        go_wp2_with fail
        have hz := (hy.set 0 (.string ⟨(M.fold nm).toArray⟩)).set 1 (.string ⟨#[]⟩)
        have d0 := hz.cell 0 _ rfl
        have d1 := hz.cell 1 _ rfl
        refine bodyPost_ret (v := .tuple #[.agg #[.string ⟨(M.fold nm).toArray⟩, .string ⟨#[]⟩], .int .i64 ((s.size : Nat) : Int), .bool true]) (by simp [results, Tryd.results13, go_sem, d0, d1]) rfl ⟨?_, ?_⟩
        · exact fin_attr s.size o r _ _ (HY.out.symm.trans HN.out) _ _ rfl _ (by rw [drop_end]; simp) _ rfl
        · exact (hb.setCell (p := ⟨w.heap.size, 0, none⟩) (Nat.le_refl _) _).setCell (p := ⟨w.heap.size, 1, none⟩) (Nat.le_refl _) _
  · obtain rfl : k1 = s.size := by omega
    have HX := Lib.hid (show M.nextA (s.data.toList.drop k) = (none, []) by rw [M.nextA, ← hl1, drop_end])
    have cy0 := hy.cell 0 _ rfl
    have cy1 := hy.cell 1 _ rfl
    have fy0 := hy.frozen 0
    have fy1 := hy.frozen 1
    go_wp2_with fail
    have hz := (hy.set 0 (.string ⟨#[]⟩)).set 1 (.string ⟨#[]⟩)
    have d0 := hz.cell 0 _ rfl
    have d1 := hz.cell 1 _ rfl
    refine bodyPost_ret (v := .tuple #[.agg #[.string ⟨#[]⟩, .string ⟨#[]⟩], .int .i64 ((s.size : Nat) : Int), .bool false]) (by simp [results, Tryd.results13, go_sem, d0, d1]) rfl ⟨?_, ?_⟩
    · exact fin_attr s.size o r _ _ (HX.out.symm.trans HN.out) _ _ rfl _ (by simp) _ rfl
    · exact (hb.setCell (p := ⟨w.heap.size, 0, none⟩) (Nat.le_refl _) _).setCell (p := ⟨w.heap.size, 1, none⟩) (Nat.le_refl _) _
end Go.Proofs.YthaoohckgilahaaDoor

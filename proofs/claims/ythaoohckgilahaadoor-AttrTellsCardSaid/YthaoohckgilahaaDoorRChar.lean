/-
  The document's answers on attributes: CharsetOf.
-/
import Derived.Test.YthaoohckgilahaaDoorRAttr3
import Derived.Deep.CutBlock
import Derived.Deep.Cut
import Derived.Deep.CutRange
namespace Go.Proofs.YthaoohckgilahaaDoor
open Go.RowKit
set_option maxRecDepth 1000000

theorem pre_room (l : List UInt8) (h : Lib.hasPrefix (M.fold l) M.charset7 = true) : 7 ≤ l.length := by
  have h1 : Lib.occAt (M.fold l) M.charset7 0 = true := h
  rcases Lib.occAt_room h1 with h2 | h2
  · rw [M.fold_len] at h2
    have : M.charset7.length = 7 := rfl
    omega
  · cases h2
theorem charOf_quote (l u : List UInt8) (q : UInt8) (h : l.dropWhile M.white = q :: u) (hq : q = 34 ∨ q = 39) (o : Option (List UInt8)) (ho : (M.quotedA q u).1 = o) : M.charOf l = o.elim 0 M.find := by
  subst ho
  rw [M.charOf, h]
  simp only
  rw [if_pos hq]
  cases (M.quotedA q u).1 <;> rfl
theorem char_found (s : ByteArray) (k1 k2 j : Nat) (hk : k2 < s.size) (hlt : j < s.size) (hQ : (s.data.toList.drop (k1 + 1)).dropWhile M.white = s[k2] :: s.data.toList.drop (k2 + 1)) (hqq : s[k2] = 34 ∨ s[k2] = 39)
    (hJ : (s.data.toList.drop j).dropWhile (fun c => c != s[k2]) = (s.data.toList.drop (k2 + 1)).dropWhile (fun c => c != s[k2]))
    (hT : (s.data.toList.drop (k2 + 1)).takeWhile (fun c => c != s[k2]) = (s.data.toList.drop (k2 + 1)).take (j - (k2 + 1)) ++ (s.data.toList.drop j).takeWhile (fun c => c != s[k2])) (hq : ((s[j].toNat : Int) == (s[k2].toNat : Int)) = true) :
    M.charOf (s.data.toList.drop (k1 + 1)) = M.find ((s.data.toList.drop (k2 + 1)).take (j - (k2 + 1))) := by
  have he : ((fun c => c != s[k2]) s[j]) = false := by show (s[j] != s[k2]) = false; rw [not_int]; simpa using hq
  have h1 : (s.data.toList.drop j).dropWhile (fun c => c != s[k2]) = s[j] :: s.data.toList.drop (j + 1) := by rw [drop_cons s j hlt, List.dropWhile_cons_of_neg (p := fun c => c != s[k2]) (fun h9 => Bool.noConfusion (h9.symm.trans he))]
  have h2 : (s.data.toList.drop j).takeWhile (fun c => c != s[k2]) = [] := by rw [drop_cons s j hlt, List.takeWhile_cons_of_neg (p := fun c => c != s[k2]) (fun h9 => Bool.noConfusion (h9.symm.trans he))]
  refine (charOf_quote _ _ _ hQ hqq (some ((s.data.toList.drop (k2 + 1)).take (j - (k2 + 1)))) ?_).trans rfl
  rw [M.quotedA, ← hJ, h1, hT, h2, List.append_nil]
theorem char_open (s : ByteArray) (k1 k2 : Nat) (hk : k2 < s.size) (hQ : (s.data.toList.drop (k1 + 1)).dropWhile M.white = s[k2] :: s.data.toList.drop (k2 + 1)) (hqq : s[k2] = 34 ∨ s[k2] = 39)
    (hJ : (s.data.toList.drop s.size).dropWhile (fun c => c != s[k2]) = (s.data.toList.drop (k2 + 1)).dropWhile (fun c => c != s[k2])) : M.charOf (s.data.toList.drop (k1 + 1)) = 0 := by
  refine (charOf_quote _ _ _ hQ hqq none ?_).trans rfl
  rw [M.quotedA, ← hJ, drop_end]
  rfl
theorem find_more (s : ByteArray) (k2 j : Nat) (hk : k2 < s.size) (hlt : j < s.size) (hkj : k2 + 1 ≤ j) (hq : ((s[j].toNat : Int) == (s[k2].toNat : Int)) = false)
    (hJ : (s.data.toList.drop j).dropWhile (fun c => c != s[k2]) = (s.data.toList.drop (k2 + 1)).dropWhile (fun c => c != s[k2]))
    (hT : (s.data.toList.drop (k2 + 1)).takeWhile (fun c => c != s[k2]) = (s.data.toList.drop (k2 + 1)).take (j - (k2 + 1)) ++ (s.data.toList.drop j).takeWhile (fun c => c != s[k2])) :
    (s.data.toList.drop (j + 1)).dropWhile (fun c => c != s[k2]) = (s.data.toList.drop (k2 + 1)).dropWhile (fun c => c != s[k2]) ∧
    (s.data.toList.drop (k2 + 1)).takeWhile (fun c => c != s[k2]) = (s.data.toList.drop (k2 + 1)).take (j + 1 - (k2 + 1)) ++ (s.data.toList.drop (j + 1)).takeWhile (fun c => c != s[k2]) := by
  have he : ((fun c => c != s[k2]) s[j]) = true := by show (s[j] != s[k2]) = true; rw [not_int]; simpa using hq
  refine ⟨(dw_go _ s j hlt he).trans hJ, ?_⟩
  rw [hT, tw_go _ s j hlt he, show j + 1 - (k2 + 1) = j - (k2 + 1) + 1 by omega, List.take_add_one, List.getElem?_drop, show k2 + 1 + (j - (k2 + 1)) = j by omega, byte_at s j hlt]
  simp
set_option maxHeartbeats 16000000 in
theorem charsetOf_any (s : ByteArray) (hs : s.size ≤ 3000) (w : World) : Calls Tryd.prog 12 #[.string s] w fun e w' => e = .returned (.int .i64 (M.charA s.data.toList)) ∧ Bel w w' := by
  go_enter Tryd.func12, Tryd.ntmps12
  go_wp2_with fail
  go_loopg [3] (s.size + 1) (fun gg at_ wr => ∃ j : Nat, at_ = .int .i64 (j : Int) ∧ j ≤ s.size ∧ s.size - j ≤ gg ∧ Bel w wr ∧ Hid (M.charA s.data.toList = M.charA (s.data.toList.drop j)))
  case atStart => exact ⟨0, rfl, by omega, by omega, Bel.refl _, Lib.hid (by rw [List.drop_zero])⟩
  case round =>
    obtain ⟨k0, rfl, hk0, hg, hb, HJ⟩ := hrel
    by_cases hlt : k0 < s.size
    · have hdc := drop_cons s k0 hlt
      have bg := beginsAt_any s ⟨#[99, 104, 97, 114, 115, 101, 116]⟩ k0 hk0 hs wr
      cases hpre : Lib.hasPrefix (M.fold (s.data.toList.drop k0)) M.charset7 with
      | false =>
        have HR := Lib.hid (show M.charA s.data.toList = M.charA (s.data.toList.drop (k0 + 1)) by rw [HJ.out, hdc]; exact M.charA_step _ _ (by rw [← hdc]; exact hpre))
        rw [show Lib.hasPrefix (M.fold (s.data.toList.drop k0)) (⟨#[99, 104, 97, 114, 115, 101, 116]⟩ : ByteArray).data.toList = false from hpre] at bg
        clear hpre hdc HJ
        go_wp2_with fail
        refine bg.mono ?_
        rintro e W ⟨rfl, hb1⟩
        have hb := hb.trans hb1
        clear hb1 bg
        go_wp2_with fail
        go_roundg (s.size - (k0 + 1))
        case measure => omega
        case rel => exact ⟨k0 + 1, by go_num, by omega, Nat.le_refl _, hb, HR⟩
      | true =>
        have hroom := pre_room _ hpre
        rw [List.length_drop, ← Lib.size_eq] at hroom
        have HB := Lib.hid hpre
        have HD := Lib.hid hdc
        rw [show Lib.hasPrefix (M.fold (s.data.toList.drop k0)) (⟨#[99, 104, 97, 114, 115, 101, 116]⟩ : ByteArray).data.toList = true from hpre] at bg
        clear hpre hdc
        go_wp2_with fail
        refine bg.mono ?_
        rintro e W ⟨rfl, hb1⟩
        have hb := hb.trans hb1
        clear hb1 bg
        go_upto_block 2 with fail
        go_cut [3] from 18 to 29 (fun v wx => (∃ j : Nat, v = .int .i64 (j : Int) ∧ (k0 + 7) ≤ j ∧ j ≤ s.size ∧ s.data.toList.drop j = (s.data.toList.drop (k0 + 7)).dropWhile M.white) ∧ W = wx)
        case first =>
          go_wp2_with fail
          go_loop [3] (fun v => ∃ j : Nat, v = .int .i64 (j : Int) ∧ (k0 + 7) ≤ j ∧ j ≤ s.size ∧ Hid ((s.data.toList.drop j).dropWhile M.white = (s.data.toList.drop (k0 + 7)).dropWhile M.white)) (fun v => s.size - (intOf v).toNat)
          case atStart => exact ⟨(k0 + 7), by first | rfl | go_num, Nat.le_refl _, by omega, Lib.hid rfl⟩
          case round =>
            obtain ⟨j, rfl, hsj, hj, HJ⟩ := hrel
            by_cases hlt : j < s.size
            ·
              cases hw : M.white s[j] with
              | true =>
                have hp : (M.white) s[j] = true := by simp [hw]
                have HR := Lib.hid ((dw_go (M.white) s j hlt hp).trans HJ.out)
                have HW := Lib.hid hw
                clear hp hw
                go_wp2_with (go_at_call 30; refine (isWhite_any _ _).mono ?_; rintro e w' ⟨rfl, rfl⟩; rw [HW.out])
                go_round
                case rel => exact ⟨j + 1, by go_num, by omega, by omega, HR⟩
                case measure => simp [intOf]; omega
              | false =>
                have hp : (M.white) s[j] = false := by simp [hw]
                have HR := Lib.hid ((dw_stop (M.white) s j hlt hp).symm.trans HJ.out)
                have HW := Lib.hid hw
                clear hp hw
                go_wp2_with (go_at_call 30; refine (isWhite_any _ _).mono ?_; rintro e w' ⟨rfl, rfl⟩; rw [HW.out])
                go_meet
                exact ⟨⟨j, rfl, hsj, hj, HR.out⟩, rfl⟩
            · obtain rfl : j = s.size := by omega
              have HR := Lib.hid (show s.data.toList.drop s.size = (s.data.toList.drop (k0 + 7)).dropWhile M.white by rw [← HJ.out, drop_end]; rfl)
              go_wp2_with fail
              go_meet
              exact ⟨⟨s.size, rfl, hsj, hj, HR.out⟩, rfl⟩
        case rest =>
        obtain ⟨⟨k1, rfl, hk01, hk1, hl1⟩, rfl⟩ := hcut
        have HL1 := Lib.hid (show ((s[k0] :: s.data.toList.drop (k0 + 1)).drop 7).dropWhile M.white = s.data.toList.drop k1 by rw [← HD.out, List.drop_drop, hl1])
        have HP := Lib.hid (show Lib.hasPrefix (M.fold (s[k0] :: s.data.toList.drop (k0 + 1))) M.charset7 = true by rw [← HD.out]; exact HB.out)
        clear hl1
        by_cases hlt1 : k1 < s.size
        ·
          have hne1 : ((k1 : Int) == (s.size : Int)) = false := by simp; omega
          have h61i : (s[k1] != 61) = ((s[k1].toNat : Int) != 61) := not_int 61 s[k1]
          cases h61 : ((s[k1].toNat : Int) != 61) with
          | true =>
            rw [h61] at h61i
            have HR := Lib.hid (show M.charA s.data.toList = M.charA (s.data.toList.drop k1) by rw [HJ.out, HD.out, M.charA_no _ _ HP.out (by rw [HL1.out, drop_cons s k1 hlt1]; simp only [M.behindEq]; rw [if_neg (by simpa using h61i)]), HL1.out])
            clear h61i
            go_wp2_with fail
            go_roundg (s.size - k1)
            case measure => omega
            case rel => exact ⟨k1, rfl, by omega, Nat.le_refl _, hb, HR⟩
          | false =>
            rw [h61] at h61i
            have HC := Lib.hid (show M.charA s.data.toList = M.charOf (s.data.toList.drop (k1 + 1)) by rw [HJ.out, HD.out]; exact M.charA_eq _ _ _ HP.out (by rw [HL1.out, drop_cons s k1 hlt1]; simp only [M.behindEq]; rw [if_pos (by simpa using h61i)]))
            clear h61i HJ HD HP HL1 HB
            go_upto_block 4 with fail
            go_cut [3] from 42 to 53 (fun v wx => (∃ j : Nat, v = .int .i64 (j : Int) ∧ (k1 + 1) ≤ j ∧ j ≤ s.size ∧ s.data.toList.drop j = (s.data.toList.drop (k1 + 1)).dropWhile M.white) ∧ W = wx)
            case first =>
              go_wp2_with fail
              go_loop [3] (fun v => ∃ j : Nat, v = .int .i64 (j : Int) ∧ (k1 + 1) ≤ j ∧ j ≤ s.size ∧ Hid ((s.data.toList.drop j).dropWhile M.white = (s.data.toList.drop (k1 + 1)).dropWhile M.white)) (fun v => s.size - (intOf v).toNat)
              case atStart => exact ⟨(k1 + 1), by first | rfl | go_num, Nat.le_refl _, by omega, Lib.hid rfl⟩
              case round =>
                obtain ⟨j, rfl, hsj, hj, HJ⟩ := hrel
                by_cases hlt : j < s.size
                ·
                  cases hw : M.white s[j] with
                  | true =>
                    have hp : (M.white) s[j] = true := by simp [hw]
                    have HR := Lib.hid ((dw_go (M.white) s j hlt hp).trans HJ.out)
                    have HW := Lib.hid hw
                    clear hp hw
                    go_wp2_with (go_at_call 30; refine (isWhite_any _ _).mono ?_; rintro e w' ⟨rfl, rfl⟩; rw [HW.out])
                    go_round
                    case rel => exact ⟨j + 1, by go_num, by omega, by omega, HR⟩
                    case measure => simp [intOf]; omega
                  | false =>
                    have hp : (M.white) s[j] = false := by simp [hw]
                    have HR := Lib.hid ((dw_stop (M.white) s j hlt hp).symm.trans HJ.out)
                    have HW := Lib.hid hw
                    clear hp hw
                    go_wp2_with (go_at_call 30; refine (isWhite_any _ _).mono ?_; rintro e w' ⟨rfl, rfl⟩; rw [HW.out])
                    go_meet
                    exact ⟨⟨j, rfl, hsj, hj, HR.out⟩, rfl⟩
                · obtain rfl : j = s.size := by omega
                  have HR := Lib.hid (show s.data.toList.drop s.size = (s.data.toList.drop (k1 + 1)).dropWhile M.white by rw [← HJ.out, drop_end]; rfl)
                  go_wp2_with fail
                  go_meet
                  exact ⟨⟨s.size, rfl, hsj, hj, HR.out⟩, rfl⟩
            case rest =>
            obtain ⟨⟨k2, rfl, hk12, hk2, hl2⟩, rfl⟩ := hcut
            by_cases hlt2 : k2 < s.size
            ·
              cases h34 : ((s[k2].toNat : Int) == 34) with
              | true =>
                have hqq := quote_34 _ h34
                have HQQ := Lib.hid hqq
                have HQ := Lib.hid (show (s.data.toList.drop (k1 + 1)).dropWhile M.white = s[k2] :: s.data.toList.drop (k2 + 1) by rw [← hl2, drop_cons s k2 hlt2])
                clear hl2 hqq
                go_wp2_with fail
                go_loopw [5] (fun v wr => ∃ j : Nat, v = .int .i64 (j : Int) ∧ k2 + 1 ≤ j ∧ j ≤ s.size ∧ Hid ((s.data.toList.drop j).dropWhile (fun c => c != s[k2]) = (s.data.toList.drop (k2 + 1)).dropWhile (fun c => c != s[k2])) ∧ Hid ((s.data.toList.drop (k2 + 1)).takeWhile (fun c => c != s[k2]) = (s.data.toList.drop (k2 + 1)).take (j - (k2 + 1)) ++ (s.data.toList.drop j).takeWhile (fun c => c != s[k2])) ∧ Bel w wr) (fun v _ => s.size - (intOf v).toNat)
                case atStart => exact ⟨k2 + 1, by first | rfl | go_num, Nat.le_refl _, by omega, Lib.hid rfl, Lib.hid (by simp), hb⟩
                case round =>
                  obtain ⟨j, rfl, hkj, hj, HJ, HT, hbr⟩ := hrel
                  by_cases hlt : j < s.size
                  ·
                    cases hq : ((s[j].toNat : Int) == (s[k2].toNat : Int)) with
                    | true =>
                      have HZ := Lib.hid (HC.out.trans (char_found s k1 k2 j hlt2 hlt HQ.out HQQ.out HJ.out HT.out hq))
                      clear HC HQ HQQ HJ HT
                      go_wp2_with fail
                      go_quiet (fail)
                      go_wp2_with fail
                      refine (findOf_any (s.extract (k2 + 1) j) _ (by have h9 := ByteArray.size_extract (a := s) (b := k2 + 1) (e := j); omega)).mono ?_
                      rintro e W2 ⟨rfl, hb2⟩
                      go_wp2_with fail
                      go_ret
                      exact ⟨by rw [HZ.out, ← Lib.extract_data]; rfl, (hbr.drewN _).trans hb2⟩
                    | false =>
                      have HR := Lib.hid (find_more s k2 j hlt2 hlt hkj hq HJ.out HT.out)
                      clear HJ HT
                      go_wp2_with fail
                      go_quiet (fail)
                      go_wp2_with fail
                      go_roundw
                      case rel => exact ⟨j + 1, by go_num, by omega, by omega, Lib.hid HR.out.1, Lib.hid HR.out.2, hbr.drewN _⟩
                      case measure => simp [intOf]; omega
                  · obtain rfl : j = s.size := by omega
                    have HZ := Lib.hid (HC.out.trans (char_open s k1 k2 hlt2 HQ.out HQQ.out HJ.out))
                    clear HC HQ HQQ HJ HT
                    go_wp2_with fail
                    go_ret
                    exact ⟨by rw [HZ.out]; rfl, hbr⟩
              | false =>
                cases h39 : ((s[k2].toNat : Int) == 39) with
                | true =>
                  have hqq := quote_39 _ h39
                  have HQQ := Lib.hid hqq
                  have HQ := Lib.hid (show (s.data.toList.drop (k1 + 1)).dropWhile M.white = s[k2] :: s.data.toList.drop (k2 + 1) by rw [← hl2, drop_cons s k2 hlt2])
                  clear hl2 hqq
                  go_wp2_with fail
                  go_loopw [5] (fun v wr => ∃ j : Nat, v = .int .i64 (j : Int) ∧ k2 + 1 ≤ j ∧ j ≤ s.size ∧ Hid ((s.data.toList.drop j).dropWhile (fun c => c != s[k2]) = (s.data.toList.drop (k2 + 1)).dropWhile (fun c => c != s[k2])) ∧ Hid ((s.data.toList.drop (k2 + 1)).takeWhile (fun c => c != s[k2]) = (s.data.toList.drop (k2 + 1)).take (j - (k2 + 1)) ++ (s.data.toList.drop j).takeWhile (fun c => c != s[k2])) ∧ Bel w wr) (fun v _ => s.size - (intOf v).toNat)
                  case atStart => exact ⟨k2 + 1, by first | rfl | go_num, Nat.le_refl _, by omega, Lib.hid rfl, Lib.hid (by simp), hb⟩
                  case round =>
                    obtain ⟨j, rfl, hkj, hj, HJ, HT, hbr⟩ := hrel
                    by_cases hlt : j < s.size
                    ·
                      cases hq : ((s[j].toNat : Int) == (s[k2].toNat : Int)) with
                      | true =>
                        have HZ := Lib.hid (HC.out.trans (char_found s k1 k2 j hlt2 hlt HQ.out HQQ.out HJ.out HT.out hq))
                        clear HC HQ HQQ HJ HT
                        go_wp2_with fail
                        go_quiet (fail)
                        go_wp2_with fail
                        refine (findOf_any (s.extract (k2 + 1) j) _ (by have h9 := ByteArray.size_extract (a := s) (b := k2 + 1) (e := j); omega)).mono ?_
                        rintro e W2 ⟨rfl, hb2⟩
                        go_wp2_with fail
                        go_ret
                        exact ⟨by rw [HZ.out, ← Lib.extract_data]; rfl, (hbr.drewN _).trans hb2⟩
                      | false =>
                        have HR := Lib.hid (find_more s k2 j hlt2 hlt hkj hq HJ.out HT.out)
                        clear HJ HT
                        go_wp2_with fail
                        go_quiet (fail)
                        go_wp2_with fail
                        go_roundw
                        case rel => exact ⟨j + 1, by go_num, by omega, by omega, Lib.hid HR.out.1, Lib.hid HR.out.2, hbr.drewN _⟩
                        case measure => simp [intOf]; omega
                    · obtain rfl : j = s.size := by omega
                      have HZ := Lib.hid (HC.out.trans (char_open s k1 k2 hlt2 HQ.out HQQ.out HJ.out))
                      clear HC HQ HQQ HJ HT
                      go_wp2_with fail
                      go_ret
                      exact ⟨by rw [HZ.out]; rfl, hbr⟩
                | false =>
                  have hqq := quote_no _ h34 h39
                  have HV := Lib.hid (show M.charOf (s.data.toList.drop (k1 + 1)) = M.find ((s.data.toList.drop k2).takeWhile M.labB) by rw [M.charOf, ← hl2, drop_cons s k2 hlt2]; simp only; rw [if_neg hqq])
                  clear hqq hl2
                  go_upto_block 8 with fail
                  go_cut [3, 4] from 91 to 116 (fun v t wx => (∃ (j : Nat) (u : List UInt8), v = .int .i64 (j : Int) ∧ t = .string ⟨u.toArray⟩ ∧ k2 ≤ j ∧ j ≤ s.size ∧ s.data.toList.drop j = (s.data.toList.drop k2).dropWhile M.labB ∧ u = ([] : List UInt8) ++ (s.data.toList.drop k2).takeWhile M.labB) ∧ W = wx)
                  case first =>
                    go_wp2_with fail
                    go_loop [3, 4] (fun v t => ∃ (j : Nat) (u : List UInt8), v = .int .i64 (j : Int) ∧ t = .string ⟨u.toArray⟩ ∧ k2 ≤ j ∧ j ≤ s.size ∧ u.length ≤ j ∧ Hid ((s.data.toList.drop j).dropWhile M.labB = (s.data.toList.drop k2).dropWhile M.labB) ∧ Hid (u ++ (s.data.toList.drop j).takeWhile M.labB = ([] : List UInt8) ++ (s.data.toList.drop k2).takeWhile M.labB)) (fun v _ => s.size - (intOf v).toNat)
                    case atStart => exact ⟨k2, ([] : List UInt8), by first | rfl | go_num, by first | rfl | assumption, Nat.le_refl _, by omega, by simp; try omega, Lib.hid rfl, Lib.hid rfl⟩
                    case round =>
                      obtain ⟨j, u, rfl, rfl, hsj, hj, hul, HJ, HU⟩ := hrel
                      by_cases hlt : j < s.size
                      ·
                        cases hw : M.white s[j] with
                        | true =>
                          have hp : (M.labB) s[j] = false := by simp [lab_int, hw]
                          have HR := Lib.hid ((dw_stop (M.labB) s j hlt hp).symm.trans HJ.out)
                          have HV := Lib.hid (show u = ([] : List UInt8) ++ (s.data.toList.drop k2).takeWhile M.labB by rw [← HU.out, tw_stop (M.labB) s j hlt hp, List.append_nil])
                          have HW := Lib.hid hw
                          clear hp hw
                          go_wp2_with (go_at_call 30; refine (isWhite_any _ _).mono ?_; rintro e w' ⟨rfl, rfl⟩; rw [HW.out])
                          go_meet
                          exact ⟨⟨j, u, rfl, rfl, hsj, hj, HR.out, HV.out⟩, rfl⟩
                        | false =>
                          cases h59 : ((s[j].toNat : Int) != 59) with
                          | true =>
                            have hp : (M.labB) s[j] = true := by simp [lab_int, hw, h59]
                            have HR := Lib.hid ((dw_go (M.labB) s j hlt hp).trans HJ.out)
                            have HV := Lib.hid (show (u ++ [s[j]]) ++ (s.data.toList.drop (j + 1)).takeWhile M.labB = ([] : List UInt8) ++ (s.data.toList.drop k2).takeWhile M.labB by rw [← HU.out, tw_go (M.labB) s j hlt hp, List.append_assoc]; rfl)
                            have HS := Lib.hid (one_str s u j hlt)
                            have HW := Lib.hid hw
                            clear hp hw
                            go_wp2_with (go_at_call 30; refine (isWhite_any _ _).mono ?_; rintro e w' ⟨rfl, rfl⟩; rw [HW.out])
                            go_round
                            case rel => exact ⟨j + 1, u ++ [s[j]], by go_num, by rw [← HS.out], by omega, by omega, by rw [List.length_append, List.length_singleton]; omega, HR, HV⟩
                            case measure => simp [intOf]; omega
                          | false =>
                            have hp : (M.labB) s[j] = false := by simp [lab_int, hw, h59]
                            have HR := Lib.hid ((dw_stop (M.labB) s j hlt hp).symm.trans HJ.out)
                            have HV := Lib.hid (show u = ([] : List UInt8) ++ (s.data.toList.drop k2).takeWhile M.labB by rw [← HU.out, tw_stop (M.labB) s j hlt hp, List.append_nil])
                            have HW := Lib.hid hw
                            clear hp hw
                            go_wp2_with (go_at_call 30; refine (isWhite_any _ _).mono ?_; rintro e w' ⟨rfl, rfl⟩; rw [HW.out])
                            go_meet
                            exact ⟨⟨j, u, rfl, rfl, hsj, hj, HR.out, HV.out⟩, rfl⟩
                      · obtain rfl : j = s.size := by omega
                        have HR := Lib.hid (show s.data.toList.drop s.size = (s.data.toList.drop k2).dropWhile M.labB by rw [← HJ.out, drop_end]; rfl)
                        have HV := Lib.hid (show u = ([] : List UInt8) ++ (s.data.toList.drop k2).takeWhile M.labB by rw [← HU.out, drop_end]; simp)
                        go_wp2_with fail
                        go_meet
                        exact ⟨⟨s.size, u, rfl, rfl, hsj, hj, HR.out, HV.out⟩, rfl⟩
                  case rest =>
                  obtain ⟨⟨k3, vv, rfl, rfl, hk23, hk3, hl3, hvv⟩, rfl⟩ := hcut
                  have hvl : vv.length ≤ s.size := by rw [hvv]; have h9 := (List.takeWhile_prefix M.labB (l := s.data.toList.drop k2)).length_le; rw [List.length_drop, ← Lib.size_eq] at h9; rw [List.nil_append]; omega
                  have HZ := Lib.hid (show M.charA s.data.toList = M.find vv by rw [HC.out, HV.out, hvv]; rfl)
                  clear HC HV hl3 hvv
                  go_wp2_with fail
                  refine (findOf_any ⟨vv.toArray⟩ _ (by rw [size_str]; omega)).mono ?_
                  rintro e W2 ⟨rfl, hb2⟩
                  go_wp2_with fail
                  go_ret
                  exact ⟨by rw [HZ.out]; rfl, hb.trans hb2⟩
            · obtain rfl : k2 = s.size := by omega
              have HV := Lib.hid (show M.charOf (s.data.toList.drop (k1 + 1)) = M.find ((s.data.toList.drop s.size).takeWhile M.labB) by rw [M.charOf, ← hl2, drop_end]; rfl)
              have HE := Lib.hid hl2
              clear hl2
              go_upto_block 8 with fail
              go_cut [3, 4] from 91 to 116 (fun v t wx => (∃ (j : Nat) (u : List UInt8), v = .int .i64 (j : Int) ∧ t = .string ⟨u.toArray⟩ ∧ s.size ≤ j ∧ j ≤ s.size ∧ s.data.toList.drop j = (s.data.toList.drop s.size).dropWhile M.labB ∧ u = ([] : List UInt8) ++ (s.data.toList.drop s.size).takeWhile M.labB) ∧ W = wx)
              case first =>
                go_wp2_with fail
                go_loop [3, 4] (fun v t => ∃ (j : Nat) (u : List UInt8), v = .int .i64 (j : Int) ∧ t = .string ⟨u.toArray⟩ ∧ s.size ≤ j ∧ j ≤ s.size ∧ u.length ≤ j ∧ Hid ((s.data.toList.drop j).dropWhile M.labB = (s.data.toList.drop s.size).dropWhile M.labB) ∧ Hid (u ++ (s.data.toList.drop j).takeWhile M.labB = ([] : List UInt8) ++ (s.data.toList.drop s.size).takeWhile M.labB)) (fun v _ => s.size - (intOf v).toNat)
                case atStart => exact ⟨s.size, ([] : List UInt8), by first | rfl | go_num, by first | rfl | assumption, Nat.le_refl _, by omega, by simp; try omega, Lib.hid rfl, Lib.hid rfl⟩
                case round =>
                  obtain ⟨j, u, rfl, rfl, hsj, hj, hul, HJ, HU⟩ := hrel
                  by_cases hlt : j < s.size
                  ·
                    exfalso
                    omega
                  · obtain rfl : j = s.size := by omega
                    have HR := Lib.hid (show s.data.toList.drop s.size = (s.data.toList.drop s.size).dropWhile M.labB by rw [← HJ.out, drop_end]; rfl)
                    have HV := Lib.hid (show u = ([] : List UInt8) ++ (s.data.toList.drop s.size).takeWhile M.labB by rw [← HU.out, drop_end]; simp)
                    go_wp2_with fail
                    go_meet
                    exact ⟨⟨s.size, u, rfl, rfl, hsj, hj, HR.out, HV.out⟩, rfl⟩
              case rest =>
              obtain ⟨⟨k3, vv, rfl, rfl, hk23, hk3, hl3, hvv⟩, rfl⟩ := hcut
              have hvl : vv.length ≤ s.size := by rw [hvv]; have h9 := (List.takeWhile_prefix M.labB (l := s.data.toList.drop s.size)).length_le; rw [List.length_drop, ← Lib.size_eq] at h9; rw [List.nil_append]; omega
              have HZ := Lib.hid (show M.charA s.data.toList = M.find vv by rw [HC.out, HV.out, hvv]; rfl)
              clear HC HV hl3 hvv
              go_wp2_with fail
              refine (findOf_any ⟨vv.toArray⟩ _ (by rw [size_str]; omega)).mono ?_
              rintro e W2 ⟨rfl, hb2⟩
              go_wp2_with fail
              go_ret
              exact ⟨by rw [HZ.out]; rfl, hb.trans hb2⟩
        · obtain rfl : k1 = s.size := by omega
          have HR := Lib.hid (show M.charA s.data.toList = M.charA (s.data.toList.drop s.size) by rw [HJ.out, HD.out, M.charA_no _ _ HP.out (by rw [HL1.out, drop_end]; rfl), HL1.out])
          go_wp2_with fail
          go_roundg (s.size - s.size)
          case measure => omega
          case rel => exact ⟨s.size, rfl, by omega, Nat.le_refl _, hb, HR⟩
    · obtain rfl : k0 = s.size := by omega
      have HR := Lib.hid (show M.charA s.data.toList = 0 by rw [HJ.out, drop_end]; rfl)
      go_wp2_with fail
      go_ret
      exact ⟨by rw [HR.out]; rfl, hb⟩
end Go.Proofs.YthaoohckgilahaaDoor

/-
  Texts of the proof, laid together: RChar, RScan1, RScan2, RMark, FrontR1, RUtf8, RUtf16, RKana. No condition of its own.
-/
import Derived.Test.YtcgdecpjlggekaaGreatDoorG8
import Derived.Deep.CutBlock
import Derived.Deep.Cut
import Derived.Deep.CutRange
import Derived.Test.YtcgdecpjlggekaaGreatDoorG4
import Derived.Test.YtcgdecpjlggekaaGreatDoorG5
import Derived.Test.YtcgdecpjlggekaaGreatDoorG2
import Derived.Test.YtcgdecpjlggekaaGreatDoorG7
import Derived.RegionTactic
import Derived.BigRegion
import Derived.Test.YtcgdecpjlggekaaGreatDoorG6

/-
  The document's answers on attributes: CharsetOf.
-/
namespace Go.Proofs.YtcgdecpjlggekaaGreatDoor
open Go.RowKit
set_option maxRecDepth 1000000

theorem pre_room (l : List UInt8) (h : Lib.hasPrefix (M.fold l) M.charset7 = true) : 7 ≤ l.length := by
  have h1 : Lib.occAt (M.fold l) M.charset7 0 = true := h
  rcases Lib.occAt_room h1 with h2 | h2
  · rw [M.fold_len] at h2
    have : M.charset7.length = 7 := rfl
    omega
  · cases h2
theorem charOf_quote (l u : List UInt8) (q : UInt8) (h : l.dropWhile M.white = q :: u) (hq : q = 34 ∨ q = 39) (o : Option (List UInt8)) (ho : (M.quotedA q u).1 = o) : M.charOf l = o.elim 0 M.find := by
  subst ho
  rw [M.charOf, h]
  simp only
  rw [if_pos hq]
  cases (M.quotedA q u).1 <;> rfl
theorem char_found (s : ByteArray) (k1 k2 j : Nat) (hk : k2 < s.size) (hlt : j < s.size) (hQ : (s.data.toList.drop (k1 + 1)).dropWhile M.white = s[k2] :: s.data.toList.drop (k2 + 1)) (hqq : s[k2] = 34 ∨ s[k2] = 39)
    (hJ : (s.data.toList.drop j).dropWhile (fun c => c != s[k2]) = (s.data.toList.drop (k2 + 1)).dropWhile (fun c => c != s[k2]))
    (hT : (s.data.toList.drop (k2 + 1)).takeWhile (fun c => c != s[k2]) = (s.data.toList.drop (k2 + 1)).take (j - (k2 + 1)) ++ (s.data.toList.drop j).takeWhile (fun c => c != s[k2])) (hq : ((s[j].toNat : Int) == (s[k2].toNat : Int)) = true) :
    M.charOf (s.data.toList.drop (k1 + 1)) = M.find ((s.data.toList.drop (k2 + 1)).take (j - (k2 + 1))) := by
  have he : ((fun c => c != s[k2]) s[j]) = false := by show (s[j] != s[k2]) = false; rw [not_int]; simpa using hq
  have h1 : (s.data.toList.drop j).dropWhile (fun c => c != s[k2]) = s[j] :: s.data.toList.drop (j + 1) := by rw [drop_cons s j hlt, List.dropWhile_cons_of_neg (p := fun c => c != s[k2]) (fun h9 => Bool.noConfusion (h9.symm.trans he))]
  have h2 : (s.data.toList.drop j).takeWhile (fun c => c != s[k2]) = [] := by rw [drop_cons s j hlt, List.takeWhile_cons_of_neg (p := fun c => c != s[k2]) (fun h9 => Bool.noConfusion (h9.symm.trans he))]
  refine (charOf_quote _ _ _ hQ hqq (some ((s.data.toList.drop (k2 + 1)).take (j - (k2 + 1)))) ?_).trans rfl
  rw [M.quotedA, ← hJ, h1, hT, h2, List.append_nil]
theorem char_open (s : ByteArray) (k1 k2 : Nat) (hk : k2 < s.size) (hQ : (s.data.toList.drop (k1 + 1)).dropWhile M.white = s[k2] :: s.data.toList.drop (k2 + 1)) (hqq : s[k2] = 34 ∨ s[k2] = 39)
    (hJ : (s.data.toList.drop s.size).dropWhile (fun c => c != s[k2]) = (s.data.toList.drop (k2 + 1)).dropWhile (fun c => c != s[k2])) : M.charOf (s.data.toList.drop (k1 + 1)) = 0 := by
  refine (charOf_quote _ _ _ hQ hqq none ?_).trans rfl
  rw [M.quotedA, ← hJ, drop_end]
  rfl
theorem find_more (s : ByteArray) (k2 j : Nat) (hk : k2 < s.size) (hlt : j < s.size) (hkj : k2 + 1 ≤ j) (hq : ((s[j].toNat : Int) == (s[k2].toNat : Int)) = false)
    (hJ : (s.data.toList.drop j).dropWhile (fun c => c != s[k2]) = (s.data.toList.drop (k2 + 1)).dropWhile (fun c => c != s[k2]))
    (hT : (s.data.toList.drop (k2 + 1)).takeWhile (fun c => c != s[k2]) = (s.data.toList.drop (k2 + 1)).take (j - (k2 + 1)) ++ (s.data.toList.drop j).takeWhile (fun c => c != s[k2])) :
    (s.data.toList.drop (j + 1)).dropWhile (fun c => c != s[k2]) = (s.data.toList.drop (k2 + 1)).dropWhile (fun c => c != s[k2]) ∧
    (s.data.toList.drop (k2 + 1)).takeWhile (fun c => c != s[k2]) = (s.data.toList.drop (k2 + 1)).take (j + 1 - (k2 + 1)) ++ (s.data.toList.drop (j + 1)).takeWhile (fun c => c != s[k2]) := by
  have he : ((fun c => c != s[k2]) s[j]) = true := by show (s[j] != s[k2]) = true; rw [not_int]; simpa using hq
  refine ⟨(dw_go _ s j hlt he).trans hJ, ?_⟩
  rw [hT, tw_go _ s j hlt he, show j + 1 - (k2 + 1) = j - (k2 + 1) + 1 by omega, List.take_add_one, List.getElem?_drop, show k2 + 1 + (j - (k2 + 1)) = j by omega, byte_at s j hlt]
  simp
set_option maxHeartbeats 16000000 in
theorem charsetOf_any (s : ByteArray) (hs : s.size ≤ 3000) (w : World) : Calls Tryz.prog 79 #[.string s] w fun e w' => e = .returned (.int .i64 (M.charA s.data.toList)) ∧ Bel w w' := by
  go_enter Tryz.func79, Tryz.ntmps79
  go_wp2_with fail
  go_loopg [3] (s.size + 1) (fun gg at_ wr => ∃ j : Nat, at_ = .int .i64 (j : Int) ∧ j ≤ s.size ∧ s.size - j ≤ gg ∧ Bel w wr ∧ Hid (M.charA s.data.toList = M.charA (s.data.toList.drop j)))
  case atStart => exact ⟨0, rfl, by omega, by omega, Bel.refl _, Lib.hid (by rw [List.drop_zero])⟩
  case round =>
    obtain ⟨k0, rfl, hk0, hg, hb, HJ⟩ := hrel
    by_cases hlt : k0 < s.size
    · have hdc := drop_cons s k0 hlt
      have bg := beginsAt_any s ⟨#[99, 104, 97, 114, 115, 101, 116]⟩ k0 hk0 hs wr
      cases hpre : Lib.hasPrefix (M.fold (s.data.toList.drop k0)) M.charset7 with
      | false =>
        have HR := Lib.hid (show M.charA s.data.toList = M.charA (s.data.toList.drop (k0 + 1)) by rw [HJ.out, hdc]; exact M.charA_step _ _ (by rw [← hdc]; exact hpre))
        rw [show Lib.hasPrefix (M.fold (s.data.toList.drop k0)) (⟨#[99, 104, 97, 114, 115, 101, 116]⟩ : ByteArray).data.toList = false from hpre] at bg
        clear hpre hdc HJ
        go_wp2_with fail
        refine bg.mono ?_
        rintro e W ⟨rfl, hb1⟩
        have hb := hb.trans hb1
        clear hb1 bg
        go_wp2_with fail
        go_roundg (s.size - (k0 + 1))
        case measure => omega
        case rel => exact ⟨k0 + 1, by go_num, by omega, Nat.le_refl _, hb, HR⟩
      | true =>
        have hroom := pre_room _ hpre
        rw [List.length_drop, ← Lib.size_eq] at hroom
        have HB := Lib.hid hpre
        have HD := Lib.hid hdc
        rw [show Lib.hasPrefix (M.fold (s.data.toList.drop k0)) (⟨#[99, 104, 97, 114, 115, 101, 116]⟩ : ByteArray).data.toList = true from hpre] at bg
        clear hpre hdc
        go_wp2_with fail
        refine bg.mono ?_
        rintro e W ⟨rfl, hb1⟩
        have hb := hb.trans hb1
        clear hb1 bg
        go_upto_block 2 with fail
        go_cut [3] from 18 to 29 (fun v wx => (∃ j : Nat, v = .int .i64 (j : Int) ∧ (k0 + 7) ≤ j ∧ j ≤ s.size ∧ s.data.toList.drop j = (s.data.toList.drop (k0 + 7)).dropWhile M.white) ∧ W = wx)
        case first =>
          go_wp2_with fail
          go_loop [3] (fun v => ∃ j : Nat, v = .int .i64 (j : Int) ∧ (k0 + 7) ≤ j ∧ j ≤ s.size ∧ Hid ((s.data.toList.drop j).dropWhile M.white = (s.data.toList.drop (k0 + 7)).dropWhile M.white)) (fun v => s.size - (intOf v).toNat)
          case atStart => exact ⟨(k0 + 7), by first | rfl | go_num, Nat.le_refl _, by omega, Lib.hid rfl⟩
          case round =>
            obtain ⟨j, rfl, hsj, hj, HJ⟩ := hrel
            by_cases hlt : j < s.size
            ·
              cases hw : M.white s[j] with
              | true =>
                have hp : (M.white) s[j] = true := by simp [hw]
                have HR := Lib.hid ((dw_go (M.white) s j hlt hp).trans HJ.out)
                have HW := Lib.hid hw
                clear hp hw
                go_wp2_with (go_at_call 53; refine (isWhite_any _ _).mono ?_; rintro e w' ⟨rfl, rfl⟩; rw [HW.out])
                go_round
                case rel => exact ⟨j + 1, by go_num, by omega, by omega, HR⟩
                case measure => simp [intOf]; omega
              | false =>
                have hp : (M.white) s[j] = false := by simp [hw]
                have HR := Lib.hid ((dw_stop (M.white) s j hlt hp).symm.trans HJ.out)
                have HW := Lib.hid hw
                clear hp hw
                go_wp2_with (go_at_call 53; refine (isWhite_any _ _).mono ?_; rintro e w' ⟨rfl, rfl⟩; rw [HW.out])
                go_meet
                exact ⟨⟨j, rfl, hsj, hj, HR.out⟩, rfl⟩
            · obtain rfl : j = s.size := by omega
              have HR := Lib.hid (show s.data.toList.drop s.size = (s.data.toList.drop (k0 + 7)).dropWhile M.white by rw [← HJ.out, drop_end]; rfl)
              go_wp2_with fail
              go_meet
              exact ⟨⟨s.size, rfl, hsj, hj, HR.out⟩, rfl⟩
        case rest =>
        obtain ⟨⟨k1, rfl, hk01, hk1, hl1⟩, rfl⟩ := hcut
        have HL1 := Lib.hid (show ((s[k0] :: s.data.toList.drop (k0 + 1)).drop 7).dropWhile M.white = s.data.toList.drop k1 by rw [← HD.out, List.drop_drop, hl1])
        have HP := Lib.hid (show Lib.hasPrefix (M.fold (s[k0] :: s.data.toList.drop (k0 + 1))) M.charset7 = true by rw [← HD.out]; exact HB.out)
        clear hl1
        by_cases hlt1 : k1 < s.size
        ·
          have hne1 : ((k1 : Int) == (s.size : Int)) = false := by simp; omega
          have h61i : (s[k1] != 61) = ((s[k1].toNat : Int) != 61) := not_int 61 s[k1]
          cases h61 : ((s[k1].toNat : Int) != 61) with
          | true =>
            rw [h61] at h61i
            have HR := Lib.hid (show M.charA s.data.toList = M.charA (s.data.toList.drop k1) by rw [HJ.out, HD.out, M.charA_no _ _ HP.out (by rw [HL1.out, drop_cons s k1 hlt1]; simp only [M.behindEq]; rw [if_neg (by simpa using h61i)]), HL1.out])
            clear h61i
            go_wp2_with fail
            go_roundg (s.size - k1)
            case measure => omega
            case rel => exact ⟨k1, rfl, by omega, Nat.le_refl _, hb, HR⟩
          | false =>
            rw [h61] at h61i
            have HC := Lib.hid (show M.charA s.data.toList = M.charOf (s.data.toList.drop (k1 + 1)) by rw [HJ.out, HD.out]; exact M.charA_eq _ _ _ HP.out (by rw [HL1.out, drop_cons s k1 hlt1]; simp only [M.behindEq]; rw [if_pos (by simpa using h61i)]))
            clear h61i HJ HD HP HL1 HB
            go_upto_block 4 with fail
            go_cut [3] from 42 to 53 (fun v wx => (∃ j : Nat, v = .int .i64 (j : Int) ∧ (k1 + 1) ≤ j ∧ j ≤ s.size ∧ s.data.toList.drop j = (s.data.toList.drop (k1 + 1)).dropWhile M.white) ∧ W = wx)
            case first =>
              go_wp2_with fail
              go_loop [3] (fun v => ∃ j : Nat, v = .int .i64 (j : Int) ∧ (k1 + 1) ≤ j ∧ j ≤ s.size ∧ Hid ((s.data.toList.drop j).dropWhile M.white = (s.data.toList.drop (k1 + 1)).dropWhile M.white)) (fun v => s.size - (intOf v).toNat)
              case atStart => exact ⟨(k1 + 1), by first | rfl | go_num, Nat.le_refl _, by omega, Lib.hid rfl⟩
              case round =>
                obtain ⟨j, rfl, hsj, hj, HJ⟩ := hrel
                by_cases hlt : j < s.size
                ·
                  cases hw : M.white s[j] with
                  | true =>
                    have hp : (M.white) s[j] = true := by simp [hw]
                    have HR := Lib.hid ((dw_go (M.white) s j hlt hp).trans HJ.out)
                    have HW := Lib.hid hw
                    clear hp hw
                    go_wp2_with (go_at_call 53; refine (isWhite_any _ _).mono ?_; rintro e w' ⟨rfl, rfl⟩; rw [HW.out])
                    go_round
                    case rel => exact ⟨j + 1, by go_num, by omega, by omega, HR⟩
                    case measure => simp [intOf]; omega
                  | false =>
                    have hp : (M.white) s[j] = false := by simp [hw]
                    have HR := Lib.hid ((dw_stop (M.white) s j hlt hp).symm.trans HJ.out)
                    have HW := Lib.hid hw
                    clear hp hw
                    go_wp2_with (go_at_call 53; refine (isWhite_any _ _).mono ?_; rintro e w' ⟨rfl, rfl⟩; rw [HW.out])
                    go_meet
                    exact ⟨⟨j, rfl, hsj, hj, HR.out⟩, rfl⟩
                · obtain rfl : j = s.size := by omega
                  have HR := Lib.hid (show s.data.toList.drop s.size = (s.data.toList.drop (k1 + 1)).dropWhile M.white by rw [← HJ.out, drop_end]; rfl)
                  go_wp2_with fail
                  go_meet
                  exact ⟨⟨s.size, rfl, hsj, hj, HR.out⟩, rfl⟩
            case rest =>
            obtain ⟨⟨k2, rfl, hk12, hk2, hl2⟩, rfl⟩ := hcut
            by_cases hlt2 : k2 < s.size
            ·
              cases h34 : ((s[k2].toNat : Int) == 34) with
              | true =>
                have hqq := quote_34 _ h34
                have HQQ := Lib.hid hqq
                have HQ := Lib.hid (show (s.data.toList.drop (k1 + 1)).dropWhile M.white = s[k2] :: s.data.toList.drop (k2 + 1) by rw [← hl2, drop_cons s k2 hlt2])
                clear hl2 hqq
                go_wp2_with fail
                go_loopw [5] (fun v wr => ∃ j : Nat, v = .int .i64 (j : Int) ∧ k2 + 1 ≤ j ∧ j ≤ s.size ∧ Hid ((s.data.toList.drop j).dropWhile (fun c => c != s[k2]) = (s.data.toList.drop (k2 + 1)).dropWhile (fun c => c != s[k2])) ∧ Hid ((s.data.toList.drop (k2 + 1)).takeWhile (fun c => c != s[k2]) = (s.data.toList.drop (k2 + 1)).take (j - (k2 + 1)) ++ (s.data.toList.drop j).takeWhile (fun c => c != s[k2])) ∧ Bel w wr) (fun v _ => s.size - (intOf v).toNat)
                case atStart => exact ⟨k2 + 1, by first | rfl | go_num, Nat.le_refl _, by omega, Lib.hid rfl, Lib.hid (by simp), hb⟩
                case round =>
                  obtain ⟨j, rfl, hkj, hj, HJ, HT, hbr⟩ := hrel
                  by_cases hlt : j < s.size
                  ·
                    cases hq : ((s[j].toNat : Int) == (s[k2].toNat : Int)) with
                    | true =>
                      have HZ := Lib.hid (HC.out.trans (char_found s k1 k2 j hlt2 hlt HQ.out HQQ.out HJ.out HT.out hq))
                      clear HC HQ HQQ HJ HT
                      go_wp2_with fail
                      go_quiet (fail)
                      go_wp2_with fail
                      refine (findOf_any (s.extract (k2 + 1) j) _ (by have h9 := ByteArray.size_extract (a := s) (b := k2 + 1) (e := j); omega)).mono ?_
                      rintro e W2 ⟨rfl, hb2⟩
                      go_wp2_with fail
                      go_ret
                      exact ⟨by rw [HZ.out, ← Lib.extract_data]; rfl, (hbr.drewN _).trans hb2⟩
                    | false =>
                      have HR := Lib.hid (find_more s k2 j hlt2 hlt hkj hq HJ.out HT.out)
                      clear HJ HT
                      go_wp2_with fail
                      go_quiet (fail)
                      go_wp2_with fail
                      go_roundw
                      case rel => exact ⟨j + 1, by go_num, by omega, by omega, Lib.hid HR.out.1, Lib.hid HR.out.2, hbr.drewN _⟩
                      case measure => simp [intOf]; omega
                  · obtain rfl : j = s.size := by omega
                    have HZ := Lib.hid (HC.out.trans (char_open s k1 k2 hlt2 HQ.out HQQ.out HJ.out))
                    clear HC HQ HQQ HJ HT
                    go_wp2_with fail
                    go_ret
                    exact ⟨by rw [HZ.out]; rfl, hbr⟩
              | false =>
                cases h39 : ((s[k2].toNat : Int) == 39) with
                | true =>
                  have hqq := quote_39 _ h39
                  have HQQ := Lib.hid hqq
                  have HQ := Lib.hid (show (s.data.toList.drop (k1 + 1)).dropWhile M.white = s[k2] :: s.data.toList.drop (k2 + 1) by rw [← hl2, drop_cons s k2 hlt2])
                  clear hl2 hqq
                  go_wp2_with fail
                  go_loopw [5] (fun v wr => ∃ j : Nat, v = .int .i64 (j : Int) ∧ k2 + 1 ≤ j ∧ j ≤ s.size ∧ Hid ((s.data.toList.drop j).dropWhile (fun c => c != s[k2]) = (s.data.toList.drop (k2 + 1)).dropWhile (fun c => c != s[k2])) ∧ Hid ((s.data.toList.drop (k2 + 1)).takeWhile (fun c => c != s[k2]) = (s.data.toList.drop (k2 + 1)).take (j - (k2 + 1)) ++ (s.data.toList.drop j).takeWhile (fun c => c != s[k2])) ∧ Bel w wr) (fun v _ => s.size - (intOf v).toNat)
                  case atStart => exact ⟨k2 + 1, by first | rfl | go_num, Nat.le_refl _, by omega, Lib.hid rfl, Lib.hid (by simp), hb⟩
                  case round =>
                    obtain ⟨j, rfl, hkj, hj, HJ, HT, hbr⟩ := hrel
                    by_cases hlt : j < s.size
                    ·
                      cases hq : ((s[j].toNat : Int) == (s[k2].toNat : Int)) with
                      | true =>
                        have HZ := Lib.hid (HC.out.trans (char_found s k1 k2 j hlt2 hlt HQ.out HQQ.out HJ.out HT.out hq))
                        clear HC HQ HQQ HJ HT
                        go_wp2_with fail
                        go_quiet (fail)
                        go_wp2_with fail
                        refine (findOf_any (s.extract (k2 + 1) j) _ (by have h9 := ByteArray.size_extract (a := s) (b := k2 + 1) (e := j); omega)).mono ?_
                        rintro e W2 ⟨rfl, hb2⟩
                        go_wp2_with fail
                        go_ret
                        exact ⟨by rw [HZ.out, ← Lib.extract_data]; rfl, (hbr.drewN _).trans hb2⟩
                      | false =>
                        have HR := Lib.hid (find_more s k2 j hlt2 hlt hkj hq HJ.out HT.out)
                        clear HJ HT
                        go_wp2_with fail
                        go_quiet (fail)
                        go_wp2_with fail
                        go_roundw
                        case rel => exact ⟨j + 1, by go_num, by omega, by omega, Lib.hid HR.out.1, Lib.hid HR.out.2, hbr.drewN _⟩
                        case measure => simp [intOf]; omega
                    · obtain rfl : j = s.size := by omega
                      have HZ := Lib.hid (HC.out.trans (char_open s k1 k2 hlt2 HQ.out HQQ.out HJ.out))
                      clear HC HQ HQQ HJ HT
                      go_wp2_with fail
                      go_ret
                      exact ⟨by rw [HZ.out]; rfl, hbr⟩
                | false =>
                  have hqq := quote_no _ h34 h39
                  have HV := Lib.hid (show M.charOf (s.data.toList.drop (k1 + 1)) = M.find ((s.data.toList.drop k2).takeWhile M.labB) by rw [M.charOf, ← hl2, drop_cons s k2 hlt2]; simp only; rw [if_neg hqq])
                  clear hqq hl2
                  go_upto_block 8 with fail
                  go_cut [3, 4] from 91 to 116 (fun v t wx => (∃ (j : Nat) (u : List UInt8), v = .int .i64 (j : Int) ∧ t = .string ⟨u.toArray⟩ ∧ k2 ≤ j ∧ j ≤ s.size ∧ s.data.toList.drop j = (s.data.toList.drop k2).dropWhile M.labB ∧ u = ([] : List UInt8) ++ (s.data.toList.drop k2).takeWhile M.labB) ∧ W = wx)
                  case first =>
                    go_wp2_with fail
                    go_loop [3, 4] (fun v t => ∃ (j : Nat) (u : List UInt8), v = .int .i64 (j : Int) ∧ t = .string ⟨u.toArray⟩ ∧ k2 ≤ j ∧ j ≤ s.size ∧ u.length ≤ j ∧ Hid ((s.data.toList.drop j).dropWhile M.labB = (s.data.toList.drop k2).dropWhile M.labB) ∧ Hid (u ++ (s.data.toList.drop j).takeWhile M.labB = ([] : List UInt8) ++ (s.data.toList.drop k2).takeWhile M.labB)) (fun v _ => s.size - (intOf v).toNat)
                    case atStart => exact ⟨k2, ([] : List UInt8), by first | rfl | go_num, by first | rfl | assumption, Nat.le_refl _, by omega, by simp; try omega, Lib.hid rfl, Lib.hid rfl⟩
                    case round =>
                      obtain ⟨j, u, rfl, rfl, hsj, hj, hul, HJ, HU⟩ := hrel
                      by_cases hlt : j < s.size
                      ·
                        cases hw : M.white s[j] with
                        | true =>
                          have hp : (M.labB) s[j] = false := by simp [lab_int, hw]
                          have HR := Lib.hid ((dw_stop (M.labB) s j hlt hp).symm.trans HJ.out)
                          have HV := Lib.hid (show u = ([] : List UInt8) ++ (s.data.toList.drop k2).takeWhile M.labB by rw [← HU.out, tw_stop (M.labB) s j hlt hp, List.append_nil])
                          have HW := Lib.hid hw
                          clear hp hw
                          go_wp2_with (go_at_call 53; refine (isWhite_any _ _).mono ?_; rintro e w' ⟨rfl, rfl⟩; rw [HW.out])
                          go_meet
                          exact ⟨⟨j, u, rfl, rfl, hsj, hj, HR.out, HV.out⟩, rfl⟩
                        | false =>
                          cases h59 : ((s[j].toNat : Int) != 59) with
                          | true =>
                            have hp : (M.labB) s[j] = true := by simp [lab_int, hw, h59]
                            have HR := Lib.hid ((dw_go (M.labB) s j hlt hp).trans HJ.out)
                            have HV := Lib.hid (show (u ++ [s[j]]) ++ (s.data.toList.drop (j + 1)).takeWhile M.labB = ([] : List UInt8) ++ (s.data.toList.drop k2).takeWhile M.labB by rw [← HU.out, tw_go (M.labB) s j hlt hp, List.append_assoc]; rfl)
                            have HS := Lib.hid (one_str s u j hlt)
                            have HW := Lib.hid hw
                            clear hp hw
                            go_wp2_with (go_at_call 53; refine (isWhite_any _ _).mono ?_; rintro e w' ⟨rfl, rfl⟩; rw [HW.out])
                            go_round
                            case rel => exact ⟨j + 1, u ++ [s[j]], by go_num, by rw [← HS.out], by omega, by omega, by rw [List.length_append, List.length_singleton]; omega, HR, HV⟩
                            case measure => simp [intOf]; omega
                          | false =>
                            have hp : (M.labB) s[j] = false := by simp [lab_int, hw, h59]
                            have HR := Lib.hid ((dw_stop (M.labB) s j hlt hp).symm.trans HJ.out)
                            have HV := Lib.hid (show u = ([] : List UInt8) ++ (s.data.toList.drop k2).takeWhile M.labB by rw [← HU.out, tw_stop (M.labB) s j hlt hp, List.append_nil])
                            have HW := Lib.hid hw
                            clear hp hw
                            go_wp2_with (go_at_call 53; refine (isWhite_any _ _).mono ?_; rintro e w' ⟨rfl, rfl⟩; rw [HW.out])
                            go_meet
                            exact ⟨⟨j, u, rfl, rfl, hsj, hj, HR.out, HV.out⟩, rfl⟩
                      · obtain rfl : j = s.size := by omega
                        have HR := Lib.hid (show s.data.toList.drop s.size = (s.data.toList.drop k2).dropWhile M.labB by rw [← HJ.out, drop_end]; rfl)
                        have HV := Lib.hid (show u = ([] : List UInt8) ++ (s.data.toList.drop k2).takeWhile M.labB by rw [← HU.out, drop_end]; simp)
                        go_wp2_with fail
                        go_meet
                        exact ⟨⟨s.size, u, rfl, rfl, hsj, hj, HR.out, HV.out⟩, rfl⟩
                  case rest =>
                  obtain ⟨⟨k3, vv, rfl, rfl, hk23, hk3, hl3, hvv⟩, rfl⟩ := hcut
                  have hvl : vv.length ≤ s.size := by rw [hvv]; have h9 := (List.takeWhile_prefix M.labB (l := s.data.toList.drop k2)).length_le; rw [List.length_drop, ← Lib.size_eq] at h9; rw [List.nil_append]; omega
                  have HZ := Lib.hid (show M.charA s.data.toList = M.find vv by rw [HC.out, HV.out, hvv]; rfl)
                  clear HC HV hl3 hvv
                  go_wp2_with fail
                  refine (findOf_any ⟨vv.toArray⟩ _ (by rw [size_str]; omega)).mono ?_
                  rintro e W2 ⟨rfl, hb2⟩
                  go_wp2_with fail
                  go_ret
                  exact ⟨by rw [HZ.out]; rfl, hb.trans hb2⟩
            · obtain rfl : k2 = s.size := by omega
              have HV := Lib.hid (show M.charOf (s.data.toList.drop (k1 + 1)) = M.find ((s.data.toList.drop s.size).takeWhile M.labB) by rw [M.charOf, ← hl2, drop_end]; rfl)
              have HE := Lib.hid hl2
              clear hl2
              go_upto_block 8 with fail
              go_cut [3, 4] from 91 to 116 (fun v t wx => (∃ (j : Nat) (u : List UInt8), v = .int .i64 (j : Int) ∧ t = .string ⟨u.toArray⟩ ∧ s.size ≤ j ∧ j ≤ s.size ∧ s.data.toList.drop j = (s.data.toList.drop s.size).dropWhile M.labB ∧ u = ([] : List UInt8) ++ (s.data.toList.drop s.size).takeWhile M.labB) ∧ W = wx)
              case first =>
                go_wp2_with fail
                go_loop [3, 4] (fun v t => ∃ (j : Nat) (u : List UInt8), v = .int .i64 (j : Int) ∧ t = .string ⟨u.toArray⟩ ∧ s.size ≤ j ∧ j ≤ s.size ∧ u.length ≤ j ∧ Hid ((s.data.toList.drop j).dropWhile M.labB = (s.data.toList.drop s.size).dropWhile M.labB) ∧ Hid (u ++ (s.data.toList.drop j).takeWhile M.labB = ([] : List UInt8) ++ (s.data.toList.drop s.size).takeWhile M.labB)) (fun v _ => s.size - (intOf v).toNat)
                case atStart => exact ⟨s.size, ([] : List UInt8), by first | rfl | go_num, by first | rfl | assumption, Nat.le_refl _, by omega, by simp; try omega, Lib.hid rfl, Lib.hid rfl⟩
                case round =>
                  obtain ⟨j, u, rfl, rfl, hsj, hj, hul, HJ, HU⟩ := hrel
                  by_cases hlt : j < s.size
                  ·
                    exfalso
                    omega
                  · obtain rfl : j = s.size := by omega
                    have HR := Lib.hid (show s.data.toList.drop s.size = (s.data.toList.drop s.size).dropWhile M.labB by rw [← HJ.out, drop_end]; rfl)
                    have HV := Lib.hid (show u = ([] : List UInt8) ++ (s.data.toList.drop s.size).takeWhile M.labB by rw [← HU.out, drop_end]; simp)
                    go_wp2_with fail
                    go_meet
                    exact ⟨⟨s.size, u, rfl, rfl, hsj, hj, HR.out, HV.out⟩, rfl⟩
              case rest =>
              obtain ⟨⟨k3, vv, rfl, rfl, hk23, hk3, hl3, hvv⟩, rfl⟩ := hcut
              have hvl : vv.length ≤ s.size := by rw [hvv]; have h9 := (List.takeWhile_prefix M.labB (l := s.data.toList.drop s.size)).length_le; rw [List.length_drop, ← Lib.size_eq] at h9; rw [List.nil_append]; omega
              have HZ := Lib.hid (show M.charA s.data.toList = M.find vv by rw [HC.out, HV.out, hvv]; rfl)
              clear HC HV hl3 hvv
              go_wp2_with fail
              refine (findOf_any ⟨vv.toArray⟩ _ (by rw [size_str]; omega)).mono ?_
              rintro e W2 ⟨rfl, hb2⟩
              go_wp2_with fail
              go_ret
              exact ⟨by rw [HZ.out]; rfl, hb.trans hb2⟩
        · obtain rfl : k1 = s.size := by omega
          have HR := Lib.hid (show M.charA s.data.toList = M.charA (s.data.toList.drop s.size) by rw [HJ.out, HD.out, M.charA_no _ _ HP.out (by rw [HL1.out, drop_end]; rfl), HL1.out])
          go_wp2_with fail
          go_roundg (s.size - s.size)
          case measure => omega
          case rel => exact ⟨s.size, rfl, by omega, Nat.le_refl _, hb, HR⟩
    · obtain rfl : k0 = s.size := by omega
      have HR := Lib.hid (show M.charA s.data.toList = 0 by rw [HJ.out, drop_end]; rfl)
      go_wp2_with fail
      go_ret
      exact ⟨by rw [HR.out]; rfl, hb⟩
end Go.Proofs.YtcgdecpjlggekaaGreatDoor

/-
  The document's answers on scans: MetaOf, isLetter.
-/
namespace Go.Proofs.YtcgdecpjlggekaaGreatDoor
open Go.RowKit
set_option maxRecDepth 1000000
set_option maxHeartbeats 4000000

/-- The first place from k on that has the name; -1: none has. -/
def FirstN (xs : List (List UInt8 × List UInt8)) (nm : List UInt8) (k : Nat) (r : Int) : Prop :=
  (r = -1 ∧ ∀ j, k ≤ j → j < xs.length → ((xs.getD j ([], [])).1 == nm) = false) ∨ ∃ d : Nat, k ≤ d ∧ d < xs.length ∧ r = d ∧ ((xs.getD d ([], [])).1 == nm) = true ∧ ∀ j, k ≤ j → j < d → ((xs.getD j ([], [])).1 == nm) = false
theorem FirstN.at {xs : List (List UInt8 × List UInt8)} {nm : List UInt8} {r : Int} (h : FirstN xs nm 0 r) : (r = -1 ∧ M.valOf xs nm = none) ∨ ∃ (k : Nat) (q : List UInt8 × List UInt8), r = k ∧ xs[k]? = some q ∧ M.valOf xs nm = some q.2 := by
  have h1 : FirstAt xs.length (fun j => (xs.getD j ([], [])).1 == nm) r := by
    rcases h with ⟨e, h⟩ | ⟨d, _, hd, e, hy, hno⟩
    · exact .inl ⟨e, fun j hj => h j (Nat.zero_le _) hj⟩
    · exact .inr ⟨d, hd, e, hy, fun j hj => hno j (Nat.zero_le _) hj⟩
  rcases find_at xs (fun a => a.1 == nm) r h1 with ⟨e, hf⟩ | ⟨k, q, e, hk, hf⟩
  · exact .inl ⟨e, valOf_none _ _ hf⟩
  · exact .inr ⟨k, q, e, hk, valOf_some _ _ _ hf⟩
theorem FirstN.end (xs : List (List UInt8 × List UInt8)) (nm : List UInt8) : FirstN xs nm xs.length (-1) := .inl ⟨rfl, fun j h1 h2 => by omega⟩
theorem FirstN.yes {xs : List (List UInt8 × List UInt8)} {nm : List UInt8} {k : Nat} {q : List UInt8 × List UInt8} (hq : xs[k]? = some q) (h : (q.1 == nm) = true) : FirstN xs nm k (k : Int) :=
  .inr ⟨k, Nat.le_refl _, (List.getElem?_eq_some_iff.1 hq).1, rfl, by rw [List.getD_eq_getElem?_getD, hq]; exact h, fun j h1 h2 => by omega⟩
theorem FirstN.no {xs : List (List UInt8 × List UInt8)} {nm : List UInt8} {k : Nat} {q : List UInt8 × List UInt8} {r : Int} (hq : xs[k]? = some q) (h : (q.1 == nm) = false) (hr : FirstN xs nm (k + 1) r) : FirstN xs nm k r := by
  have hk : ((xs.getD k ([], [])).1 == nm) = false := by rw [List.getD_eq_getElem?_getD, hq]; exact h
  rcases hr with ⟨e, hr⟩ | ⟨d, hkd, hd, e, hy, hno⟩
  · refine .inl ⟨e, fun j h1 h2 => ?_⟩
    by_cases ej : j = k
    · subst ej; exact hk
    · exact hr j (by omega) h2
  · refine .inr ⟨d, by omega, hd, e, hy, fun j h1 h2 => ?_⟩
    by_cases ej : j = k
    · subst ej; exact hk
    · exact hno j (by omega) h2
theorem metaOf_any (v : Value) (xs : List (List UInt8 × List UInt8)) (w : World) (h : AttrSl w v xs) (hs : ShortV xs) : Calls Tryz.prog 55 #[v] w fun e w' => e = .returned (.int .i64 (M.metaA xs)) ∧ Bel w w' := by
  obtain ⟨a, c, rfl, hc1, hc2, hn, hx⟩ := h
  unfold maxLen at hc2
  have HX := Lib.hid hx
  have HN := Lib.hid hn
  clear hx hn
  go_enter Tryz.func55, Tryz.ntmps55
  go_wp2_with fail
  go_loop [3, 4, 5, 6] (fun x y z i => ∃ (k : Nat) (r1 r2 r3 : Int), k ≤ xs.length ∧ i = .int .i64 ((k : Int) - 1) ∧ x = .int .i64 r1 ∧ y = .int .i64 r2 ∧ z = .int .i64 r3 ∧ Hid (FirstN xs M.charset7 k r1) ∧ Hid (FirstN xs M.httpEquiv k r2) ∧ Hid (FirstN xs M.contentB k r3)) (fun _ _ _ i => (intOf i + 1).toNat)
  case atStart => exact ⟨xs.length, -1, -1, -1, Nat.le_refl _, by first | rfl | go_num, rfl, rfl, rfl, Lib.hid (FirstN.end _ _), Lib.hid (FirstN.end _ _), Lib.hid (FirstN.end _ _)⟩
  case round =>
    obtain ⟨k, r1, r2, r3, hk, rfl, rfl, rfl, rfl, F1, F2, F3⟩ := hrel
    cases k with
    | succ m =>
      rw [show ((m + 1 : Nat) : Int) - 1 = (m : Int) by omega]
      obtain ⟨q, hq⟩ : ∃ q, xs[m]? = some q := ⟨_, List.getElem?_eq_getElem (by omega)⟩
      cases a with
      | none => exfalso; rw [HN.out rfl] at hk; exact absurd hk (by simp)
      | some x =>
        obtain ⟨g, o, rfl, hx'⟩ := HX.out x rfl (List.ne_nil_of_length_pos (by omega))
        obtain ⟨c1, c2⟩ := hx' m q hq
        clear hx'
        cases e1 : (q.1 == ([99, 104, 97, 114, 115, 101, 116] : List UInt8)) with
        | true =>
          have e1' : q.1 = [99, 104, 97, 114, 115, 101, 116] := by simpa using e1
          have HR := Lib.hid (show FirstN xs M.charset7 m (m : Int) ∧ FirstN xs M.httpEquiv m r2 ∧ FirstN xs M.contentB m r3 from ⟨FirstN.yes hq e1, FirstN.no hq (by rw [e1']; rfl) F2.out, FirstN.no hq (by rw [e1']; rfl) F3.out⟩)
          clear hq e1
          go_wp2_with fail
          go_round
          case rel => exact ⟨m, _, _, _, by omega, by go_num, rfl, rfl, rfl, Lib.hid HR.out.1, Lib.hid HR.out.2.1, Lib.hid HR.out.2.2⟩
          case measure => simp [intOf] <;> omega
        | false =>
          cases e2 : (q.1 == ([104, 116, 116, 112, 45, 101, 113, 117, 105, 118] : List UInt8)) with
          | true =>
            have e2' : q.1 = [104, 116, 116, 112, 45, 101, 113, 117, 105, 118] := by simpa using e2
            have hh := e1
            have HR := Lib.hid (show FirstN xs M.charset7 m r1 ∧ FirstN xs M.httpEquiv m (m : Int) ∧ FirstN xs M.contentB m r3 from ⟨FirstN.no hq e1 F1.out, FirstN.yes hq e2, FirstN.no hq (by rw [e2']; rfl) F3.out⟩)
            clear hq e1
            go_wp2_with fail
            go_round
            case rel => exact ⟨m, _, _, _, by omega, by go_num, rfl, rfl, rfl, Lib.hid HR.out.1, Lib.hid HR.out.2.1, Lib.hid HR.out.2.2⟩
            case measure => simp [intOf] <;> omega
          | false =>
            cases e3 : (q.1 == ([99, 111, 110, 116, 101, 110, 116] : List UInt8)) with
            | true =>
              have hh := e1
              have HR := Lib.hid (show FirstN xs M.charset7 m r1 ∧ FirstN xs M.httpEquiv m r2 ∧ FirstN xs M.contentB m (m : Int) from ⟨FirstN.no hq e1 F1.out, FirstN.no hq e2 F2.out, FirstN.yes hq e3⟩)
              clear hq e1
              go_wp2_with fail
              go_round
              case rel => exact ⟨m, _, _, _, by omega, by go_num, rfl, rfl, rfl, Lib.hid HR.out.1, Lib.hid HR.out.2.1, Lib.hid HR.out.2.2⟩
              case measure => simp [intOf] <;> omega
            | false =>
              have hh := e1
              have HR := Lib.hid (show FirstN xs M.charset7 m r1 ∧ FirstN xs M.httpEquiv m r2 ∧ FirstN xs M.contentB m r3 from ⟨FirstN.no hq e1 F1.out, FirstN.no hq e2 F2.out, FirstN.no hq e3 F3.out⟩)
              clear hq e1
              go_wp2_with fail
              go_round
              case rel => exact ⟨m, _, _, _, by omega, by go_num, rfl, rfl, rfl, Lib.hid HR.out.1, Lib.hid HR.out.2.1, Lib.hid HR.out.2.2⟩
              case measure => simp [intOf] <;> omega
    | zero =>
      have P1 := F1.out.at
      have P2 := F2.out.at
      have P3 := F3.out.at
      rw [show ((0 : Nat) : Int) - 1 = -1 from rfl]
      clear F1 F2 F3
      rcases P1 with ⟨rfl, hv1⟩ | ⟨d, q, rfl, hd, hv1⟩
      · rcases P2 with ⟨rfl, hv2⟩ | ⟨d2, q2, rfl, hd2, hv2⟩
        · have HT := Lib.hid (show M.metaA xs = 0 by rw [M.metaA, M.toldA, hv1, hv2]; rfl)
          clear hv1 hv2
          go_wp2_with fail
          go_ret
          exact ⟨by rw [HT.out]; rfl, Bel.refl _⟩
        · rcases P3 with ⟨rfl, hv3⟩ | ⟨d3, q3, rfl, hd3, hv3⟩
          · have HT := Lib.hid (show M.metaA xs = 0 by
              rw [M.metaA, M.toldA, hv1, hv2, hv3]
              show M.turnA (if some q2.2 = some M.contentType then M.charA [] else 0) = 0
              rw [M.charA_nil, ite_self]
              rfl)
            clear hv1 hv2 hv3 hd2
            go_wp2_with fail
            go_ret
            exact ⟨by rw [HT.out]; rfl, Bel.refl _⟩
          · cases a with
            | none => exfalso; have h9 := (List.getElem?_eq_some_iff.1 hd2).1; rw [HN.out rfl] at h9; exact absurd h9 (Nat.not_lt_zero _)
            | some x =>
              obtain ⟨g, o, rfl, hx'⟩ := HX.out x rfl (List.ne_nil_of_length_pos (Nat.lt_of_le_of_lt (Nat.zero_le _) (List.getElem?_eq_some_iff.1 hd2).1))
              have ck := (hx' d2 q2 hd2).2
              have cc := (hx' d3 q3 hd3).2
              have l2 := (List.getElem?_eq_some_iff.1 hd2).1
              have l3 := (List.getElem?_eq_some_iff.1 hd3).1
              have hsz := hs q3 (List.mem_of_getElem? hd3)
              cases hct : (q2.2 == ([99, 111, 110, 116, 101, 110, 116, 45, 116, 121, 112, 101] : List UInt8)) with
              | false =>
                have HT := Lib.hid (show M.metaA xs = 0 by
                  rw [M.metaA, M.toldA, hv1, hv2]
                  show M.turnA (if some q2.2 = some M.contentType then _ else 0) = 0
                  rw [if_neg (fun h9 => by injection h9 with h9; rw [h9] at hct; exact absurd hct (by decide))]
                  rfl)
                clear hv1 hv2 hv3 hd2 hd3 hx'
                go_wp2_with fail
                go_ret
                exact ⟨by rw [HT.out]; rfl, Bel.refl _⟩
              | true =>
                obtain ⟨f, hf⟩ : ∃ f, M.charA q3.2 = f := ⟨_, rfl⟩
                have HT := Lib.hid (show M.metaA xs = M.turnA f by
                  rw [M.metaA, M.toldA, hv1, hv2, hv3]
                  show M.turnA (if some q2.2 = some M.contentType then M.charA q3.2 else 0) = _
                  rw [if_pos (congrArg some (show q2.2 = M.contentType from eq_of_beq hct)), hf])
                have FC := Lib.hid (fun W => charsetOf_any ⟨q3.2.toArray⟩ (by rw [size_str]; exact hsz) W)
                rw [show (⟨q3.2.toArray⟩ : ByteArray).data.toList = q3.2 by simp, hf] at FC
                clear hv1 hv2 hv3 hd2 hd3 hx' hf
                by_cases f2 : f = 2
                · subst f2
                  skip
                  go_wp2_with fail
                  refine (FC.out _).mono ?_
                  rintro e W2 ⟨rfl, b2⟩
                  go_wp2_with fail
                  go_ret
                  exact ⟨by rw [HT.out]; rfl, b2⟩
                · by_cases f3 : f = 3
                  · subst f3
                    skip
                    go_wp2_with fail
                    refine (FC.out _).mono ?_
                    rintro e W2 ⟨rfl, b2⟩
                    go_wp2_with fail
                    go_ret
                    exact ⟨by rw [HT.out]; rfl, b2⟩
                  · by_cases f5 : f = 5
                    · subst f5
                      skip
                      go_wp2_with fail
                      refine (FC.out _).mono ?_
                      rintro e W2 ⟨rfl, b2⟩
                      go_wp2_with fail
                      go_ret
                      exact ⟨by rw [HT.out]; rfl, b2⟩
                    · have HX := Lib.hid (show M.turnA f = f by unfold M.turnA; rw [if_neg (by omega), if_neg f5])
                      have e2 : (f == 2) = false := by simp [f2]
                      have e3 : (f == 3) = false := by simp [f3]
                      have e5 : (f == 5) = false := by simp [f5]
                      clear f2 f3 f5
                      go_wp2_with fail
                      refine (FC.out _).mono ?_
                      rintro e W2 ⟨rfl, b2⟩
                      go_wp2_with fail
                      go_ret
                      exact ⟨by rw [HT.out, HX.out]; rfl, b2⟩
      · cases a with
        | none => exfalso; have h9 := (List.getElem?_eq_some_iff.1 hd).1; rw [HN.out rfl] at h9; exact absurd h9 (Nat.not_lt_zero _)
        | some x =>
          obtain ⟨g, o, rfl, hx'⟩ := HX.out x rfl (List.ne_nil_of_length_pos (Nat.lt_of_le_of_lt (Nat.zero_le _) (List.getElem?_eq_some_iff.1 hd).1))
          have ck := (hx' d q hd).2
          have l2 := (List.getElem?_eq_some_iff.1 hd).1
          have hsz := hs q (List.mem_of_getElem? hd)
          obtain ⟨f, hf⟩ : ∃ f, M.find q.2 = f := ⟨_, rfl⟩
          have HT := Lib.hid (show M.metaA xs = M.turnA f by rw [M.metaA, M.toldA, hv1]; simp only; rw [hf])
          have FC := Lib.hid (fun W => findOf_any ⟨q.2.toArray⟩ W (by rw [size_str]; omega))
          rw [show (⟨q.2.toArray⟩ : ByteArray).data.toList = q.2 by simp, hf] at FC
          clear hv1 hd hx' hf P2 P3
          by_cases f2 : f = 2
          · subst f2
            skip
            go_wp2_with fail
            refine (FC.out _).mono ?_
            rintro e W2 ⟨rfl, b2⟩
            go_wp2_with fail
            go_ret
            exact ⟨by rw [HT.out]; rfl, b2⟩
          · by_cases f3 : f = 3
            · subst f3
              skip
              go_wp2_with fail
              refine (FC.out _).mono ?_
              rintro e W2 ⟨rfl, b2⟩
              go_wp2_with fail
              go_ret
              exact ⟨by rw [HT.out]; rfl, b2⟩
            · by_cases f5 : f = 5
              · subst f5
                skip
                go_wp2_with fail
                refine (FC.out _).mono ?_
                rintro e W2 ⟨rfl, b2⟩
                go_wp2_with fail
                go_ret
                exact ⟨by rw [HT.out]; rfl, b2⟩
              · have HX := Lib.hid (show M.turnA f = f by unfold M.turnA; rw [if_neg (by omega), if_neg f5])
                have e2 : (f == 2) = false := by simp [f2]
                have e3 : (f == 3) = false := by simp [f3]
                have e5 : (f == 5) = false := by simp [f5]
                clear f2 f3 f5
                go_wp2_with fail
                refine (FC.out _).mono ?_
                rintro e W2 ⟨rfl, b2⟩
                go_wp2_with fail
                go_ret
                exact ⟨by rw [HT.out, HX.out]; rfl, b2⟩
end Go.Proofs.YtcgdecpjlggekaaGreatDoor

/-
  The document's answers on scans: isLetter, ScanOf.
-/
namespace Go.Proofs.YtcgdecpjlggekaaGreatDoor
open Go.RowKit
set_option maxRecDepth 1000000
set_option maxHeartbeats 16000000

theorem letter_fold (c : UInt8) : M.letterB (M.fold1 c) = (decide ((97 : Int) ≤ (c.toNat : Int) ∧ (c.toNat : Int) ≤ 122) || decide ((65 : Int) ≤ (c.toNat : Int) ∧ (c.toNat : Int) ≤ 90)) := by
  unfold M.letterB
  rw [Bool.eq_iff_iff, M.fold1_nat]
  simp only [decide_eq_true_eq, Bool.or_eq_true]
  split <;> omega
theorem isLetter_to (c : UInt8) (b : Bool) (h : M.letterB (M.fold1 c) = b) (w : World) : Calls Tryz.prog 56 #[.int .u8 (c.toNat : Int)] w fun e w' => e = .returned (.bool b) ∧ w = w' := by
  have hcl : c.toNat < 256 := c.toNat_lt
  rw [letter_fold] at h
  cases d1 : decide ((97 : Int) ≤ (c.toNat : Int) ∧ (c.toNat : Int) ≤ 122) with
  | true =>
    rw [d1] at h
    have H := Lib.hid h
    have HD := Lib.hid d1
    clear h d1
    go_enter Tryz.func56, Tryz.ntmps56
    go_wp2_with fail
    refine (between_any _ _ _ _).mono ?_
    rintro e w' ⟨rfl, rfl⟩
    rw [HD.out]
    go_wp2_with fail
    go_ret
    exact ⟨by rw [← H.out]; rfl, rfl⟩
  | false =>
    rw [d1, Bool.false_or] at h
    have H := Lib.hid h
    have HD := Lib.hid d1
    clear h d1
    go_enter Tryz.func56, Tryz.ntmps56
    go_wp2_with fail
    refine (between_any _ _ _ _).mono ?_
    rintro e w' ⟨rfl, rfl⟩
    rw [HD.out]
    go_wp2_with fail
    refine (between_any _ _ _ _).mono ?_
    rintro e w' ⟨rfl, rfl⟩
    rw [H.out]
    go_wp2_with fail
    go_ret
    exact ⟨rfl, rfl⟩
theorem byteN_in (s : ByteArray) (j i k : Nat) (hk : j + i = k) (h : k < s.size) : byteN (s.data.toList.drop j) i = M.fold1 s[k] := by
  subst hk
  unfold byteN M.fold
  rw [List.getElem?_map, List.getElem?_drop, byte_at s (j + i) h]
  rfl
theorem byteN_out (s : ByteArray) (j i : Nat) (h : s.size ≤ j + i) : byteN (s.data.toList.drop j) i = 0 := by
  unfold byteN M.fold
  rw [List.getElem?_map, List.getElem?_drop, List.getElem?_eq_none (by rw [← Lib.size_eq]; exact h)]
  rfl
theorem end_int2 (c : UInt8) : M.endB c = (M.white c || !((c.toNat : Int) != 62)) := by
  unfold M.endB
  congr 1
  rw [Bool.eq_iff_iff, decide_eq_true_eq, ← UInt8.toNat_inj]
  show c.toNat = 62 ↔ _
  simp
  omega
def p62 (c : UInt8) : Bool := ((c.toNat : Int) != 62)
theorem p62_int (c : UInt8) : p62 c = ((c.toNat : Int) != 62) := rfl
theorem behind_62 : ∀ l : List UInt8, M.behindF [62] l = (l.dropWhile p62).drop 1
  | [] => rfl
  | c :: t => by
    rw [M.behindF]
    have hp : Lib.hasPrefix (M.fold (c :: t)) [62] = !p62 c := by
      show ((62 == M.fold1 c) && true) = !p62 c
      rw [Bool.and_true, Bool.eq_iff_iff, beq_iff_eq, Bool.not_eq_true', p62, bne_eq_false_iff_eq]
      have h62 := M.fold1_eq 62 (.inl (by decide)) c
      constructor
      · intro h
        rw [h62.1 h.symm]; rfl
      · intro h
        have hc : c = 62 := by rw [← UInt8.toNat_inj]; show c.toNat = 62; omega
        rw [hc]; rfl
    cases hc : p62 c with
    | true => rw [hp, hc, if_neg (by decide), List.dropWhile_cons_of_pos hc, behind_62 t]
    | false => rw [hp, hc, if_pos (show (!false) = true from rfl), List.dropWhile_cons_of_neg (by rw [hc]; decide)]; rfl
/-- Where the name of a tag begins that stands here; 0: none does. -/
def nameAt (l : List UInt8) (j : Nat) : Nat := if nameQ l = true then (if M.letterB (byteN l 1) = true then j + 1 else j + 2) else 0
theorem fold1_47b (c : UInt8) : ((M.fold1 c).toNat == 47) = ((c.toNat : Int) == 47) := by
  rw [Bool.eq_iff_iff, beq_iff_eq, beq_iff_eq, fold1_47, ← UInt8.toNat_inj]
  show c.toNat = 47 ↔ _
  omega
theorem fold1_60b (c : UInt8) : ((M.fold1 c).toNat == 60) = ((c.toNat : Int) == 60) := by
  rw [Bool.eq_iff_iff, beq_iff_eq, beq_iff_eq, fold1_60, ← UInt8.toNat_inj]
  show c.toNat = 60 ↔ _
  omega
theorem letter_47 (b : UInt8) (h : b.toNat = 47) : M.letterB b = false := by unfold M.letterB; rw [h]; decide
theorem end_ne60 (c : UInt8) (h : (M.fold1 c).toNat = 60) : M.endB c = false := by rw [fold1_60] at h; subst h; decide
theorem end_ne47 (c : UInt8) (h : (M.fold1 c).toNat = 47) : M.endB c = false := by rw [fold1_47] at h; subst h; decide
theorem name_from (s : ByteArray) (j : Nat) (h : nameQ (s.data.toList.drop j) = true) : nameAt (s.data.toList.drop j) j ≤ s.size ∧ 0 < nameAt (s.data.toList.drop j) j ∧ j < nameAt (s.data.toList.drop j) j ∧ (s.data.toList.drop (nameAt (s.data.toList.drop j) j)).dropWhile (fun c => !M.endB c) = (s.data.toList.drop j).dropWhile (fun c => !M.endB c) := by
  have hq := h
  unfold nameQ at h
  rw [Bool.and_eq_true, beq_iff_eq] at h
  obtain ⟨h0, h1⟩ := h
  have hj : j + 0 < s.size := by
    by_cases hh : j + 0 < s.size
    · exact hh
    · rw [byteN_out s j 0 (by omega)] at h0; exact absurd h0 (by decide)
  rw [byteN_in s j 0 j rfl hj] at h0
  have d0 := dw_go (fun c => !M.endB c) s j hj (by show (!M.endB s[j]) = true; rw [end_ne60 _ h0]; rfl)
  unfold nameAt
  rw [if_pos hq]
  have hj1 : j + 1 < s.size := by
    by_cases hh : j + 1 < s.size
    · exact hh
    · rw [byteN_out s j 1 (by omega), if_neg (by decide), byteN_out s j 1 (by omega)] at h1; exact absurd h1 (by decide)
  by_cases hl : M.letterB (byteN (s.data.toList.drop j) 1) = true
  · rw [if_pos hl]
    exact ⟨by omega, by omega, by omega, d0⟩
  · rw [if_neg hl]
    have h47 : (byteN (s.data.toList.drop j) 1).toNat = 47 := by
      by_cases hh : (byteN (s.data.toList.drop j) 1).toNat = 47
      · exact hh
      · rw [if_neg hh] at h1; exact absurd h1 hl
    rw [if_pos h47] at h1
    have hj2 : j + 2 < s.size := by
      by_cases hh : j + 2 < s.size
      · exact hh
      · rw [byteN_out s j 2 (by omega)] at h1; exact absurd h1 (by decide)
    rw [byteN_in s j 1 (j + 1) rfl hj1] at h47
    have d1 := dw_go (fun c => !M.endB c) s (j + 1) hj1 (by show (!M.endB s[j + 1]) = true; rw [end_ne47 _ h47]; rfl)
    exact ⟨by omega, by omega, by omega, d1.trans d0⟩
theorem behind_step (sub : List UInt8) (s : ByteArray) (k : Nat) (hk : k < s.size) (h : Lib.hasPrefix (M.fold (s.data.toList.drop k)) sub = false) : M.behindF sub (s.data.toList.drop (k + 1)) = M.behindF sub (s.data.toList.drop k) := by
  rw [drop_cons s k hk] at h ⊢
  rw [M.behindF, if_neg (by rw [h]; decide)]
theorem behind_here (sub : List UInt8) (s : ByteArray) (k : Nat) (hk : k < s.size) (h : Lib.hasPrefix (M.fold (s.data.toList.drop k)) sub = true) : M.behindF sub (s.data.toList.drop k) = s.data.toList.drop (k + sub.length) := by
  rw [← List.drop_drop]
  rw [drop_cons s k hk] at h ⊢
  rw [M.behindF, if_pos h]
theorem scanRef_any (s0 : ByteArray) (hs0 : s0.size ≤ 9000) (w : World) : Calls Tryz.prog 29 #[.string s0] w fun e w' => e = .returned (.int .i64 (M.scanA s0.data.toList)) ∧ Bel w w' := by
  go_enter Tryz.func29, Tryz.ntmps29
  go_upto_if 13 with fail
  go_cut [0] from 11 to 15 (fun v wx => (∃ s : ByteArray, v = .string s ∧ s.size ≤ 256 ∧ M.scanA s0.data.toList = M.scan0 s.data.toList) ∧ w = wx)
  case first =>
    by_cases hl : 256 < s0.size
    · have hbd : (0 : Int) ≤ 256 ∧ (256 : Int) ≤ (s0.size : Int) := by omega
      go_wp2_with fail
      go_meet
      exact ⟨⟨s0.extract 0 256, by first | rfl | simp, by rw [Lib.size_eq, Lib.extract_data, List.length_take]; omega, by rw [Lib.extract_data, List.drop_zero, Nat.sub_zero, M.scanA]⟩, rfl⟩
    · go_wp2_with fail
      go_meet
      exact ⟨⟨s0, rfl, by omega, by rw [M.scanA, List.take_of_length_le (by rw [← Lib.size_eq]; omega)]⟩, rfl⟩
  case rest =>
  obtain ⟨⟨s, rfl, hs, ht⟩, rfl⟩ := hcut
  have HT := Lib.hid ht
  clear ht hs0
  go_wp2_with fail
  go_loopg [3] (s.size + 4) (fun gg v wr => ∃ j : Nat, v = .int .i64 (j : Int) ∧ j ≤ s.size + 3 ∧ s.size + 3 - j ≤ gg ∧ Bel w wr ∧ Hid (M.scanA s0.data.toList = M.scan0 (s.data.toList.drop j)))
  case atStart => exact ⟨0, rfl, by omega, by omega, Bel.refl _, Lib.hid (by rw [List.drop_zero]; exact HT.out)⟩
  case round =>
    obtain ⟨j, rfl, hj3, hg, hb, HJ⟩ := hrel
    by_cases hlt : j < s.size
    · obtain ⟨n, t, hst⟩ : ∃ n t, M.stepS (s.data.toList.drop j) = (n, t) := ⟨_, _, rfl⟩
      have hsc : M.scan0 (s.data.toList.drop j) = if n = 0 then M.scan0 t else n := by
        have := M.scan0_cons s[j] (s.data.toList.drop (j + 1))
        rw [← drop_cons s j hlt, hst] at this
        exact this
      have HS := Lib.hid (HJ.out.trans hsc)
      clear hsc HJ
      obtain ⟨b1, hb1⟩ : ∃ b, Lib.hasPrefix (M.fold (s.data.toList.drop j)) M.openS = b := ⟨_, rfl⟩
      have BG1 := Lib.hid (fun W => beginsAt_any s ⟨#[60, 33, 45, 45]⟩ j (by omega) (by omega) W)
      rw [show (⟨#[60, 33, 45, 45]⟩ : ByteArray).data.toList = M.openS from rfl, hb1] at BG1
      obtain ⟨b2, hb2⟩ : ∃ b, Lib.hasPrefix (M.fold (s.data.toList.drop j)) M.metaS = b := ⟨_, rfl⟩
      have BG2 := Lib.hid (fun W => beginsAt_any s ⟨#[60, 109, 101, 116, 97]⟩ j (by omega) (by omega) W)
      rw [show (⟨#[60, 109, 101, 116, 97]⟩ : ByteArray).data.toList = M.metaS from rfl, hb2] at BG2
      obtain ⟨b3, hb3⟩ : ∃ b, Lib.hasPrefix (M.fold (s.data.toList.drop j)) [60, 33] = b := ⟨_, rfl⟩
      have BG3 := Lib.hid (fun W => beginsAt_any s ⟨#[60, 33]⟩ j (by omega) (by omega) W)
      rw [show (⟨#[60, 33]⟩ : ByteArray).data.toList = [60, 33] from rfl, hb3] at BG3
      obtain ⟨b4, hb4⟩ : ∃ b, Lib.hasPrefix (M.fold (s.data.toList.drop j)) [60, 47] = b := ⟨_, rfl⟩
      have BG4 := Lib.hid (fun W => beginsAt_any s ⟨#[60, 47]⟩ j (by omega) (by omega) W)
      rw [show (⟨#[60, 47]⟩ : ByteArray).data.toList = [60, 47] from rfl, hb4] at BG4
      obtain ⟨b6, hb6⟩ : ∃ b, Lib.hasPrefix (M.fold (s.data.toList.drop j)) [60, 63] = b := ⟨_, rfl⟩
      have BG6 := Lib.hid (fun W => beginsAt_any s ⟨#[60, 63]⟩ j (by omega) (by omega) W)
      rw [show (⟨#[60, 63]⟩ : ByteArray).data.toList = [60, 63] from rfl, hb6] at BG6
      rw [M.pre2_fold _ (by decide)] at hb3 hb4 hb6
      have hroom1 := pre_roomS (s.data.toList.drop j) M.openS
      rw [hb1, List.length_drop, ← Lib.size_eq, show M.openS.length = 4 from rfl] at hroom1
      have hroom2 := pre_roomS (s.data.toList.drop j) M.metaS
      rw [hb2, List.length_drop, ← Lib.size_eq, show M.metaS.length = 5 from rfl] at hroom2
      obtain ⟨sl, hsl⟩ : ∃ sl, M.slashW (s.data.toList.drop (j + 5)) = sl := ⟨_, rfl⟩
      obtain ⟨o, ho⟩ : ∃ o, M.nameEnd (s.data.toList.drop j) = o := ⟨_, rfl⟩
      unfold M.stepS at hst
      have d5 : List.drop 5 (List.drop j s.data.toList) = List.drop (j + 5) s.data.toList := by rw [List.drop_drop]
      rw [hb1, hb2, hb3, hb4, hb6, ho, d5, hsl] at hst
      clear d5
      clear hb1 hb2 hb3 hb4 hb6
      cases b1 with
      | true =>
        have hr4 := hroom1 rfl (by decide)
        rw [if_pos rfl, List.drop_drop] at hst
        injection hst with e1 e2
        subst e1
        have HR := Lib.hid (HS.out.trans (if_pos rfl))
        have HE := Lib.hid e2
        clear e2 HS hroom1 hroom2 ho hsl
        go_wp2_with fail
        refine (BG1.out _).mono ?_
        rintro e W ⟨rfl, hbb⟩
        have hb := hb.trans hbb
        clear hbb
        go_upto_block 2 with fail
        go_cut [4] from 25 to 36 (fun v wx => (∃ k : Nat, v = .int .i64 (k : Int) ∧ k ≤ s.size ∧ j + 2 ≤ k ∧ s.data.toList.drop (k + 3) = t) ∧ Bel w wx)
        case first =>
          go_wp2_with fail
          go_loopw [4] (fun v wr => ∃ k : Nat, v = .int .i64 (k : Int) ∧ k ≤ s.size ∧ j + 2 ≤ k ∧ Bel w wr ∧ Hid (M.behindF M.closeS (s.data.toList.drop k) = t)) (fun v _ => s.size - (intOf v).toNat)
          case atStart => exact ⟨j + 2, by first | rfl | go_num, by omega, Nat.le_refl _, hb, HE⟩
          case round =>
            obtain ⟨k, rfl, hk, hjk, hbk, HK⟩ := hrel
            by_cases hkl : k < s.size
            · have bk := Lib.hid (fun W => beginsAt_any s ⟨#[45, 45, 62]⟩ k (by omega) (by omega) W)
              cases hp : Lib.hasPrefix (M.fold (s.data.toList.drop k)) M.closeS with
              | true =>
                rw [show (⟨#[45, 45, 62]⟩ : ByteArray).data.toList = M.closeS from rfl, hp] at bk
                have HX := Lib.hid ((behind_here M.closeS s k hkl hp).symm.trans HK.out)
                clear hp HK
                go_wp2_with fail
                refine (bk.out _).mono ?_
                rintro e W3 ⟨rfl, hbb⟩
                go_wp2_with fail
                go_meet
                exact ⟨⟨k, rfl, hk, hjk, HX.out⟩, hbk.trans hbb⟩
              | false =>
                rw [show (⟨#[45, 45, 62]⟩ : ByteArray).data.toList = M.closeS from rfl, hp] at bk
                have HX := Lib.hid ((behind_step M.closeS s k hkl hp).trans HK.out)
                clear hp HK
                go_wp2_with fail
                refine (bk.out _).mono ?_
                rintro e W3 ⟨rfl, hbb⟩
                go_wp2_with fail
                go_roundw
                case rel => exact ⟨k + 1, by go_num, by omega, by omega, hbk.trans hbb, HX⟩
                case measure => simp [intOf]; omega
            · obtain rfl : k = s.size := by omega
              have HX := Lib.hid (show s.data.toList.drop (s.size + 3) = t by rw [← HK.out, drop_end, List.drop_eq_nil_of_le (by rw [← Lib.size_eq]; omega)]; rfl)
              go_wp2_with fail
              go_meet
              exact ⟨⟨s.size, rfl, hk, hjk, HX.out⟩, hbk⟩
        case rest =>
        obtain ⟨⟨k, rfl, hk, hjk, hdk⟩, hb⟩ := hcut
        have HX := Lib.hid (show M.scanA s0.data.toList = M.scan0 (s.data.toList.drop (k + 3)) by rw [HR.out, hdk])
        clear hdk HR HE
        go_wp2_with fail
        go_roundg (s.size + 3 - (k + 3))
        case measure => omega
        case rel => exact ⟨k + 3, by go_num, by omega, Nat.le_refl _, hb, HX⟩
      | false =>
        rw [if_neg (by decide)] at hst
        go_wp2_with fail
        refine (BG1.out _).mono ?_
        rintro e W ⟨rfl, hbb⟩
        have hb := hb.trans hbb
        clear hbb
        go_upto_region 10 with fail
        go_cut [62] from 39 to 62 (fun v wx => v = .bool (b2 && sl) ∧ Bel w wx)
        case first =>
          clear hst HS ho
          cases b2 with
          | false =>
            go_wp2_with fail
            refine (BG2.out _).mono ?_
            rintro e W2 ⟨rfl, hbb⟩
            go_wp2_with fail
            go_meet
            exact ⟨rfl, hb.trans hbb⟩
          | true =>
            obtain ⟨j5, hj5⟩ : ∃ j5 : Nat, j + 5 = j5 := ⟨_, rfl⟩
            have hi5 : (j : Int) + 5 = (j5 : Int) := by omega
            rw [hj5] at hsl
            by_cases h5 : j5 < s.size
            · rw [drop_cons s j5 h5] at hsl
              have hsl : M.skipB s[j5] = sl := hsl
              rw [skip_int] at hsl
              cases hw : M.white s[j5] with
              | true =>
                have HW := Lib.hid hw
                have HSL := Lib.hid (show sl = true by rw [← hsl, hw]; rfl)
                clear hw hsl hj5
                go_wp2_with fail
                refine (BG2.out _).mono ?_
                rintro e W2 ⟨rfl, hbb⟩
                go_wp2_with (go_at_call 53; refine (isWhite_any _ _).mono ?_; rintro e w' ⟨rfl, rfl⟩; rw [HW.out])
                go_meet
                exact ⟨by rw [HSL.out]; rfl, hb.trans hbb⟩
              | false =>
                have HW := Lib.hid hw
                have HSL := Lib.hid (show sl = ((s[j5].toNat : Int) == 47) by rw [← hsl, hw]; rfl)
                clear hw hsl hj5
                go_wp2_with fail
                refine (BG2.out _).mono ?_
                rintro e W2 ⟨rfl, hbb⟩
                go_wp2_with (go_at_call 53; refine (isWhite_any _ _).mono ?_; rintro e w' ⟨rfl, rfl⟩; rw [HW.out])
                go_meet
                exact ⟨by rw [HSL.out]; rfl, hb.trans hbb⟩
            · have HSL := Lib.hid (show sl = false by rw [← hsl, List.drop_eq_nil_of_le (by rw [← Lib.size_eq]; omega)]; rfl)
              clear hsl hj5
              go_wp2_with fail
              refine (BG2.out _).mono ?_
              rintro e W2 ⟨rfl, hbb⟩
              go_wp2_with fail
              go_meet
              exact ⟨by rw [HSL.out]; rfl, hb.trans hbb⟩
        case rest =>
        obtain ⟨rfl, hb⟩ := hcut
        cases hm : (b2 && sl) with
        | true =>
          rw [Bool.and_eq_true] at hm
          obtain ⟨m1, m2⟩ := hm
          have h5 : j + 5 < s.size := by
            by_cases hh : j + 5 < s.size
            · exact hh
            · rw [List.drop_eq_nil_of_le (by rw [← Lib.size_eq]; omega)] at hsl
              rw [← hsl] at m2
              cases m2
          rw [if_pos ⟨m1, m2⟩] at hst
          obtain ⟨xs, r, hn⟩ : ∃ xs r, M.attrsA (s.data.toList.drop (j + 5)) = (xs, r) := ⟨_, _, rfl⟩
          rw [hn] at hst
          injection hst with e1 e2
          have e2 : r.drop 1 = t := e2
          have e1 : M.metaA xs = n := e1
          have hshort : ShortV xs := fun q hq => by have h9 := M.attrsA_val _ (s.data.toList.drop (j + 5)) (Nat.le_refl _) q (by rw [hn]; exact hq); rw [List.length_drop, ← Lib.size_eq] at h9; omega
          have hsuf := (M.attrsA_suf _ (s.data.toList.drop (j + 5)) (Nat.le_refl _)).1
          rw [hn] at hsuf
          have hrd := M.Suf.at (M.Suf.trans (a := r) hsuf (M.Suf.drop s.data.toList (j + 5)))
          rw [← Lib.size_eq] at hrd
          have hrl := hsuf.len
          rw [List.length_drop, ← Lib.size_eq] at hrl
          have hrl : r.length ≤ s.size - (j + 5) := hrl
          have T := fun W => attrsAt_any s (j + 5) (by omega) (by omega) xs r hn W
          obtain ⟨en, hen⟩ : ∃ en : Nat, en = s.size - r.length := ⟨_, rfl⟩
          rw [← hen] at T hrd
          have hen1 : (j + 5) ≤ en := by omega
          have hen2 : en ≤ s.size := by omega
          have HD := Lib.hid hrd
          clear hrd hsuf hrl hen
          rw [show ((j + 5 : Nat) : Int) = (j : Int) + 5 by omega] at T
          have TG := Lib.hid T
          have MG := Lib.hid (fun v W hW => metaOf_any v xs W hW hshort)
          rw [e1] at MG
          clear T hn e1 ho hroom1 hroom2 hsl m1 m2 hshort
          by_cases hn0 : n = 0
          · subst hn0
            have HR := Lib.hid (show M.scanA s0.data.toList = M.scan0 (s.data.toList.drop (en + 1)) by rw [HS.out, if_pos rfl, ← e2, HD.out, List.drop_drop])
            clear e2 HS HD
            go_wp2_with fail
            refine (TG.out _).mono ?_
            rintro e W3 ⟨v, rfl, hown, hbb⟩
            have hb := hb.trans hbb
            go_wp2_with fail
            refine (MG.out v _ hown.sl).mono ?_
            rintro e W4 ⟨rfl, hbb⟩
            have hb := hb.trans hbb
            go_wp2_with fail
            go_roundg (s.size + 3 - (en + 1))
            case measure => omega
            case rel => exact ⟨en + 1, by go_num, by omega, Nat.le_refl _, hb, HR⟩
          · have HR := Lib.hid (show M.scanA s0.data.toList = n by rw [HS.out, if_neg hn0])
            have hn9 : (n == 0) = false := by simp [hn0]
            clear e2 HS HD hn0
            go_wp2_with fail
            refine (TG.out _).mono ?_
            rintro e W3 ⟨v, rfl, hown, hbb⟩
            have hb := hb.trans hbb
            go_wp2_with fail
            refine (MG.out v _ hown.sl).mono ?_
            rintro e W4 ⟨rfl, hbb⟩
            have hb := hb.trans hbb
            go_wp2_with fail
            go_ret
            exact ⟨by rw [HR.out]; rfl, hb⟩
        | false =>
          rw [if_neg (by rintro ⟨m1, m2⟩; rw [m1, m2] at hm; cases hm)] at hst
          clear hm hsl hroom1 hroom2
          obtain ⟨nq, hnq⟩ : ∃ nq, nameQ (s.data.toList.drop j) = nq := ⟨_, rfl⟩
          obtain ⟨nm, hnm⟩ : ∃ nm, nameAt (s.data.toList.drop j) j = nm := ⟨_, rfl⟩
          have hnf := name_from s j
          rw [hnm] at hnf
          go_upto_region 17 with fail
          go_upto_if 80 with fail
          go_cut [8] from 77 to 115 (fun v wx => v = .int .i64 (nm : Int) ∧ Bel w wx)
          case first =>
            clear hst HS ho hnq hnf
            have e0 := byteN_in s j 0 j rfl hlt
            obtain ⟨j1, hj1⟩ : ∃ j1 : Nat, j + 1 = j1 := ⟨_, rfl⟩
            have hi1 : (j : Int) + 1 = (j1 : Int) := by omega
            obtain ⟨j2, hj2⟩ : ∃ j2 : Nat, j + 2 = j2 := ⟨_, rfl⟩
            have hi2 : (j : Int) + 2 = (j2 : Int) := by omega
            unfold nameAt nameQ at hnm
            rw [e0, fold1_60b, hj1, hj2] at hnm
            clear e0
            cases h60 : ((s[j].toNat : Int) == 60) with
            | false =>
              have hz : nm = 0 := by rw [← hnm, h60, Bool.false_and, if_neg (by decide)]
              clear hnm hj1 hj2
              go_wp2_with fail
              go_meet
              exact ⟨by first | (rw [hz]; done) | (rw [hz]; rfl) | (rw [hz]; go_num), hb⟩
            | true =>
              rw [h60, Bool.true_and] at hnm
              by_cases h1 : j1 < s.size
              · have e1 := byteN_in s j 1 j1 hj1 h1
                rw [e1] at hnm
                cases hl1 : M.letterB (M.fold1 s[j1]) with
                | true =>
                  have n47 : ¬ (M.fold1 s[j1]).toNat = 47 := fun h9 => by rw [letter_47 _ h9] at hl1; cases hl1
                  have m47 : ((s[j1].toNat : Int) == 47) = false := by rw [← fold1_47b]; simpa using n47
                  have hz : nm = j1 := by rw [← hnm, if_neg n47, e1, if_pos hl1, if_pos hl1]
                  have HL1 := Lib.hid hl1
                  clear hnm hj1 hj2 e1 n47 hl1
                  by_cases h2 : j2 < s.size
                  · skip
                    go_wp2_with fail
                    refine (isLetter_to s[j1] _ HL1.out _).mono ?_
                    rintro e W9 ⟨rfl, hW9⟩
                    subst hW9
                    go_wp2_with fail
                    go_meet
                    exact ⟨by first | (rw [hz]; done) | (rw [hz]; rfl) | (rw [hz]; go_num), hb⟩
                  · skip
                    go_wp2_with fail
                    refine (isLetter_to s[j1] _ HL1.out _).mono ?_
                    rintro e W9 ⟨rfl, hW9⟩
                    subst hW9
                    go_wp2_with fail
                    go_meet
                    exact ⟨by first | (rw [hz]; done) | (rw [hz]; rfl) | (rw [hz]; go_num), hb⟩
                | false =>
                  have HL1 := Lib.hid hl1
                  cases h47 : ((s[j1].toNat : Int) == 47) with
                  | true =>
                    have m47 : (M.fold1 s[j1]).toNat = 47 := by have h9 := fold1_47b s[j1]; rw [h47] at h9; simpa using h9
                    rw [if_pos m47] at hnm
                    by_cases h2 : j2 < s.size
                    · have e2 := byteN_in s j 2 j2 hj2 h2
                      rw [e2] at hnm
                      cases hl2 : M.letterB (M.fold1 s[j2]) with
                      | true =>
                        have hz : nm = j2 := by rw [← hnm, if_pos hl2, if_neg (by rw [hl1]; decide)]
                        have HL2 := Lib.hid hl2
                        clear hnm hj1 hj2 e1 e2 m47 hl1 hl2
                        go_wp2_with fail
                        refine (isLetter_to s[j1] _ HL1.out _).mono ?_
                        rintro e W9 ⟨rfl, hW9⟩
                        subst hW9
                        go_wp2_with fail
                        refine (isLetter_to s[j2] _ HL2.out _).mono ?_
                        rintro e W9 ⟨rfl, hW9⟩
                        subst hW9
                        go_wp2_with fail
                        go_meet
                        exact ⟨by first | (rw [hz]; done) | (rw [hz]; rfl) | (rw [hz]; go_num), hb⟩
                      | false =>
                        have hz : nm = 0 := by rw [← hnm, if_neg (by rw [hl2]; decide)]
                        have HL2 := Lib.hid hl2
                        clear hnm hj1 hj2 e1 e2 m47 hl1 hl2
                        go_wp2_with fail
                        refine (isLetter_to s[j1] _ HL1.out _).mono ?_
                        rintro e W9 ⟨rfl, hW9⟩
                        subst hW9
                        go_wp2_with fail
                        refine (isLetter_to s[j2] _ HL2.out _).mono ?_
                        rintro e W9 ⟨rfl, hW9⟩
                        subst hW9
                        go_wp2_with fail
                        go_meet
                        exact ⟨by first | (rw [hz]; done) | (rw [hz]; rfl) | (rw [hz]; go_num), hb⟩
                    · have hz : nm = 0 := by rw [← hnm, byteN_out s j 2 (by omega), if_neg (by decide)]
                      clear hnm hj1 hj2 e1 m47 hl1
                      go_wp2_with fail
                      refine (isLetter_to s[j1] _ HL1.out _).mono ?_
                      rintro e W9 ⟨rfl, hW9⟩
                      subst hW9
                      go_wp2_with fail
                      go_meet
                      exact ⟨by first | (rw [hz]; done) | (rw [hz]; rfl) | (rw [hz]; go_num), hb⟩
                  | false =>
                    have n47 : ¬ (M.fold1 s[j1]).toNat = 47 := by have h9 := fold1_47b s[j1]; rw [h47] at h9; simpa using h9
                    have hz : nm = 0 := by rw [← hnm, if_neg n47, e1, if_neg (by rw [hl1]; decide)]
                    clear hnm hj1 hj2 e1 n47 hl1
                    by_cases h2 : j2 < s.size
                    · skip
                      go_wp2_with fail
                      refine (isLetter_to s[j1] _ HL1.out _).mono ?_
                      rintro e W9 ⟨rfl, hW9⟩
                      subst hW9
                      go_wp2_with fail
                      go_meet
                      exact ⟨by first | (rw [hz]; done) | (rw [hz]; rfl) | (rw [hz]; go_num), hb⟩
                    · skip
                      go_wp2_with fail
                      refine (isLetter_to s[j1] _ HL1.out _).mono ?_
                      rintro e W9 ⟨rfl, hW9⟩
                      subst hW9
                      go_wp2_with fail
                      go_meet
                      exact ⟨by first | (rw [hz]; done) | (rw [hz]; rfl) | (rw [hz]; go_num), hb⟩
              · have hz : nm = 0 := by rw [← hnm, byteN_out s j 1 (by omega), if_neg (show ¬ UInt8.toNat 0 = 47 by decide), byteN_out s j 1 (by omega), if_neg (by decide)]
                have h2 : ¬ j2 < s.size := by omega
                clear hnm hj1 hj2
                go_wp2_with fail
                go_meet
                exact ⟨by first | (rw [hz]; done) | (rw [hz]; rfl) | (rw [hz]; go_num), hb⟩
          case rest =>
          obtain ⟨rfl, hb⟩ := hcut
          cases nq with
          | true =>
            obtain ⟨hn1, hn2, hn3, hn4⟩ := hnf hnq
            have hoe : o = some ((s.data.toList.drop j).dropWhile (fun c => !M.endB c)) := by rw [← ho, nameEnd_eq, hnq]; rfl
            rw [hoe] at hst
            have hst : ((0 : Int), (M.attrsA ((s.data.toList.drop j).dropWhile (fun c => !M.endB c))).2.drop 1) = (n, t) := hst
            injection hst with e1 e2
            subst e1
            have HE := Lib.hid e2
            have HN4 := Lib.hid hn4
            have HR := Lib.hid (HS.out.trans (if_pos rfl))
            have g0 : decide (0 < (nm : Int)) = true := by simp; omega
            clear e2 hn4 hoe ho hnq hnf hnm HS hst
            go_upto_block 4 with fail
            go_cut [8] from 118 to 136 (fun v wx => (∃ j : Nat, v = .int .i64 (j : Int) ∧ nm ≤ j ∧ j ≤ s.size ∧ s.data.toList.drop j = (s.data.toList.drop nm).dropWhile (fun c => !M.endB c)) ∧ wc = wx)
            case first =>
              go_wp2_with fail
              go_loop [8] (fun v => ∃ j : Nat, v = .int .i64 (j : Int) ∧ nm ≤ j ∧ j ≤ s.size ∧ Hid ((s.data.toList.drop j).dropWhile (fun c => !M.endB c) = (s.data.toList.drop nm).dropWhile (fun c => !M.endB c))) (fun v => s.size - (intOf v).toNat)
              case atStart => exact ⟨nm, by first | rfl | go_num, Nat.le_refl _, by omega, Lib.hid rfl⟩
              case round =>
                obtain ⟨j, rfl, hsj, hj, HJ⟩ := hrel
                by_cases hlt : j < s.size
                ·
                  cases h62 : ((s[j].toNat : Int) != 62) with
                  | true =>
                    cases hw : M.white s[j] with
                    | true =>
                      have hp : ((fun c => !M.endB c)) s[j] = false := by simp [end_int2, h62, hw]
                      have HR := Lib.hid ((dw_stop ((fun c => !M.endB c)) s j hlt hp).symm.trans HJ.out)
                      have HW := Lib.hid hw
                      clear hp hw
                      go_wp2_with (go_at_call 53; refine (isWhite_any _ _).mono ?_; rintro e w' ⟨rfl, rfl⟩; rw [HW.out])
                      go_meet
                      exact ⟨⟨j, rfl, hsj, hj, HR.out⟩, rfl⟩
                    | false =>
                      have hp : ((fun c => !M.endB c)) s[j] = true := by simp [end_int2, h62, hw]
                      have HR := Lib.hid ((dw_go ((fun c => !M.endB c)) s j hlt hp).trans HJ.out)
                      have HW := Lib.hid hw
                      clear hp hw
                      go_wp2_with (go_at_call 53; refine (isWhite_any _ _).mono ?_; rintro e w' ⟨rfl, rfl⟩; rw [HW.out])
                      go_round
                      case rel => exact ⟨j + 1, by go_num, by omega, by omega, HR⟩
                      case measure => simp [intOf]; omega
                  | false =>
                    have hp : ((fun c => !M.endB c)) s[j] = false := by simp [end_int2, h62]
                    have HR := Lib.hid ((dw_stop ((fun c => !M.endB c)) s j hlt hp).symm.trans HJ.out)
                    clear hp
                    go_wp2_with fail
                    go_meet
                    exact ⟨⟨j, rfl, hsj, hj, HR.out⟩, rfl⟩
                · obtain rfl : j = s.size := by omega
                  have HR := Lib.hid (show s.data.toList.drop s.size = (s.data.toList.drop nm).dropWhile (fun c => !M.endB c) by rw [← HJ.out, drop_end]; rfl)
                  go_wp2_with fail
                  go_meet
                  exact ⟨⟨s.size, rfl, hsj, hj, HR.out⟩, rfl⟩
            case rest =>
            obtain ⟨⟨k, rfl, hnk, hk, hdk⟩, rfl⟩ := hcut
            rw [HN4.out] at hdk
            obtain ⟨xs, r, hn⟩ : ∃ xs r, M.attrsA (s.data.toList.drop k) = (xs, r) := ⟨_, _, rfl⟩
            have e2 : r.drop 1 = t := by have h9 := HE.out; rw [← hdk, hn] at h9; exact h9
            have hsuf := (M.attrsA_suf _ (s.data.toList.drop k) (Nat.le_refl _)).1
            rw [hn] at hsuf
            have hrd := M.Suf.at (M.Suf.trans (a := r) hsuf (M.Suf.drop s.data.toList k))
            rw [← Lib.size_eq] at hrd
            have hrl := hsuf.len
            rw [List.length_drop, ← Lib.size_eq] at hrl
            have hrl : r.length ≤ s.size - k := hrl
            have T := fun W => attrsAt_any s k (by omega) (by omega) xs r hn W
            obtain ⟨en, hen⟩ : ∃ en : Nat, en = s.size - r.length := ⟨_, rfl⟩
            rw [← hen] at T hrd
            have hen1 : k ≤ en := by omega
            have hen2 : en ≤ s.size := by omega
            have HD := Lib.hid hrd
            clear hrd hsuf hrl hen
            have TG := Lib.hid T
            have HX := Lib.hid (show M.scanA s0.data.toList = M.scan0 (s.data.toList.drop (en + 1)) by rw [HR.out, ← e2, HD.out, List.drop_drop])
            clear T hn e2 hdk HE HN4 HR HD
            go_wp2_with fail
            refine (TG.out _).mono ?_
            rintro e W3 ⟨v, rfl, hown, hbb⟩
            have hb := hb.trans hbb
            go_wp2_with fail
            go_roundg (s.size + 3 - (en + 1))
            case measure => omega
            case rel => exact ⟨en + 1, by go_num, by omega, Nat.le_refl _, hb, HX⟩
          | false =>
            have hz : nm = 0 := by rw [← hnm, nameAt, hnq, if_neg (by decide)]
            have hon : o = none := by rw [← ho, nameEnd_eq, hnq]; rfl
            rw [hon] at hst
            have hst : (if b3 = true ∨ b4 = true ∨ b6 = true then ((0 : Int), M.behindF [62] (s.data.toList.drop j)) else (0, (s.data.toList.drop j).drop 1)) = (n, t) := hst
            clear hnm hnf hnq ho hon
            subst hz
            go_upto_region 27 with fail
            go_cut [157] from 145 to 157 (fun v wx => v = .bool (b3 || b4 || b6) ∧ Bel w wx)
            case first =>
              clear hst HS
              cases b3 with
              | true =>
                go_wp2_with fail
                refine (BG3.out _).mono ?_
                rintro e W2 ⟨rfl, hbb⟩
                go_wp2_with fail
                go_meet
                exact ⟨rfl, hb.trans hbb⟩
              | false =>
                cases b4 with
                | true =>
                  go_wp2_with fail
                  refine (BG3.out _).mono ?_
                  rintro e W2 ⟨rfl, hbb⟩
                  have hb := hb.trans hbb
                  go_wp2_with fail
                  refine (BG4.out _).mono ?_
                  rintro e W3 ⟨rfl, hbb⟩
                  go_wp2_with fail
                  go_meet
                  exact ⟨rfl, hb.trans hbb⟩
                | false =>
                  go_wp2_with fail
                  refine (BG3.out _).mono ?_
                  rintro e W2 ⟨rfl, hbb⟩
                  have hb := hb.trans hbb
                  go_wp2_with fail
                  refine (BG4.out _).mono ?_
                  rintro e W3 ⟨rfl, hbb⟩
                  have hb := hb.trans hbb
                  go_wp2_with fail
                  refine (BG6.out _).mono ?_
                  rintro e W4 ⟨rfl, hbb⟩
                  go_wp2_with fail
                  go_meet
                  exact ⟨by simp, hb.trans hbb⟩
            case rest =>
            obtain ⟨rfl, hb⟩ := hcut
            cases hq : (b3 || b4 || b6) with
            | true =>
              rw [if_pos (by simpa [Bool.or_eq_true, or_assoc] using hq), behind_62] at hst
              injection hst with e1 e2
              subst e1
              have HE := Lib.hid e2
              have HR := Lib.hid (HS.out.trans (if_pos rfl))
              clear e2 HS hq
              go_upto_if 157 with fail
              go_cut [3] from 158 to 169 (fun v wx => (∃ k : Nat, v = .int .i64 (k : Int) ∧ j ≤ k ∧ k ≤ s.size ∧ s.data.toList.drop (k + 1) = t) ∧ Bel w wx)
              case first =>
                go_wp2_with fail
                go_loop [3] (fun v => ∃ k : Nat, v = .int .i64 (k : Int) ∧ j ≤ k ∧ k ≤ s.size ∧ Hid (((s.data.toList.drop k).dropWhile p62).drop 1 = t)) (fun v => s.size - (intOf v).toNat)
                case atStart => exact ⟨j, rfl, Nat.le_refl _, by omega, HE⟩
                case round =>
                  obtain ⟨k, rfl, hjk, hk, HK⟩ := hrel
                  by_cases hkl : k < s.size
                  · cases hc : ((s[k].toNat : Int) != 62) with
                    | true =>
                      have HX := Lib.hid (show ((s.data.toList.drop (k + 1)).dropWhile p62).drop 1 = t by rw [dw_go p62 s k hkl hc]; exact HK.out)
                      clear HK
                      go_wp2_with fail
                      go_round
                      case rel => exact ⟨k + 1, by go_num, by omega, by omega, HX⟩
                      case measure => simp [intOf]; omega
                    | false =>
                      have HX := Lib.hid (show s.data.toList.drop (k + 1) = t by rw [← HK.out, dw_stop p62 s k hkl hc, List.drop_drop])
                      clear HK
                      go_wp2_with fail
                      go_meet
                      exact ⟨⟨k, rfl, hjk, hk, HX.out⟩, hb⟩
                  · obtain rfl : k = s.size := by omega
                    have HX := Lib.hid (show s.data.toList.drop (s.size + 1) = t by rw [← HK.out, drop_end, List.drop_eq_nil_of_le (by rw [← Lib.size_eq]; omega)]; rfl)
                    go_wp2_with fail
                    go_meet
                    exact ⟨⟨s.size, rfl, hjk, hk, HX.out⟩, hb⟩
              case rest =>
              obtain ⟨⟨k, rfl, hjk, hk, hdk⟩, hb⟩ := hcut
              have HX := Lib.hid (show M.scanA s0.data.toList = M.scan0 (s.data.toList.drop (k + 1)) by rw [HR.out, hdk])
              clear hdk HR HE
              go_wp2_with fail
              go_roundg (s.size + 3 - (k + 1))
              case measure => omega
              case rel => exact ⟨k + 1, by go_num, by omega, Nat.le_refl _, hb, HX⟩
            | false =>
              rw [if_neg (by intro h9; simp [Bool.or_eq_false_iff] at hq; obtain ⟨⟨q1, q2⟩, q3⟩ := hq; rw [q1, q2, q3] at h9; rcases h9 with h9 | h9 | h9 <;> cases h9), List.drop_drop] at hst
              injection hst with e1 e2
              subst e1
              have HX := Lib.hid (show M.scanA s0.data.toList = M.scan0 (s.data.toList.drop (j + 1)) by rw [HS.out, if_pos rfl, e2])
              clear e2 HS hq
              go_wp2_with fail
              go_roundg (s.size + 3 - (j + 1))
              case measure => omega
              case rel => exact ⟨j + 1, by go_num, by omega, Nat.le_refl _, hb, HX⟩
    · have HR := Lib.hid (show M.scanA s0.data.toList = 0 by rw [HJ.out, List.drop_eq_nil_of_le (by rw [← Lib.size_eq]; omega)]; rfl)
      go_wp2_with fail
      go_ret
      exact ⟨by rw [HR.out]; rfl, hb⟩
end Go.Proofs.YtcgdecpjlggekaaGreatDoor

/-
  The document's answers on marks: what the reference computes is what the package computes.
-/
namespace Go.Proofs.YtcgdecpjlggekaaGreatDoor
open Go.RowKit

theorem markOf_any (n : Int) (w : World) : Calls Tryz.prog 48 #[.int .i64 n] w fun e w' => e = .returned (.string ⟨(M.markOf n).toArray⟩) ∧ w = w' := by
  have H : (n == 1) = true ∨ (n == 1) = false ∧ ((n == 2) = true ∨ (n == 2) = false ∧ ((n == 3) = true ∨ (n == 3) = false)) := by
    cases (n == 1) <;> cases (n == 2) <;> cases (n == 3) <;> simp
  rcases H with h | ⟨h, h2 | ⟨h2, h3 | h3⟩⟩
  all_goals
    go_enter Tryz.func48, Tryz.ntmps48
    go_wp2
    go_ret
    refine ⟨?_, rfl⟩
  · obtain rfl : n = 1 := by simpa using h
    rfl
  · obtain rfl : n = 2 := by simpa using h2
    rfl
  · obtain rfl : n = 3 := by simpa using h3
    rfl
  · have e : M.markOf n = [] := by
      simp only [beq_eq_false_iff_ne, ne_eq] at h h2 h3
      rw [M.markOf, if_neg (fun x => h x.symm), if_neg (fun x => h3 x.symm), if_neg (fun x => h2 x.symm)]
    rw [e]; rfl
theorem sniffOf_any (s : ByteArray) (w : World) : Calls Tryz.prog 27 #[.string s] w fun e w' => e = .returned (.tuple #[.int .i64 (M.sniff s.data.toList).1, .int .i64 (M.sniff s.data.toList).2]) ∧ w = w' := by
  have e1 : M.markOf 1 = [239, 187, 191] := rfl
  have e2 : M.markOf 2 = [255, 254] := rfl
  have e3 : M.markOf 3 = [254, 255] := rfl
  have HS := Lib.hid (show M.sniff s.data.toList = (if (decide ((3 : Int) ≤ (s.size : Int)) && ((s.extract 0 3).toList == [239, 187, 191])) = true then (1, 3) else if (decide ((2 : Int) ≤ (s.size : Int)) && ((s.extract 0 2).toList == [254, 255])) = true then (3, 2) else if (decide ((2 : Int) ≤ (s.size : Int)) && ((s.extract 0 2).toList == [255, 254])) = true then (2, 2) else (0, 0)) by
    have H1 := Lib.hasPrefix_raw s ⟨#[239, 187, 191]⟩
    have H2 := Lib.hasPrefix_raw s ⟨#[255, 254]⟩
    have H3 := Lib.hasPrefix_raw s ⟨#[254, 255]⟩
    have d3 : decide ((3 : Int) ≤ (s.size : Int)) = decide (3 ≤ s.size) := by norm_cast
    have d2 : decide ((2 : Int) ≤ (s.size : Int)) = decide (2 ≤ s.size) := by norm_cast
    rw [d3, d2]
    unfold M.sniff
    rw [show ([239, 187, 191] : List UInt8) = (⟨#[239, 187, 191]⟩ : ByteArray).data.toList from rfl, show ([255, 254] : List UInt8) = (⟨#[255, 254]⟩ : ByteArray).data.toList from rfl, show ([254, 255] : List UInt8) = (⟨#[254, 255]⟩ : ByteArray).data.toList from rfl, ← H1, ← H2, ← H3]
    simp [show (⟨#[239, 187, 191]⟩ : ByteArray).size = 3 from rfl, show (⟨#[254, 255]⟩ : ByteArray).size = 2 from rfl, show (⟨#[255, 254]⟩ : ByteArray).size = 2 from rfl])
  go_enter Tryz.func27, Tryz.ntmps27
  go_wp2_with (go_at_call 48; refine (markOf_any _ _).mono ?_; rintro e w' ⟨rfl, rfl⟩)
  refine wp_loop_rounds 4 ?_
  rw [rounds_succ]
  go_wp2_with (go_at_call 48; refine (markOf_any _ _).mono ?_; rintro e w' ⟨rfl, rfl⟩)
  all_goals try (rw [rounds_succ]; go_wp2_with (go_at_call 48; refine (markOf_any _ _).mono ?_; rintro e w' ⟨rfl, rfl⟩))
  all_goals try (rw [rounds_succ]; go_wp2_with (go_at_call 48; refine (markOf_any _ _).mono ?_; rintro e w' ⟨rfl, rfl⟩))
  all_goals try (rw [rounds_succ]; go_wp2_with (go_at_call 48; refine (markOf_any _ _).mono ?_; rintro e w' ⟨rfl, rfl⟩))
  all_goals try (go_quiet (fail); go_wp2)
  all_goals go_ret2
  all_goals refine ⟨?_, rfl⟩
  all_goals (try have n2 : decide ((2 : Int) ≤ (s.size : Int)) = false := by (simp; omega))
  all_goals (try have n3 : decide ((3 : Int) ≤ (s.size : Int)) = false := by (simp; omega))
  all_goals (try have p2 : decide ((2 : Int) ≤ (s.size : Int)) = true := by (simp; omega))
  all_goals (try have p3 : decide ((3 : Int) ≤ (s.size : Int)) = true := by (simp; omega))
  all_goals rw [HS.out]
  all_goals (try simp only [*, Bool.false_and, Bool.true_and])
  all_goals (try simp_all)
end Go.Proofs.YtcgdecpjlggekaaGreatDoor

/-
  The document's answers on fronts: ChooseOf, IsEnough.
-/
namespace Go.Proofs.YtcgdecpjlggekaaGreatDoor
open Go.RowKit
set_option maxRecDepth 1000000
set_option maxHeartbeats 2000000

theorem sniffQ_to (s : ByteArray) (n k : Int) (h : M.sniff s.data.toList = (n, k)) (w : World) : Calls Tryz.prog 27 #[.string s] w fun e w' => e = .returned (.tuple #[.int .i64 n, .int .i64 k]) ∧ w = w' := by
  have := sniffOf_any s w; rw [h] at this; exact this
theorem findQ_to (s : ByteArray) (n : Int) (h : M.find s.data.toList = n) (hs : s.size ≤ 68719476735) (w : World) : Calls Tryz.prog 28 #[.string s] w fun e w' => e = .returned (.int .i64 n) ∧ Bel w w' := by
  have := findOf_any s w hs; rw [h] at this; exact this
theorem scanQ_to (s : ByteArray) (n : Int) (h : M.scanA s.data.toList = n) (hs : s.size ≤ 9000) (w : World) : Calls Tryz.prog 29 #[.string s] w fun e w' => e = .returned (.int .i64 n) ∧ Bel w w' := by
  have := scanRef_any s hs w; rw [h] at this; exact this
theorem chooseOf_to (nm s : ByteArray) (n y k : Int) (h : M.chosen nm.data.toList s.data.toList = (n, y, k)) (hn : nm.size ≤ 68719476735) (hs : s.size ≤ 9000) (w : World) : Calls Tryz.prog 10 #[.string nm, .string s] w fun e w' => e = .returned (.tuple #[.int .i64 n, .int .i64 y, .int .i64 k]) ∧ Bel w w' := by
  obtain ⟨a, b, hsn⟩ : ∃ a b, M.sniff s.data.toList = (a, b) := ⟨_, _, rfl⟩
  have HSN := Lib.hid hsn
  obtain ⟨f, hf⟩ : ∃ f, M.find nm.data.toList = f := ⟨_, rfl⟩
  have HF := Lib.hid hf
  obtain ⟨m, hm⟩ : ∃ m, M.scanA s.data.toList = m := ⟨_, rfl⟩
  have HM := Lib.hid hm
  rw [M.chosen, hsn, hf, hm] at h
  simp only at h
  by_cases h1 : a = 0
  · rw [if_neg (by simp [h1])] at h
    by_cases h2 : f = 0
    · rw [if_neg (by simp [h2])] at h
      by_cases h3 : m = 0
      · rw [if_neg (by simp [h3])] at h
        simp only [Prod.mk.injEq] at h
        obtain ⟨rfl, rfl, rfl⟩ := h
        subst h1; subst h2; subst h3
        clear hsn hf hm
        go_enter Tryz.func10, Tryz.ntmps10
        go_wp2_with fail
        refine (sniffQ_to s _ _ HSN.out _).mono ?_
        rintro e _ ⟨rfl, rfl⟩
        go_wp2_with fail
        refine (findQ_to nm _ HF.out hn _).mono ?_
        rintro e w2 ⟨rfl, b2⟩
        go_wp2_with fail
        refine (scanQ_to s _ HM.out hs _).mono ?_
        rintro e w3 ⟨rfl, b3⟩
        have b3 := b2.trans b3
        go_wp2_with fail
        refine bodyPost_ret (v := .tuple #[.int .i64 4, .int .i64 4, .int .i64 0]) (by simp [results, Tryz.results10, go_sem]) rfl ?_
        exact ⟨rfl, b3⟩
      · rw [if_pos h3] at h
        simp only [Prod.mk.injEq] at h
        obtain ⟨rfl, rfl, rfl⟩ := h
        subst h1; subst h2
        have g3 : (m != 0) = true := by simpa using h3
        clear hsn hf hm h3
        go_enter Tryz.func10, Tryz.ntmps10
        go_wp2_with fail
        refine (sniffQ_to s _ _ HSN.out _).mono ?_
        rintro e _ ⟨rfl, rfl⟩
        go_wp2_with fail
        refine (findQ_to nm _ HF.out hn _).mono ?_
        rintro e w2 ⟨rfl, b2⟩
        go_wp2_with fail
        refine (scanQ_to s _ HM.out hs _).mono ?_
        rintro e w3 ⟨rfl, b3⟩
        have b3 := b2.trans b3
        go_wp2_with fail
        refine bodyPost_ret (v := .tuple #[.int .i64 m, .int .i64 3, .int .i64 0]) (by simp [results, Tryz.results10, go_sem]) rfl ?_
        exact ⟨rfl, b3⟩
    · rw [if_pos h2] at h
      simp only [Prod.mk.injEq] at h
      obtain ⟨rfl, rfl, rfl⟩ := h
      subst h1
      have g2 : (f != 0) = true := by simpa using h2
      clear hsn hf hm h2
      go_enter Tryz.func10, Tryz.ntmps10
      go_wp2_with fail
      refine (sniffQ_to s _ _ HSN.out _).mono ?_
      rintro e _ ⟨rfl, rfl⟩
      go_wp2_with fail
      refine (findQ_to nm _ HF.out hn _).mono ?_
      rintro e w2 ⟨rfl, b2⟩
      go_wp2_with fail
      refine bodyPost_ret (v := .tuple #[.int .i64 f, .int .i64 2, .int .i64 0]) (by simp [results, Tryz.results10, go_sem]) rfl ?_
      exact ⟨rfl, b2⟩
  · rw [if_pos h1] at h
    simp only [Prod.mk.injEq] at h
    obtain ⟨rfl, rfl, rfl⟩ := h
    have g1 : (a != 0) = true := by simpa using h1
    clear hsn hf hm h1
    go_enter Tryz.func10, Tryz.ntmps10
    go_wp2_with fail
    refine (sniffQ_to s _ _ HSN.out _).mono ?_
    rintro e _ ⟨rfl, rfl⟩
    go_wp2_with fail
    refine bodyPost_ret (v := .tuple #[.int .i64 a, .int .i64 1, .int .i64 b]) (by simp [results, Tryz.results10, go_sem]) rfl ?_
    exact ⟨rfl, Bel.refl _⟩
theorem isEnough_to (nm s : ByteArray) (r : Bool) (h : M.enough nm.data.toList s.data.toList = r) (hn : nm.size ≤ 68719476735) (w : World) : Calls Tryz.prog 25 #[.string nm, .string s] w fun e w' => e = .returned (.bool r) ∧ Bel w w' := by
  obtain ⟨a, b, hsn⟩ : ∃ a b, M.sniff s.data.toList = (a, b) := ⟨_, _, rfl⟩
  have HSN := Lib.hid hsn
  obtain ⟨f, hf⟩ : ∃ f, M.find nm.data.toList = f := ⟨_, rfl⟩
  have HF := Lib.hid hf
  rw [M.enough, hsn, hf, ← Lib.size_eq] at h
  simp only at h
  by_cases h1 : a = 0
  · by_cases h256 : 256 ≤ s.size
    · have HR := Lib.hid (show r = true by rw [← h, decide_eq_true (show (if f ≠ 0 then 3 else 256) ≤ s.size by split <;> omega)]; simp)
      have g : decide (256 ≤ (s.size : Int)) = true := by simp; omega
      subst h1
      clear hsn hf h h256
      go_enter Tryz.func25, Tryz.ntmps25
      go_wp2_with fail
      refine (sniffQ_to s _ _ HSN.out _).mono ?_
      rintro e _ ⟨rfl, rfl⟩
      go_wp2_with fail
      go_ret
      exact ⟨by rw [HR.out]; rfl, Bel.refl _⟩
    · have g : decide (256 ≤ (s.size : Int)) = false := by simp; omega
      by_cases h2 : f = 0
      · have HR := Lib.hid (show r = false by rw [← h, decide_eq_false (by simp [h1]), if_neg (by simp [h2]), decide_eq_false h256]; rfl)
        subst h1; subst h2
        clear hsn hf h h256
        go_enter Tryz.func25, Tryz.ntmps25
        go_wp2_with fail
        refine (sniffQ_to s _ _ HSN.out _).mono ?_
        rintro e _ ⟨rfl, rfl⟩
        go_wp2_with fail
        skip
        refine (findQ_to nm _ HF.out hn _).mono ?_
        rintro e w2 ⟨rfl, b2⟩
        go_wp2_with fail
        go_ret
        exact ⟨by rw [HR.out]; rfl, b2⟩
      · have g2 : (f != 0) = true := by simpa using h2
        by_cases h3 : 3 ≤ s.size
        · have HR := Lib.hid (show r = true by rw [← h, if_pos h2, decide_eq_true h3]; simp)
          have g3 : decide (3 ≤ (s.size : Int)) = true := by simp; omega
          subst h1
          clear hsn hf h h256 h2 h3
          go_enter Tryz.func25, Tryz.ntmps25
          go_wp2_with fail
          refine (sniffQ_to s _ _ HSN.out _).mono ?_
          rintro e _ ⟨rfl, rfl⟩
          go_wp2_with fail
          skip
          refine (findQ_to nm _ HF.out hn _).mono ?_
          rintro e w2 ⟨rfl, b2⟩
          go_wp2_with fail
          go_ret
          exact ⟨by rw [HR.out]; rfl, b2⟩
        · have HR := Lib.hid (show r = false by rw [← h, decide_eq_false (by simp [h1]), if_pos h2, decide_eq_false h3]; rfl)
          have g3 : decide (3 ≤ (s.size : Int)) = false := by simp; omega
          subst h1
          clear hsn hf h h256 h2 h3
          go_enter Tryz.func25, Tryz.ntmps25
          go_wp2_with fail
          refine (sniffQ_to s _ _ HSN.out _).mono ?_
          rintro e _ ⟨rfl, rfl⟩
          go_wp2_with fail
          skip
          refine (findQ_to nm _ HF.out hn _).mono ?_
          rintro e w2 ⟨rfl, b2⟩
          go_wp2_with fail
          go_ret
          exact ⟨by rw [HR.out]; rfl, b2⟩
  · have HR := Lib.hid (show r = true by rw [← h, decide_eq_true h1]; rfl)
    have g1 : (a != 0) = true := by simpa using h1
    clear hsn hf h h1
    go_enter Tryz.func25, Tryz.ntmps25
    go_wp2_with fail
    refine (sniffQ_to s _ _ HSN.out _).mono ?_
    rintro e _ ⟨rfl, rfl⟩
    go_wp2_with fail
    go_ret
    exact ⟨by rw [HR.out]; rfl, Bel.refl _⟩
end Go.Proofs.YtcgdecpjlggekaaGreatDoor

/-
  The document's answers on UTF-8: IsScalar, CheckPoints, Row, EncodeUtf8.
-/
namespace Go.Proofs.YtcgdecpjlggekaaGreatDoor
open Go.RowKit
set_option maxRecDepth 1000000

theorem row8_le (n : Int) : (M.row8 n).length ≤ 4 := by unfold M.row8; (repeat' split) <;> simp
end Go.Proofs.YtcgdecpjlggekaaGreatDoor

/-
  The document's answers on UTF-16: unitAt, DecodeUtf16, EncodeUtf16.
-/
namespace Go.Proofs.YtcgdecpjlggekaaGreatDoor
open Go.RowKit
set_option maxRecDepth 1000000

theorem unitAt_any (big : Bool) (s : ByteArray) (k : Nat) (a b : UInt8) (ha : s.data.toList[k]? = some a) (hb : s.data.toList[k + 1]? = some b) (hs : s.size ≤ 68719476735) (w : World) : Calls Tryz.prog 47 #[.bool big, .string s, .int .i64 (k : Int)] w fun e w' => e = .returned (.int .i64 (M.unit16 big a b)) ∧ ∃ q, w.drewN q = w' := by
  obtain ⟨k0, h0⟩ := head_at s k a ha
  obtain ⟨k1, h1⟩ := head_at s (k + 1) b hb
  have hal := a.toNat_lt
  have hbl := b.toNat_lt
  clear ha hb
  cases big
  · have H := Lib.hid (show M.unit16 false a b = (a.toNat : Int) + 256 * (b.toNat : Int) by simp only [M.unit16, Bool.false_eq_true, if_false])
    go_enter Tryz.func47, Tryz.ntmps47
    go_wp2_with fail
    go_quiet (fail)
    go_wp2_with fail
    go_ret
    rw [H.out]
    exact ⟨rfl, _, rfl⟩
  · have H := Lib.hid (show M.unit16 true a b = 256 * (a.toNat : Int) + (b.toNat : Int) by simp only [M.unit16, if_true])
    go_enter Tryz.func47, Tryz.ntmps47
    go_wp2_with fail
    go_quiet (fail)
    go_wp2_with fail
    go_ret
    rw [H.out]
    exact ⟨rfl, _, rfl⟩
theorem unitAt_to (big : Bool) (s : ByteArray) (k : Nat) (a b : UInt8) (n : Int) (hn : M.unit16 big a b = n) (ha : s.data.toList[k]? = some a) (hb : s.data.toList[k + 1]? = some b) (hs : s.size ≤ 68719476735) (i : Int) (hi : i = (k : Int)) (w : World) : Calls Tryz.prog 47 #[.bool big, .string s, .int .i64 i] w fun e w' => e = .returned (.int .i64 n) ∧ ∃ q, w.drewN q = w' := by
  subst hi
  have := unitAt_any big s k a b ha hb hs w; rw [hn] at this; exact this
theorem between_to (n a b : Int) (c : Bool) (h : decide (a ≤ n ∧ n ≤ b) = c) (w : World) : Calls Tryz.prog 24 #[.int .i64 n, .int .i64 a, .int .i64 b] w fun e w' => e = .returned (.bool c) ∧ w = w' := by
  have := between_any n a b w; rw [h] at this; exact this
theorem drop_two (l : List UInt8) (k : Nat) (a b : UInt8) (t : List UInt8) (h : l.drop k = a :: b :: t) : l[k]? = some a ∧ l[k + 1]? = some b ∧ l.drop (k + 2) = t := by
  refine ⟨?_, ?_, ?_⟩
  · have := List.getElem?_drop (xs := l) (i := k) (j := 0); rw [h] at this; simpa using this.symm
  · have := List.getElem?_drop (xs := l) (i := k) (j := 1); rw [h] at this; simpa using this.symm
  · have := List.drop_drop (l := l) (i := 2) (j := k); rw [h] at this; simpa using this.symm
set_option maxHeartbeats 4000000 in
theorem decodeUtf16_any (big : Bool) (s : ByteArray) (hs : s.size ≤ 68719476735) (w : World) : Calls Tryz.prog 58 #[.bool big, .string s] w fun e w' => ∃ v, e = .returned (.tuple #[v, .string ⟨(M.told16 big s.data.toList).2.toArray⟩]) ∧ Own w.heap.size 3 w' v ((M.told16 big s.data.toList).1.map (Value.int .i64)) ∧ Bel w w' := by
  go_enter Tryz.func58, Tryz.ntmps58
  go_wp2_with fail
  go_loopw [6, 7] (fun v i wr => ∃ (k : Nat) (xs : List Int), k ≤ s.size ∧ i = .int .i64 k ∧ xs.length ≤ k ∧ Hid (M.told16 big s.data.toList = (xs ++ (M.told16 big (s.data.toList.drop k)).1, (M.told16 big (s.data.toList.drop k)).2)) ∧ Own w.heap.size 3 wr v (xs.map (Value.int .i64)) ∧ Bel w wr) (fun _ i _ => s.size - (intOf i).toNat)
  case atStart => exact ⟨0, [], by omega, rfl, by simp, Lib.hid (by simp), Own.nil _ _ _, Bel.refl _⟩
  case round =>
    obtain ⟨k, xs, hk, rfl, hx, HT, hown, hb⟩ := hrel
    have hz : (s.data.toList.drop k).length = s.size - k := by rw [List.length_drop, ← Lib.size_eq]
    have hsz : ∀ q, w.heap.size ≤ (wr.drewN q).heap.size := fun q => (Bel.drewN hb q).size
    by_cases h2 : k + 2 ≤ s.size
    · obtain ⟨a, b, t, hab⟩ : ∃ a b t, s.data.toList.drop k = a :: b :: t := by
        match hq : s.data.toList.drop k with
        | [] => rw [hq] at hz; simp at hz; omega
        | [a] => rw [hq] at hz; simp at hz; omega
        | a :: b :: t => exact ⟨a, b, t, rfl⟩
      obtain ⟨q0, q1, q2⟩ := drop_two _ _ _ _ _ hab
      have htl : s.size - k = t.length + 2 := by rw [← hz, hab]; rfl
      obtain ⟨u0, u1⟩ := M.unit16_le big a b
      have i2 : (k : Int) + 2 ≤ (s.size : Int) := by omega
      obtain ⟨n, hn⟩ : ∃ n, M.unit16 big a b = n := ⟨_, rfl⟩
      have Q0 := Lib.hid q0
      have Q1 := Lib.hid q1
      have HN := Lib.hid hn
      rcases M.say16 big a b t with ⟨g1, e1⟩ | ⟨g1, g2, e1⟩ | ⟨c, d, u, rfl, g1, g2, e1⟩ | ⟨c, d, u, rfl, g1, g2, e1⟩
      · have HF := Lib.hid (show M.told16 big s.data.toList = ((xs ++ [M.one16 (M.unit16 big a b)]) ++ (M.told16 big (s.data.toList.drop (k + 2))).1, (M.told16 big (s.data.toList.drop (k + 2))).2) by
          rw [HT.out, q2, hab, e1]; simp)
        rw [hn] at g1 u0 u1 HF
        have G1 := Lib.hid (show decide (55296 ≤ n ∧ n ≤ 56319) = false from g1)
        clear hz hab e1 htl hn q0 q1 q2
        cases hlo : M.isLo n with
        | true =>
          have HO := Lib.hid (show M.one16 n = 65533 by rw [M.one16, if_pos hlo])
          have G2 := Lib.hid (show decide (55296 ≤ n ∧ n ≤ 57343) = true by simp only [M.isHi, M.isLo, decide_eq_true_eq, decide_eq_false_iff_not] at hlo g1 ⊢; omega)
          clear hlo g1
          rw [HO.out] at HF
          go_wp2_with fail
          refine (unitAt_to big s k a b n HN.out Q0.out Q1.out hs _ rfl _).mono ?_
          rintro e w1 ⟨rfl, q, rfl⟩
          go_wp2_with (first | (go_at_call 24; (first | with_reducible refine (between_to n 55296 56319 false G1.out _).mono ?_ | with_reducible refine (between_to n 55296 57343 true G2.out _).mono ?_); rintro e w' ⟨rfl, rfl⟩) | (at_builtin; refine wpList_app rfl (.tmp 47) (.tmp 49) 31 rfl elemInt (by decide) w.heap.size _ _ _ rfl rfl (hown.drewN _) rfl (by simp; omega) (hsz _) ?_; intro v' w1 hown' hb1))
          go_roundw
          case rel => exact ⟨k + 2, xs ++ [65533], by omega, by go_num, by rw [List.length_append, List.length_singleton]; omega, HF, by rw [List.map_append]; exact hown', Bel.upto (Bel.drewN hb _) hb1 (Nat.le_refl _)⟩
          case measure => simp [intOf]; omega
        | false =>
          have HO := Lib.hid (show M.one16 n = n by rw [M.one16, if_neg (by rw [hlo]; decide)])
          have G2 := Lib.hid (show decide (55296 ≤ n ∧ n ≤ 57343) = false by simp only [M.isHi, M.isLo, decide_eq_false_iff_not] at hlo g1 ⊢; omega)
          clear hlo g1
          rw [HO.out] at HF
          go_wp2_with fail
          refine (unitAt_to big s k a b n HN.out Q0.out Q1.out hs _ rfl _).mono ?_
          rintro e w1 ⟨rfl, q, rfl⟩
          go_wp2_with (first | (go_at_call 24; (first | with_reducible refine (between_to n 55296 56319 false G1.out _).mono ?_ | with_reducible refine (between_to n 55296 57343 false G2.out _).mono ?_); rintro e w' ⟨rfl, rfl⟩) | (at_builtin; refine wpList_app rfl (.tmp 47) (.tmp 49) 31 rfl elemInt (by decide) w.heap.size _ _ _ rfl rfl (hown.drewN _) rfl (by simp; omega) (hsz _) ?_; intro v' w1 hown' hb1))
          go_roundw
          case rel => exact ⟨k + 2, xs ++ [n], by omega, by go_num, by rw [List.length_append, List.length_singleton]; omega, HF, by rw [List.map_append]; exact hown', Bel.upto (Bel.drewN hb _) hb1 (Nat.le_refl _)⟩
          case measure => simp [intOf]; omega
      · have HF := Lib.hid (show M.told16 big s.data.toList = (xs, s.data.toList.drop k) by
          rw [HT.out, hab, e1]; simp)
        have HD := Lib.hid (drop_str s k)
        rw [hn] at g1 u0 u1
        have G1 := Lib.hid (show decide (55296 ≤ n ∧ n ≤ 56319) = true from g1)
        have h4 : s.size < k + 4 := by omega
        clear hz hab e1 htl hn q0 q1 q2 g1
        go_wp2_with fail
        refine (unitAt_to big s k a b n HN.out Q0.out Q1.out hs _ rfl _).mono ?_
        rintro e w1 ⟨rfl, q, rfl⟩
        go_wp2_with (first | (go_at_call 24; (first | with_reducible refine (between_to n 55296 56319 true G1.out _).mono ?_); rintro e w' ⟨rfl, rfl⟩))
        go_quiet (fail)
        go_wp2_with fail
        go_ret2
        rw [HF.out]
        exact ⟨_, by rw [← HD.out, str_eq]; rfl, (hown.drewN _).drewN _, Bel.drewN (Bel.drewN hb _) _⟩
      · have q3 := drop_two _ _ _ _ _ q2
        have HF := Lib.hid (show M.told16 big s.data.toList = ((xs ++ [M.pair16 (M.unit16 big a b) (M.unit16 big c d)]) ++ (M.told16 big (s.data.toList.drop (k + 4))).1, (M.told16 big (s.data.toList.drop (k + 4))).2) by
          rw [HT.out, q3.2.2, hab, e1]; simp)
        obtain ⟨v0, v1⟩ := M.unit16_le big c d
        obtain ⟨m, hm⟩ : ∃ m, M.unit16 big c d = m := ⟨_, rfl⟩
        rw [hn] at g1 u0 u1 HF
        rw [hm] at g2 v0 v1 HF
        have G1 := Lib.hid (show decide (55296 ≤ n ∧ n ≤ 56319) = true from g1)
        have G2 := Lib.hid (show decide (56320 ≤ m ∧ m ≤ 57343) = true from g2)
        simp only [M.isHi, decide_eq_true_eq] at g1
        simp only [M.isLo, decide_eq_true_eq] at g2
        have HM := Lib.hid hm
        have Q2 := Lib.hid q3.1
        have Q3 := Lib.hid q3.2.1
        have HP := Lib.hid (show M.pair16 n m = 65536 + 1024 * (n - 55296) + m - 56320 by rw [M.pair16]; omega)
        have h4 : k + 4 ≤ s.size := by simp only [List.length_cons] at htl; omega
        clear hz hab e1 htl hn hm q0 q1 q2 q3
        rw [HP.out] at HF
        go_wp2_with fail
        refine (unitAt_to big s k a b n HN.out Q0.out Q1.out hs _ rfl _).mono ?_
        rintro e w1 ⟨rfl, q, rfl⟩
        go_wp2_with (first | (go_at_call 24; (first | with_reducible refine (between_to n 55296 56319 true G1.out _).mono ?_); rintro e w' ⟨rfl, rfl⟩))
        refine (unitAt_to big s (k + 2) c d m HM.out Q2.out Q3.out hs _ (by omega) _).mono ?_
        rintro e w1 ⟨rfl, q2, rfl⟩
        go_wp2_with (first | (go_at_call 24; (first | with_reducible refine (between_to m 56320 57343 true G2.out _).mono ?_); rintro e w' ⟨rfl, rfl⟩) | (at_builtin; refine wpList_app rfl (.tmp 33) (.tmp 41) 31 rfl elemInt (by decide) w.heap.size _ _ _ rfl rfl (hown.drewN _) rfl (by simp; omega) (hsz _) ?_; intro v' w1 hown' hb1))
        go_roundw
        case rel => exact ⟨k + 4, xs ++ [65536 + 1024 * (n - 55296) + m - 56320], by omega, by go_num, by rw [List.length_append, List.length_singleton]; omega, HF, by rw [List.map_append]; exact hown', Bel.upto (Bel.drewN hb _) hb1 (Nat.le_refl _)⟩
        case measure => simp [intOf]; omega
      · have q3 := drop_two _ _ _ _ _ q2
        have HF := Lib.hid (show M.told16 big s.data.toList = ((xs ++ [65533]) ++ (M.told16 big (s.data.toList.drop (k + 2))).1, (M.told16 big (s.data.toList.drop (k + 2))).2) by
          rw [HT.out, q2, hab, e1]; simp)
        obtain ⟨v0, v1⟩ := M.unit16_le big c d
        obtain ⟨m, hm⟩ : ∃ m, M.unit16 big c d = m := ⟨_, rfl⟩
        rw [hn] at g1 u0 u1
        rw [hm] at g2 v0 v1
        have G1 := Lib.hid (show decide (55296 ≤ n ∧ n ≤ 56319) = true from g1)
        have G2 := Lib.hid (show decide (56320 ≤ m ∧ m ≤ 57343) = false from g2)
        have G3 := Lib.hid (show decide (55296 ≤ n ∧ n ≤ 57343) = true by simp only [M.isHi, decide_eq_true_eq] at g1 ⊢; omega)
        have HM := Lib.hid hm
        have Q2 := Lib.hid q3.1
        have Q3 := Lib.hid q3.2.1
        have h4 : k + 4 ≤ s.size := by simp only [List.length_cons] at htl; omega
        clear hz hab e1 htl hn hm q0 q1 q2 q3 g1 g2
        go_wp2_with fail
        refine (unitAt_to big s k a b n HN.out Q0.out Q1.out hs _ rfl _).mono ?_
        rintro e w1 ⟨rfl, q, rfl⟩
        go_wp2_with (first | (go_at_call 24; (first | with_reducible refine (between_to n 55296 56319 true G1.out _).mono ?_); rintro e w' ⟨rfl, rfl⟩))
        refine (unitAt_to big s (k + 2) c d m HM.out Q2.out Q3.out hs _ (by omega) _).mono ?_
        rintro e w1 ⟨rfl, q2, rfl⟩
        go_wp2_with (first | (go_at_call 24; (first | with_reducible refine (between_to m 56320 57343 false G2.out _).mono ?_ | with_reducible refine (between_to n 55296 57343 true G3.out _).mono ?_); rintro e w' ⟨rfl, rfl⟩) | (at_builtin; refine wpList_app rfl (.tmp 47) (.tmp 49) 31 rfl elemInt (by decide) w.heap.size _ _ _ rfl rfl (hown.drewN _) rfl (by simp; omega) (hsz _) ?_; intro v' w1 hown' hb1))
        go_roundw
        case rel => exact ⟨k + 2, xs ++ [65533], by omega, by go_num, by rw [List.length_append, List.length_singleton]; omega, HF, by rw [List.map_append]; exact hown', Bel.upto (Bel.drewN hb _) hb1 (Nat.le_refl _)⟩
        case measure => simp [intOf]; omega
    · have HF := Lib.hid (show M.told16 big s.data.toList = (xs, s.data.toList.drop k) by
        rw [HT.out]
        match hq : s.data.toList.drop k with
        | [] => rw [M.told16_nil]; simp
        | [a] => rw [M.told16_one]; simp
        | _ :: _ :: _ => rw [hq] at hz; simp only [List.length_cons] at hz; omega)
      have HD := Lib.hid (drop_str s k)
      clear hz
      go_wp2_with fail
      go_quiet (fail)
      go_wp2_with fail
      go_ret2
      rw [HF.out]
      exact ⟨_, by rw [← HD.out, str_eq]; rfl, hown.drewN _, Bel.drewN hb _⟩
end Go.Proofs.YtcgdecpjlggekaaGreatDoor

/-
  The document's answers on signs that are shifted: KanaSign, kanaByte, HasKana.
-/
namespace Go.Proofs.YtcgdecpjlggekaaGreatDoor
open Go.RowKit
set_option maxRecDepth 1000000

theorem kanaSign_any (g : Int) (c : Nat) (hc : c < 256) (h27 : c ≠ 27) (w : World) : Calls Tryz.prog 82 #[.int .i64 g, .int .i64 (c : Int)] w fun e w' => e = .returned (.int .i64 (M.signK g c)) ∧ w = w' := by
  by_cases hA : g = 2
  · subst hA
    by_cases h1 : 33 ≤ c ∧ c ≤ 95
    · have H := Lib.hid (show M.signK 2 c = 65344 + (c : Int) by rw [M.signK, if_pos ⟨rfl, h1.1, h1.2⟩])
      have HB := Lib.hid (show decide ((33 : Int) ≤ (c : Int) ∧ (c : Int) ≤ 95) = true by rw [decide_eq_true_eq]; omega)
      clear h1
      go_enter Tryz.func82, Tryz.ntmps82
      go_wp2_with (first | (go_at_call 24; refine (between_to _ _ _ _ HB.out _).mono ?_; rintro e w' ⟨rfl, rfl⟩))
      go_ret
      rw [H.out]
      exact ⟨rfl, rfl⟩
    · have H := Lib.hid (show M.signK 2 c = 65533 by rw [M.signK, if_neg (by omega), if_pos (.inl rfl)])
      have HB := Lib.hid (show decide ((33 : Int) ≤ (c : Int) ∧ (c : Int) ≤ 95) = false by rw [decide_eq_false_iff_not]; omega)
      clear h1
      go_enter Tryz.func82, Tryz.ntmps82
      go_wp2_with (first | (go_at_call 24; refine (between_to _ _ _ _ HB.out _).mono ?_; rintro e w' ⟨rfl, rfl⟩))
      go_ret
      rw [H.out]
      exact ⟨rfl, rfl⟩
  · have e2 : (g == 2) = false := by simpa using hA
    have HB := Lib.hid (show True from trivial)
    by_cases h1 : 128 ≤ c
    · have H := Lib.hid (show M.signK g c = 65533 by rw [M.signK, if_neg (by omega), if_pos (by omega)])
      have h2 : (127 : Int) < (c : Int) := by omega
      clear hA
      go_enter Tryz.func82, Tryz.ntmps82
      go_wp2
      go_ret
      rw [H.out]
      exact ⟨rfl, rfl⟩
    · by_cases h2 : c = 14
      · subst h2
        have H := Lib.hid (show M.signK g 14 = 65533 by rw [M.signK, if_neg (by omega), if_pos (by omega)])
        clear hA h1
        go_enter Tryz.func82, Tryz.ntmps82
        go_wp2
        go_ret
        rw [H.out]
        exact ⟨rfl, rfl⟩
      · by_cases h3 : c = 15
        · subst h3
          have H := Lib.hid (show M.signK g 15 = 65533 by rw [M.signK, if_neg (by omega), if_pos (by omega)])
          clear hA h1 h2
          go_enter Tryz.func82, Tryz.ntmps82
          go_wp2
          go_ret
          rw [H.out]
          exact ⟨rfl, rfl⟩
        · have e3 : ((c : Int) == 14) = false := by rw [beq_eq_false_iff_ne]; omega
          have e4 : ((c : Int) == 15) = false := by rw [beq_eq_false_iff_ne]; omega
          have hs : M.signK g c = if g = 1 ∧ c = 92 then 165 else if g = 1 ∧ c = 126 then 8254 else (c : Int) := by
            rw [M.signK, if_neg (by omega), if_neg (by omega)]
          by_cases hB : g = 1
          · subst hB
            by_cases h5 : c = 92
            · subst h5
              have H := Lib.hid hs
              clear hs hA h1 h2 h3
              go_enter Tryz.func82, Tryz.ntmps82
              go_wp2
              go_ret
              rw [H.out]
              exact ⟨rfl, rfl⟩
            · by_cases h6 : c = 126
              · subst h6
                have H := Lib.hid hs
                clear hs hA h1 h2 h3
                go_enter Tryz.func82, Tryz.ntmps82
                go_wp2
                go_ret
                rw [H.out]
                exact ⟨rfl, rfl⟩
              · have H := Lib.hid (show M.signK 1 c = (c : Int) by rw [hs, if_neg (by omega), if_neg (by omega)])
                have e5 : ((c : Int) == 92) = false := by rw [beq_eq_false_iff_ne]; omega
                have e6 : ((c : Int) == 126) = false := by rw [beq_eq_false_iff_ne]; omega
                clear hs hA h2 h3 h5 h6
                go_enter Tryz.func82, Tryz.ntmps82
                go_wp2
                go_ret
                rw [H.out]
                exact ⟨rfl, rfl⟩
          · have e5 : (g == 1) = false := by simpa using hB
            have H := Lib.hid (show M.signK g c = (c : Int) by rw [hs, if_neg (by omega), if_neg (by omega)])
            clear hs hA h2 h3 hB
            go_enter Tryz.func82, Tryz.ntmps82
            go_wp2
            go_ret
            rw [H.out]
            exact ⟨rfl, rfl⟩
theorem kanaSign_to (g : Int) (c : Nat) (m : Int) (h : M.signK g c = m) (hc : c < 256) (h27 : c ≠ 27) (w : World) : Calls Tryz.prog 82 #[.int .i64 g, .int .i64 (c : Int)] w fun e w' => e = .returned (.int .i64 m) ∧ w = w' := by
  have := kanaSign_any g c hc h27 w; rw [h] at this; exact this
end Go.Proofs.YtcgdecpjlggekaaGreatDoor

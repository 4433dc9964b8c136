/-
  The law AttrCharset.
-/
import Derived.Test.YtbddfefcgfenfaaDoorLawAttr
import Derived.Test.YtbddfefcgfenfaaDoorLawLabel
import Derived.Test.YtbddfefcgfenfaaDoorPlainAttr2
namespace Go.Proofs.YtbddfefcgfenfaaDoor
open Go.RowKit
set_option maxRecDepth 1000000

theorem plain_int (c : UInt8) : M.plainB c = decide ((97 ≤ c.toNat ∧ c.toNat ≤ 122) ∨ (48 ≤ c.toNat ∧ c.toNat ≤ 57) ∨ c.toNat = 45) := by
  unfold M.plainB
  first
  | rfl
  | (rw [decide_eq_decide]; first | omega | (simp only [← UInt8.toNat_inj]; rfl))
def plainS (l : List UInt8) : Bool := l.all M.plainB && !l.isEmpty
theorem plainly_any (s : ByteArray) (w : World) (hs : s.size ≤ 9223372036854775800) : Calls Tryd.prog 43 #[.string s] w fun e w' => e = .returned (.bool (plainS s.data.toList)) ∧ w = w' := by
  go_enter Tryd.func43, Tryd.ntmps43
  go_wp2_with fail
  go_loop [3] (fun i => ∃ k : Nat, k ≤ s.size ∧ i = .int .i64 k ∧ Hid ((s.data.toList.take k).all M.plainB = true)) (fun i => s.size - (intOf i).toNat)
  case atStart => exact ⟨0, by omega, rfl, Lib.hid rfl⟩
  case round =>
    obtain ⟨k, hk, rfl, HA⟩ := hrel
    by_cases hlt : k < s.size
    · have hb := byte_at s k hlt
      have hcl : s[k].toNat < 256 := s[k].toNat_lt
      have hpi := plain_int s[k]
      by_cases g1 : 97 ≤ s[k].toNat
      · by_cases g2 : s[k].toNat ≤ 122
        · have b122 : decide ((s[k].toNat : Int) ≤ 122) = true := by simp; omega
          have HR := Lib.hid (show (s.data.toList.take (k + 1)).all M.plainB = true by
            rw [List.take_add_one, hb, List.all_append, HA.out]
            have hp : M.plainB s[k] = true := by rw [hpi]; simp; omega
            simp [hp])
          clear hpi hb
          go_wp2_with fail
          go_round
          case rel => exact ⟨k + 1, by omega, by go_num, HR⟩
          case measure => simp [intOf]; omega
        · have b122 : decide ((s[k].toNat : Int) ≤ 122) = false := by simp; omega
          have b57 : decide ((s[k].toNat : Int) ≤ 57) = false := by simp; omega
          have b45 : ((s[k].toNat : Int) == 45) = false := by simp; omega
          have HR := Lib.hid (show plainS s.data.toList = false by
            have hp : M.plainB s[k] = false := by rw [hpi]; simp; omega
            have : s.data.toList.all M.plainB = false := by rw [List.all_eq_false]; exact ⟨s[k], List.mem_of_getElem? hb, by rw [hp]; decide⟩
            rw [plainS, this]; rfl)
          clear hpi hb
          go_wp2_with fail
          go_ret
          exact ⟨by rw [HR.out]; rfl, rfl⟩
      · by_cases g3 : 48 ≤ s[k].toNat
        · by_cases g4 : s[k].toNat ≤ 57
          · have b57 : decide ((s[k].toNat : Int) ≤ 57) = true := by simp; omega
            have HR := Lib.hid (show (s.data.toList.take (k + 1)).all M.plainB = true by
              rw [List.take_add_one, hb, List.all_append, HA.out]
              have hp : M.plainB s[k] = true := by rw [hpi]; simp; omega
              simp [hp])
            clear hpi hb
            go_wp2_with fail
            go_round
            case rel => exact ⟨k + 1, by omega, by go_num, HR⟩
            case measure => simp [intOf]; omega
          · have b57 : decide ((s[k].toNat : Int) ≤ 57) = false := by simp; omega
            have b45 : ((s[k].toNat : Int) == 45) = false := by simp; omega
            have HR := Lib.hid (show plainS s.data.toList = false by
              have hp : M.plainB s[k] = false := by rw [hpi]; simp; omega
              have : s.data.toList.all M.plainB = false := by rw [List.all_eq_false]; exact ⟨s[k], List.mem_of_getElem? hb, by rw [hp]; decide⟩
              rw [plainS, this]; rfl)
            clear hpi hb
            go_wp2_with fail
            go_ret
            exact ⟨by rw [HR.out]; rfl, rfl⟩
        · by_cases g5 : s[k].toNat = 45
          · have g6 : ((s[k].toNat : Int) == 45) = true := by simp; omega
            have HR := Lib.hid (show (s.data.toList.take (k + 1)).all M.plainB = true by
              rw [List.take_add_one, hb, List.all_append, HA.out]
              have hp : M.plainB s[k] = true := by rw [hpi]; simp; omega
              simp [hp])
            clear hpi hb
            go_wp2_with fail
            go_round
            case rel => exact ⟨k + 1, by omega, by go_num, HR⟩
            case measure => simp [intOf]; omega
          · have g6 : ((s[k].toNat : Int) == 45) = false := by simp; omega
            have HR := Lib.hid (show plainS s.data.toList = false by
              have hp : M.plainB s[k] = false := by rw [hpi]; simp; omega
              have : s.data.toList.all M.plainB = false := by rw [List.all_eq_false]; exact ⟨s[k], List.mem_of_getElem? hb, by rw [hp]; decide⟩
              rw [plainS, this]; rfl)
            clear hpi hb
            go_wp2_with fail
            go_ret
            exact ⟨by rw [HR.out]; rfl, rfl⟩
    · obtain rfl : k = s.size := by omega
      have hall := HA.out
      rw [List.take_of_length_le (by rw [← Lib.size_eq]; exact Nat.le_refl _)] at hall
      by_cases h0 : s.size = 0
      · have hnil : s.data.toList = [] := by rw [← List.length_eq_zero_iff, ← Lib.size_eq]; exact h0
        have hse : s = ⟨#[]⟩ := by rw [← str_eq s, hnil]
        subst hse
        have HR := Lib.hid (show plainS [] = false from rfl)
        clear hall
        go_wp2_with fail
        go_ret
        exact ⟨by exact ret_bool rfl, rfl⟩
      · have hne : s.toList.isEmpty = false := by
          rw [Lib.toList_data]
          cases hd : s.data.toList with
          | nil => rw [Lib.size_eq, hd] at h0; exact absurd rfl h0
          | cons c t => rfl
        have HR := Lib.hid (show plainS s.data.toList = true by
          rw [plainS, hall]
          cases hd : s.data.toList with
          | nil => rw [Lib.size_eq, hd] at h0; exact absurd rfl h0
          | cons c t => rfl)
        clear hall
        go_wp2_with fail
        go_ret
        exact ⟨by rw [HR.out]; exact ret_bool rfl, rfl⟩
set_option maxHeartbeats 4000000 in
theorem attrCharsetTrue (a n b : ByteArray) (w : World) (ha0 : a.size ≤ reachBytes) (hn0 : n.size ≤ reachBytes) (hb0 : b.size ≤ reachBytes) (hL : Len w) : Calls Tryd.prog 11 #[.string a, .string n, .string b] w fun e w' => e = .returned (.bool true) ∧ Bel w w' := by
  have ha : a.size ≤ 140737488351232 := ha0
  have hn : n.size ≤ 140737488351232 := hn0
  have hb : b.size ≤ 140737488351232 := hb0
  clear ha0 hn0 hb0
  go_enter Tryd.func11, Tryd.ntmps11
  go_wp2_with (first | (go_at_call 41; refine (attrBegun_any _ hL).mono ?_; rintro e w1 ⟨rfl, b1⟩) | (go_at_call 25; refine (labelBegun_any _).mono ?_; rintro e w2 ⟨rfl, b2⟩))
  have bA := b1.trans b2
  have hL2 := hL.bel bA
  clear b1 b2
  go_loop [7] (fun i => ∃ k : Nat, k ≤ a.size ∧ i = .int .i64 k ∧ Hid (∀ c ∈ a.data.toList.take k, c ≠ 99 ∧ c ≠ 67)) (fun i => a.size - (intOf i).toNat)
  case atStart => exact ⟨0, by omega, rfl, Lib.hid (by simp)⟩
  case round =>
    obtain ⟨k, hk, rfl, HA⟩ := hrel
    by_cases hlt : k < a.size
    · have hby := byte_at a k hlt
      have i99 := byte_eq a[k] 99
      have i67 := byte_eq a[k] 67
      cases h99 : ((a[k].toNat : Int) == 99) with
      | true =>
        clear i99 i67 hby
        go_wp2_with fail
        go_ret
        exact ⟨rfl, bA⟩
      | false =>
        cases h67 : ((a[k].toNat : Int) == 67) with
        | true =>
          clear i99 i67 hby
          go_wp2_with fail
          go_ret
          exact ⟨rfl, bA⟩
        | false =>
          have n99 : a[k] ≠ 99 := fun h => by rw [h] at h99; revert h99; decide
          have n67 : a[k] ≠ 67 := fun h => by rw [h] at h67; revert h67; decide
          have HR := Lib.hid (show ∀ c ∈ a.data.toList.take (k + 1), c ≠ 99 ∧ c ≠ 67 from fun c hc => by
            rw [List.take_add_one, hby, List.mem_append] at hc
            rcases hc with hc | hc
            · exact HA.out c hc
            · simp at hc; subst hc; exact ⟨n99, n67⟩)
          clear i99 i67 hby n99 n67
          go_wp2_with fail
          go_round
          case rel => exact ⟨k + 1, by omega, by go_num, HR⟩
          case measure => simp [intOf]; omega
    · obtain rfl : k = a.size := by omega
      have hna := HA.out
      rw [List.take_of_length_le (by rw [← Lib.size_eq]; exact Nat.le_refl _)] at hna
      have HNA := Lib.hid hna
      clear hna HA hlt
      cases hp : plainS n.data.toList with
      | false =>
        have HP := Lib.hid hp
        clear hp
        go_wp2_with (go_at_call 43; refine (plainly_any n _ (by omega)).mono ?_; rintro e w' ⟨rfl, rfl⟩; rw [HP.out])
        go_ret
        exact ⟨rfl, bA⟩
      | true =>
        have HP := Lib.hid hp
        by_cases hl : 2980 < a.size + n.size + b.size
        · clear hp
          go_wp2_with (go_at_call 43; refine (plainly_any n _ (by omega)).mono ?_; rintro e w' ⟨rfl, rfl⟩; rw [HP.out])
          go_ret
          exact ⟨rfl, bA⟩
        · have hpl : n.data.toList.all M.plainB = true := by
            rw [plainS, Bool.and_eq_true] at hp; exact hp.1
          have hne : n.data.toList ≠ [] := by
            rw [plainS, Bool.and_eq_true] at hp
            intro h
            rw [h] at hp
            exact absurd hp.2 (by decide)
          have sa := Lib.size_eq a
          have sn := Lib.size_eq n
          have sb := Lib.size_eq b
          have F1 := Lib.hid (show M.findE n.data.toList = (M.find n.data.toList, 0) by rw [M.findE, if_neg (by rw [← sn]; omega)])
          have F2 := Lib.hid (show M.charE (a ++ ⟨#[99, 104, 97, 114, 115, 101, 116, 61]⟩ ++ n ++ ⟨#[59]⟩ ++ b : ByteArray).data.toList = (M.find n.data.toList, 0) by
            simp only [data_append]
            rw [M.charE, if_neg (by simp only [List.length_append, ← Lib.size_eq]; simp; omega)]
            have := M.char_plain0 a.data.toList n.data.toList b.data.toList HNA.out hpl hne
            rw [← this]
            simp [M.charset7, List.append_assoc])
          have F3 := Lib.hid (show M.charE (a ++ ⟨#[67, 104, 97, 114, 83, 101, 116, 32, 61, 32, 39]⟩ ++ n ++ ⟨#[39]⟩ ++ b : ByteArray).data.toList = (M.find n.data.toList, 0) by
            simp only [data_append]
            rw [M.charE, if_neg (by simp only [List.length_append, ← Lib.size_eq]; simp; omega)]
            have := M.char_plain1 a.data.toList n.data.toList b.data.toList HNA.out hpl
            rw [← this]
            simp [List.append_assoc])
          have F4 := Lib.hid (show M.charE (a ++ ⟨#[99, 104, 97, 114, 115, 101, 116, 61, 34]⟩ ++ n : ByteArray).data.toList = (0, 0) by
            simp only [data_append]
            rw [M.charE, if_neg (by simp only [List.length_append, ← Lib.size_eq]; simp; omega)]
            have := M.char_plain2 a.data.toList n.data.toList HNA.out hpl
            rw [← this]
            simp [M.charset7, List.append_assoc])
          clear hp hpl hne sa sn sb
          go_wp2_with (go_at_call 43; refine (plainly_any n _ (by omega)).mono ?_; rintro e w' ⟨rfl, rfl⟩; rw [HP.out])
          refine (find_to n _ _ F1.out (by omega) _).mono ?_
          rintro e w3 ⟨rfl, b3⟩
          go_wp2_with fail
          refine (charset_to _ _ _ F2.out _ (hL2.bel b3)).mono ?_
          rintro e w4 ⟨rfl, b4⟩
          go_wp2_with fail
          refine (charset_to _ _ _ F3.out _ (hL2.bel (b3.trans b4))).mono ?_
          rintro e w5 ⟨rfl, b5⟩
          go_wp2_with fail
          refine (charset_to _ _ _ F4.out _ (hL2.bel ((b3.trans b4).trans b5))).mono ?_
          rintro e w6 ⟨rfl, b6⟩
          go_wp2_with fail
          go_ret
          exact ⟨rfl, (((bA.trans b3).trans b4).trans b5).trans b6⟩
end Go.Proofs.YtbddfefcgfenfaaDoor

/-
  The law AttrCharset.
-/
import Derived.Test.YthaoohckgilahaaDoorLawAttr
import Derived.Test.YthaoohckgilahaaDoorLawLabel
import Derived.Test.YthaoohckgilahaaDoorPlainAttr2
namespace Go.Proofs.YthaoohckgilahaaDoor
open Go.RowKit
set_option maxRecDepth 1000000

theorem plain_int (c : UInt8) : M.plainB c = decide ((97 ≤ c.toNat ∧ c.toNat ≤ 122) ∨ (48 ≤ c.toNat ∧ c.toNat ≤ 57) ∨ c.toNat = 45) := by
  unfold M.plainB
  first
  | rfl
  | (rw [decide_eq_decide]; first | omega | (simp only [← UInt8.toNat_inj]; rfl))
def plainS (l : List UInt8) : Bool := l.all M.plainB && !l.isEmpty
theorem plainly_any (s : ByteArray) (w : World) (hs : s.size ≤ 9223372036854775800) : Calls Tryd.prog 23 #[.string s] w fun e w' => e = .returned (.bool (plainS s.data.toList)) ∧ w = w' := by
  go_enter Tryd.func23, Tryd.ntmps23
  go_wp2_with fail
  go_loop [3] (fun i => ∃ k : Nat, k ≤ s.size ∧ i = .int .i64 k ∧ Hid ((s.data.toList.take k).all M.plainB = true)) (fun i => s.size - (intOf i).toNat)
  case atStart => exact ⟨0, by omega, rfl, Lib.hid rfl⟩
  case round =>
    obtain ⟨k, hk, rfl, HA⟩ := hrel
    by_cases hlt : k < s.size
    · have hb := byte_at s k hlt
      have hcl : s[k].toNat < 256 := s[k].toNat_lt
      have hpi := plain_int s[k]
      by_cases g1 : 97 ≤ s[k].toNat
      · by_cases g2 : s[k].toNat ≤ 122
        · have b122 : decide ((s[k].toNat : Int) ≤ 122) = true := by simp; omega
          have HR := Lib.hid (show (s.data.toList.take (k + 1)).all M.plainB = true by
            rw [List.take_add_one, hb, List.all_append, HA.out]
            have hp : M.plainB s[k] = true := by rw [hpi]; simp; omega
            simp [hp])
          clear hpi hb
          go_wp2_with fail
          go_round
          case rel => exact ⟨k + 1, by omega, by go_num, HR⟩
          case measure => simp [intOf]; omega
        · have b122 : decide ((s[k].toNat : Int) ≤ 122) = false := by simp; omega
          have b57 : decide ((s[k].toNat : Int) ≤ 57) = false := by simp; omega
          have b45 : ((s[k].toNat : Int) == 45) = false := by simp; omega
          have HR := Lib.hid (show plainS s.data.toList = false by
            have hp : M.plainB s[k] = false := by rw [hpi]; simp; omega
            have : s.data.toList.all M.plainB = false := by rw [List.all_eq_false]; exact ⟨s[k], List.mem_of_getElem? hb, by rw [hp]; decide⟩
            rw [plainS, this]; rfl)
          clear hpi hb
          go_wp2_with fail
          go_ret
          exact ⟨by rw [HR.out]; rfl, rfl⟩
      · by_cases g3 : 48 ≤ s[k].toNat
        · by_cases g4 : s[k].toNat ≤ 57
          · have b57 : decide ((s[k].toNat : Int) ≤ 57) = true := by simp; omega
            have HR := Lib.hid (show (s.data.toList.take (k + 1)).all M.plainB = true by
              rw [List.take_add_one, hb, List.all_append, HA.out]
              have hp : M.plainB s[k] = true := by rw [hpi]; simp; omega
              simp [hp])
            clear hpi hb
            go_wp2_with fail
            go_round
            case rel => exact ⟨k + 1, by omega, by go_num, HR⟩
            case measure => simp [intOf]; omega
          · have b57 : decide ((s[k].toNat : Int) ≤ 57) = false := by simp; omega
            have b45 : ((s[k].toNat : Int) == 45) = false := by simp; omega
            have HR := Lib.hid (show plainS s.data.toList = false by
              have hp : M.plainB s[k] = false := by rw [hpi]; simp; omega
              have : s.data.toList.all M.plainB = false := by rw [List.all_eq_false]; exact ⟨s[k], List.mem_of_getElem? hb, by rw [hp]; decide⟩
              rw [plainS, this]; rfl)
            clear hpi hb
            go_wp2_with fail
            go_ret
            exact ⟨by rw [HR.out]; rfl, rfl⟩
        · by_cases g5 : s[k].toNat = 45
          · have g6 : ((s[k].toNat : Int) == 45) = true := by simp; omega
            have HR := Lib.hid (show (s.data.toList.take (k + 1)).all M.plainB = true by
              rw [List.take_add_one, hb, List.all_append, HA.out]
              have hp : M.plainB s[k] = true := by rw [hpi]; simp; omega
              simp [hp])
            clear hpi hb
            go_wp2_with fail
            go_round
            case rel => exact ⟨k + 1, by omega, by go_num, HR⟩
            case measure => simp [intOf]; omega
          · have g6 : ((s[k].toNat : Int) == 45) = false := by simp; omega
            have HR := Lib.hid (show plainS s.data.toList = false by
              have hp : M.plainB s[k] = false := by rw [hpi]; simp; omega
              have : s.data.toList.all M.plainB = false := by rw [List.all_eq_false]; exact ⟨s[k], List.mem_of_getElem? hb, by rw [hp]; decide⟩
              rw [plainS, this]; rfl)
            clear hpi hb
            go_wp2_with fail
            go_ret
            exact ⟨by rw [HR.out]; rfl, rfl⟩
    · obtain rfl : k = s.size := by omega
      have hall := HA.out
      rw [List.take_of_length_le (by rw [← Lib.size_eq]; exact Nat.le_refl _)] at hall
      by_cases h0 : s.size = 0
      · have hnil : s.data.toList = [] := by rw [← List.length_eq_zero_iff, ← Lib.size_eq]; exact h0
        have hse : s = ⟨#[]⟩ := by rw [← str_eq s, hnil]
        subst hse
        have HR := Lib.hid (show plainS [] = false from rfl)
        clear hall
        go_wp2_with fail
        go_ret
        exact ⟨by exact ret_bool rfl, rfl⟩
      · have hne : s.toList.isEmpty = false := by
          rw [Lib.toList_data]
          cases hd : s.data.toList with
          | nil => rw [Lib.size_eq, hd] at h0; exact absurd rfl h0
          | cons c t => rfl
        have HR := Lib.hid (show plainS s.data.toList = true by
          rw [plainS, hall]
          cases hd : s.data.toList with
          | nil => rw [Lib.size_eq, hd] at h0; exact absurd rfl h0
          | cons c t => rfl)
        clear hall
        go_wp2_with fail
        go_ret
        exact ⟨by rw [HR.out]; exact ret_bool rfl, rfl⟩
end Go.Proofs.YthaoohckgilahaaDoor

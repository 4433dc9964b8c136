/-
  Texts of the proof, laid together: RUtf8b, RUtf8c, RUtf8d, RStream, Text1, Text3, Kana4, Enc. No condition of its own.
-/
import Derived.Test.YteingkjdemlhgaaGreatDoorG8
import Derived.Test.YteingkjdemlhgaaGreatDoorG1
import Derived.Deep.Cut
import Derived.Deep.CutRange
import Derived.Deep.CutBlock
import Derived.Test.YteingkjdemlhgaaGreatDoorG4
import Derived.Test.YteingkjdemlhgaaGreatDoorG6
import Derived.Test.YteingkjdemlhgaaGreatDoorG7
import Derived.Test.YteingkjdemlhgaaGreatDoorG2
import Derived.BigRegion
import Derived.Test.YteingkjdemlhgaaGreatDoorG3

/-
  The document's answers on UTF-8: isBegun.
-/
namespace Go.Proofs.YteingkjdemlhgaaGreatDoor
open Go.RowKit
set_option maxRecDepth 1000000
theorem int_eq {a b : Int} (h : a = b) : Value.int .i64 a = .int .i64 b := by rw [h]
theorem isBegun_low (s : ByteArray) (c : UInt8) (p : List UInt8) (hs : s.data.toList = c :: p) (h : c.toNat < 128) (w : World) : Calls Tryz.prog 152 #[.string s] w fun e w' => e = .returned (.tuple #[.int .i64 1, .bool (decide (p.length = 0))]) ∧ w = w' := by
  have hsz : s.size = p.length + 1 := by rw [Lib.size_eq, hs]; rfl
  have hpos : 0 < s.size := by omega
  have hc : s[0].toNat = c.toNat := by
    have := byte_at s 0 hpos
    rw [hs] at this
    injection this with this
    rw [← this]
  generalize c.toNat = n at h hc
  have e1 : ((s.size : Int) == 1) = decide (p.length = 0) := by
    rw [Bool.eq_iff_iff, beq_iff_eq, decide_eq_true_eq]; omega
  generalize decide (p.length = 0) = B at e1
  clear hsz hs
  go_enter Tryz.func152, Tryz.ntmps152
  go_wp2_with fail
  go_ret2
  exact ⟨rfl, rfl⟩
theorem isBegun_none (s : ByteArray) (c : UInt8) (p : List UInt8) (hs : s.data.toList = c :: p) (h : 128 ≤ c.toNat) (hm : M.len8 c.toNat = 0) (w : World) : Calls Tryz.prog 152 #[.string s] w fun e w' => e = .returned (.tuple #[.int .i64 0, .bool false]) ∧ w = w' := by
  have hsz : s.size = p.length + 1 := by rw [Lib.size_eq, hs]; rfl
  have hpos : 0 < s.size := by omega
  have hc : s[0].toNat = c.toNat := by
    have := byte_at s 0 hpos
    rw [hs] at this
    injection this with this
    rw [← this]
  have hcl := c.toNat_lt
  have e1 : decide (194 ≤ (c.toNat : Int) ∧ (c.toNat : Int) ≤ 223) = false := by unfold M.len8 at hm; rw [decide_eq_false_iff_not]; (repeat' split at hm) <;> omega
  have e2 : decide (224 ≤ (c.toNat : Int) ∧ (c.toNat : Int) ≤ 239) = false := by unfold M.len8 at hm; rw [decide_eq_false_iff_not]; (repeat' split at hm) <;> omega
  have e3 : decide (240 ≤ (c.toNat : Int) ∧ (c.toNat : Int) ≤ 244) = false := by unfold M.len8 at hm; rw [decide_eq_false_iff_not]; (repeat' split at hm) <;> omega
  clear hm hsz hs
  generalize c.toNat = n at h hc e1 e2 e3 hcl
  go_enter Tryz.func152, Tryz.ntmps152
  go_wp2_with (go_at_call 76; refine (between_any _ _ _ _).mono ?_; rintro e w' ⟨rfl, rfl⟩)
  go_ret2
  exact ⟨rfl, rfl⟩
set_option maxHeartbeats 4000000 in
theorem isBegun_2 (s : ByteArray) (c : UInt8) (p : List UInt8) (hs : s.data.toList = c :: p) (hm : M.len8 c.toNat = 2) (w : World) : Calls Tryz.prog 152 #[.string s] w fun e w' => ∃ a : Int, e = .returned (.tuple #[.int .i64 a, .bool (M.ok8 c p)]) ∧ (M.ok8 c p = true → a = (M.len8 c.toNat : Int)) ∧ Bel w w' := by
  have hge : 194 ≤ c.toNat ∧ c.toNat ≤ 223 := by unfold M.len8 at hm; (repeat' split at hm) <;> omega
  have e1 : decide (194 ≤ (c.toNat : Int) ∧ (c.toNat : Int) ≤ 223) = true := by rw [decide_eq_true_eq]; omega
  have e2 : True := trivial
  have e3 : True := trivial
  have hsz : s.size = p.length + 1 := by rw [Lib.size_eq, hs]; rfl
  have hpos : 0 < s.size := by omega
  have hc : s[0].toNat = c.toNat := by
    have := byte_at s 0 hpos
    rw [hs] at this
    injection this with this
    rw [← this]
  have hat : ∀ j (hj : j + 1 < s.size), p[j]? = some s[j + 1] := fun j hj => by
    have := byte_at s (j + 1) hj
    rw [hs] at this
    simpa using this
  have hcl := c.toNat_lt
  have HM := Lib.hid hm
  have hne : M.len8 c.toNat ≠ 0 := by rw [hm]; decide
  by_cases hlong : M.len8 c.toNat < p.length + 1
  · have H := Lib.hid (M.ok8_long c p hne hlong)
    have hsz2 : 2 < s.size := by rw [hm] at hlong; omega
    clear hm hne hlong hsz hs hat
    generalize c.toNat = n at hc hcl e1 e2 e3 hge
    go_enter Tryz.func152, Tryz.ntmps152
    go_wp2_with (go_at_call 76; refine (between_any _ _ _ _).mono ?_; rintro e w' ⟨rfl, rfl⟩)
    go_ret2
    rw [H.out]
    exact ⟨_, rfl, fun hh => (by cases hh), Bel.refl _⟩
  · have hsz2 : s.size ≤ 2 := by rw [hm] at hlong; omega
    have hsz3 : p.length ≤ 3 := by omega
    have Hs := Lib.hid hsz
    have Hat := Lib.hid hat
    have Hlong := Lib.hid hlong
    clear hm hlong hsz hs hat
    obtain ⟨n, hn⟩ : ∃ n, n = c.toNat := ⟨_, rfl⟩
    have Hn := Lib.hid hn
    rw [← hn] at hc hcl hge
    try rw [← hn] at e1
    try rw [← hn] at e2
    try rw [← hn] at e3
    clear hn
    go_enter Tryz.func152, Tryz.ntmps152
    go_wp2_with (go_at_call 76; refine (between_any _ _ _ _).mono ?_; rintro e w' ⟨rfl, rfl⟩)
    go_loop [6] (fun i => ∃ k : Nat, 1 ≤ k ∧ k ≤ s.size ∧ i = .int .i64 k ∧ Hid ((p.take (k - 1)).all M.cont8 = true)) (fun i => s.size - (intOf i).toNat)
    case atStart => exact ⟨1, by omega, by omega, rfl, Lib.hid rfl⟩
    case round =>
      obtain ⟨k, hk1, hk, rfl, hno⟩ := hrel
      by_cases hlt : k < s.size
      · have hbl := s[k].toNat_lt
        have hj : p[k - 1]? = some s[k] := by
          have := Hat.out (k - 1) (by omega)
          simpa [Nat.sub_add_cancel hk1] using this
        cases hcb : M.cont8 s[k] with
        | false =>
          have H := Lib.hid (M.ok8_cont c p (by rw [List.all_eq_false]; exact ⟨_, List.mem_of_getElem? hj, by rw [hcb]; decide⟩))
          have e4 : decide (128 ≤ (s[k].toNat : Int) ∧ (s[k].toNat : Int) ≤ 191) = false := by
            rw [decide_eq_false_iff_not]; intro hh
            have : M.cont8 s[k] = true := by simp only [M.cont8, decide_eq_true_eq]; omega
            rw [hcb] at this; cases this
          clear hj hcb
          go_wp2_with (go_at_call 76; refine (between_any _ _ _ _).mono ?_; rintro e w' ⟨rfl, rfl⟩)
          go_ret2
          rw [H.out]
          exact ⟨_, rfl, fun hh => (by cases hh), Bel.refl _⟩
        | true =>
          have HN := Lib.hid (show (p.take (k + 1 - 1)).all M.cont8 = true by
            rw [show k + 1 - 1 = (k - 1) + 1 by omega, List.take_add_one, hj, List.all_append, hno.out]; simp [hcb])
          have e4 : decide (128 ≤ (s[k].toNat : Int) ∧ (s[k].toNat : Int) ≤ 191) = true := by
            rw [decide_eq_true_eq]
            simp only [M.cont8, decide_eq_true_eq] at hcb
            omega
          clear hj hcb
          go_wp2_with (go_at_call 76; refine (between_any _ _ _ _).mono ?_; rintro e w' ⟨rfl, rfl⟩)
          go_round
          case rel => exact ⟨k + 1, by omega, by omega, by go_num, HN⟩
          case measure => simp [intOf]; omega
      · obtain rfl : k = s.size := by omega
        have hcont : p.all M.cont8 = true := by
          have := hno.out
          rwa [List.take_of_length_le (by have := Hs.out; omega)] at this
        have Hcont := Lib.hid hcont
        clear hno hcont
        by_cases hone : s.size = 1
        · have H := Lib.hid (show M.ok8 c p = true by
            have : p = [] := List.eq_nil_of_length_eq_zero (by have := Hs.out; omega)
            rw [this]; exact M.ok8_one c hne)
          have e5 : ((s.size : Int) == 1) = true := by rw [hone]; rfl
          have hone1 : s.size ≤ 1 := by omega
          clear hone
          go_wp2_with fail
          go_ret2
          rw [H.out]
          exact ⟨_, rfl, fun _ => (by rw [HM.out]; rfl), Bel.refl _⟩
        · have e5 : ((s.size : Int) == 1) = false := by rw [beq_eq_false_iff_ne]; omega
          have hone1 : 2 ≤ s.size := by omega
          have Hacc0 := Lib.hid (show M.acc8 c (p.take (1 - 1)) = n % 32 by rw [M.acc8, HM.out, Hn.out]; rfl)
          clear hone
          go_wp2_with fail
          go_loop [7, 8] (fun v i => ∃ k : Nat, 1 ≤ k ∧ k ≤ s.size ∧ i = .int .i64 k ∧ v = .int .i64 (M.acc8 c (p.take (k - 1)) : Nat)) (fun _ i => s.size - (intOf i).toNat)
          case atStart => exact ⟨1, by omega, by omega, rfl, int_eq (by rw [Hacc0.out]; simp)⟩
          case round =>
            obtain ⟨k, hk1, hk, rfl, rfl⟩ := hrel
            have hA := M.acc8_lt c (p.take (k - 1)) (by rw [List.length_take]; omega)
            by_cases hlt : k < s.size
            · have hbl := s[k].toNat_lt
              have hj : p[k - 1]? = some s[k] := by
                have := Hat.out (k - 1) (by omega)
                simpa [Nat.sub_add_cancel hk1] using this
              have HN := Lib.hid (show M.acc8 c (p.take (k + 1 - 1)) = 64 * M.acc8 c (p.take (k - 1)) + s[k].toNat % 64 by
                rw [show k + 1 - 1 = (k - 1) + 1 by omega]; exact M.acc8_snoc c p (k - 1) s[k] hj)
              clear hj
              generalize M.acc8 c (p.take (k - 1)) = A at hA HN
              go_wp2_with fail
              go_round
              case rel => exact ⟨k + 1, by omega, by omega, by go_num, int_eq (by rw [HN.out]; simp)⟩
              case measure => simp [intOf]; omega
            · obtain rfl : k = s.size := by omega
              have ht : p.take (s.size - 1) = p := List.take_of_length_le (by have := Hs.out; omega)
              rw [ht] at hA
              rw [ht]
              have HF := Lib.hid (show M.ok8 c p = (decide (128 ≤ M.most8 (M.acc8 c p) (2 - s.size)) && decide (M.least8 (M.acc8 c p) (2 - s.size) ≤ 1114111) && !(decide (55296 ≤ M.least8 (M.acc8 c p) (2 - s.size)) && decide (M.most8 (M.acc8 c p) (2 - s.size) ≤ 57343))) by
                rw [← M.fits8_ok c p (by intro hh; have := Hs.out; rw [hh] at this; simp at this; omega) (by have := Hlong.out; omega) Hcont.out, M.fits8, HM.out, Hs.out]; rfl)
              clear ht
              generalize M.acc8 c p = A at hA HF
              go_wp2_with fail
              go_loop [9, 10, 11] (fun l m i => ∃ k : Nat, k ≤ 2 - s.size ∧ i = .int .i64 ((s.size + k : Nat) : Int) ∧ l = .int .i64 (M.least8 A k : Nat) ∧ m = .int .i64 (M.most8 A k : Nat)) (fun _ _ i => 2 - (intOf i).toNat)
              case atStart => exact ⟨0, by omega, rfl, rfl, rfl⟩
              case round =>
                obtain ⟨k, hk, rfl, rfl, rfl⟩ := hrel
                obtain ⟨m1, m2⟩ := M.most8_le A k hA (by omega)
                have m3 := Lib.hid (show M.least8 A (k + 1) = 64 * M.least8 A k from rfl)
                have m4 := Lib.hid (show M.most8 A (k + 1) = 64 * M.most8 A k + 63 from rfl)
                by_cases hlt2 : s.size + k < 2
                · first
                  | (exfalso; omega)
                  | (generalize M.least8 A k = le at m1 m3
                     generalize M.most8 A k = mo at m1 m2 m4
                     go_wp2_with fail
                     go_round
                     case rel => exact ⟨k + 1, by omega, by go_num, int_eq (by rw [m3.out]; simp), int_eq (by rw [m4.out]; simp)⟩
                     case measure => simp [intOf]; try omega)
                · obtain rfl : k = 2 - s.size := by omega
                  generalize M.least8 A (2 - s.size) = le at m1 m3 HF
                  generalize M.most8 A (2 - s.size) = mo at m1 m2 m4 HF
                  have hsum : s.size + (2 - s.size) = 2 := by omega
                  rw [hsum]
                  clear hsum
                  by_cases g1 : 128 ≤ mo <;> by_cases g2 : le ≤ 1114111 <;> by_cases g3 : 55296 ≤ le <;> by_cases g4 : mo ≤ 57343
                  all_goals
                    first
                    | (exfalso; omega)
                    | (go_wp2_with fail
                       go_ret2
                       refine ⟨_, ret_two rfl ?_, fun _ => (by rw [HM.out]; rfl), (by repeat (first | exact Bel.refl _ | refine Bel.drewN ?_ _ | refine Bel.drew ?_ | refine Bel.alloc ?_ _ | refine Bel.trans ?_ (by assumption) | refine Bel.setCell ?_ (by simp; omega) _))⟩
                       rw [HF.out]
                       simp [g1, g2, g3, g4]
                       try omega)
set_option maxHeartbeats 4000000 in
theorem isBegun_3 (s : ByteArray) (c : UInt8) (p : List UInt8) (hs : s.data.toList = c :: p) (hm : M.len8 c.toNat = 3) (w : World) : Calls Tryz.prog 152 #[.string s] w fun e w' => ∃ a : Int, e = .returned (.tuple #[.int .i64 a, .bool (M.ok8 c p)]) ∧ (M.ok8 c p = true → a = (M.len8 c.toNat : Int)) ∧ Bel w w' := by
  have hge : 224 ≤ c.toNat ∧ c.toNat ≤ 239 := by unfold M.len8 at hm; (repeat' split at hm) <;> omega
  have e1 : decide (194 ≤ (c.toNat : Int) ∧ (c.toNat : Int) ≤ 223) = false := by rw [decide_eq_false_iff_not]; omega
  have e2 : decide (224 ≤ (c.toNat : Int) ∧ (c.toNat : Int) ≤ 239) = true := by rw [decide_eq_true_eq]; omega
  have e3 : True := trivial
  have hsz : s.size = p.length + 1 := by rw [Lib.size_eq, hs]; rfl
  have hpos : 0 < s.size := by omega
  have hc : s[0].toNat = c.toNat := by
    have := byte_at s 0 hpos
    rw [hs] at this
    injection this with this
    rw [← this]
  have hat : ∀ j (hj : j + 1 < s.size), p[j]? = some s[j + 1] := fun j hj => by
    have := byte_at s (j + 1) hj
    rw [hs] at this
    simpa using this
  have hcl := c.toNat_lt
  have HM := Lib.hid hm
  have hne : M.len8 c.toNat ≠ 0 := by rw [hm]; decide
  by_cases hlong : M.len8 c.toNat < p.length + 1
  · have H := Lib.hid (M.ok8_long c p hne hlong)
    have hsz2 : 3 < s.size := by rw [hm] at hlong; omega
    clear hm hne hlong hsz hs hat
    generalize c.toNat = n at hc hcl e1 e2 e3 hge
    go_enter Tryz.func152, Tryz.ntmps152
    go_wp2_with (go_at_call 76; refine (between_any _ _ _ _).mono ?_; rintro e w' ⟨rfl, rfl⟩)
    go_ret2
    rw [H.out]
    exact ⟨_, rfl, fun hh => (by cases hh), Bel.refl _⟩
  · have hsz2 : s.size ≤ 3 := by rw [hm] at hlong; omega
    have hsz3 : p.length ≤ 3 := by omega
    have Hs := Lib.hid hsz
    have Hat := Lib.hid hat
    have Hlong := Lib.hid hlong
    clear hm hlong hsz hs hat
    obtain ⟨n, hn⟩ : ∃ n, n = c.toNat := ⟨_, rfl⟩
    have Hn := Lib.hid hn
    rw [← hn] at hc hcl hge
    try rw [← hn] at e1
    try rw [← hn] at e2
    try rw [← hn] at e3
    clear hn
    go_enter Tryz.func152, Tryz.ntmps152
    go_wp2_with (go_at_call 76; refine (between_any _ _ _ _).mono ?_; rintro e w' ⟨rfl, rfl⟩)
    go_loop [6] (fun i => ∃ k : Nat, 1 ≤ k ∧ k ≤ s.size ∧ i = .int .i64 k ∧ Hid ((p.take (k - 1)).all M.cont8 = true)) (fun i => s.size - (intOf i).toNat)
    case atStart => exact ⟨1, by omega, by omega, rfl, Lib.hid rfl⟩
    case round =>
      obtain ⟨k, hk1, hk, rfl, hno⟩ := hrel
      by_cases hlt : k < s.size
      · have hbl := s[k].toNat_lt
        have hj : p[k - 1]? = some s[k] := by
          have := Hat.out (k - 1) (by omega)
          simpa [Nat.sub_add_cancel hk1] using this
        cases hcb : M.cont8 s[k] with
        | false =>
          have H := Lib.hid (M.ok8_cont c p (by rw [List.all_eq_false]; exact ⟨_, List.mem_of_getElem? hj, by rw [hcb]; decide⟩))
          have e4 : decide (128 ≤ (s[k].toNat : Int) ∧ (s[k].toNat : Int) ≤ 191) = false := by
            rw [decide_eq_false_iff_not]; intro hh
            have : M.cont8 s[k] = true := by simp only [M.cont8, decide_eq_true_eq]; omega
            rw [hcb] at this; cases this
          clear hj hcb
          go_wp2_with (go_at_call 76; refine (between_any _ _ _ _).mono ?_; rintro e w' ⟨rfl, rfl⟩)
          go_ret2
          rw [H.out]
          exact ⟨_, rfl, fun hh => (by cases hh), Bel.refl _⟩
        | true =>
          have HN := Lib.hid (show (p.take (k + 1 - 1)).all M.cont8 = true by
            rw [show k + 1 - 1 = (k - 1) + 1 by omega, List.take_add_one, hj, List.all_append, hno.out]; simp [hcb])
          have e4 : decide (128 ≤ (s[k].toNat : Int) ∧ (s[k].toNat : Int) ≤ 191) = true := by
            rw [decide_eq_true_eq]
            simp only [M.cont8, decide_eq_true_eq] at hcb
            omega
          clear hj hcb
          go_wp2_with (go_at_call 76; refine (between_any _ _ _ _).mono ?_; rintro e w' ⟨rfl, rfl⟩)
          go_round
          case rel => exact ⟨k + 1, by omega, by omega, by go_num, HN⟩
          case measure => simp [intOf]; omega
      · obtain rfl : k = s.size := by omega
        have hcont : p.all M.cont8 = true := by
          have := hno.out
          rwa [List.take_of_length_le (by have := Hs.out; omega)] at this
        have Hcont := Lib.hid hcont
        clear hno hcont
        by_cases hone : s.size = 1
        · have H := Lib.hid (show M.ok8 c p = true by
            have : p = [] := List.eq_nil_of_length_eq_zero (by have := Hs.out; omega)
            rw [this]; exact M.ok8_one c hne)
          have e5 : ((s.size : Int) == 1) = true := by rw [hone]; rfl
          have hone1 : s.size ≤ 1 := by omega
          clear hone
          go_wp2_with fail
          go_ret2
          rw [H.out]
          exact ⟨_, rfl, fun _ => (by rw [HM.out]; rfl), Bel.refl _⟩
        · have e5 : ((s.size : Int) == 1) = false := by rw [beq_eq_false_iff_ne]; omega
          have hone1 : 2 ≤ s.size := by omega
          have Hacc0 := Lib.hid (show M.acc8 c (p.take (1 - 1)) = n % 16 by rw [M.acc8, HM.out, Hn.out]; rfl)
          clear hone
          go_wp2_with fail
          go_loop [7, 8] (fun v i => ∃ k : Nat, 1 ≤ k ∧ k ≤ s.size ∧ i = .int .i64 k ∧ v = .int .i64 (M.acc8 c (p.take (k - 1)) : Nat)) (fun _ i => s.size - (intOf i).toNat)
          case atStart => exact ⟨1, by omega, by omega, rfl, int_eq (by rw [Hacc0.out]; simp)⟩
          case round =>
            obtain ⟨k, hk1, hk, rfl, rfl⟩ := hrel
            have hA := M.acc8_lt c (p.take (k - 1)) (by rw [List.length_take]; omega)
            by_cases hlt : k < s.size
            · have hbl := s[k].toNat_lt
              have hj : p[k - 1]? = some s[k] := by
                have := Hat.out (k - 1) (by omega)
                simpa [Nat.sub_add_cancel hk1] using this
              have HN := Lib.hid (show M.acc8 c (p.take (k + 1 - 1)) = 64 * M.acc8 c (p.take (k - 1)) + s[k].toNat % 64 by
                rw [show k + 1 - 1 = (k - 1) + 1 by omega]; exact M.acc8_snoc c p (k - 1) s[k] hj)
              clear hj
              generalize M.acc8 c (p.take (k - 1)) = A at hA HN
              go_wp2_with fail
              go_round
              case rel => exact ⟨k + 1, by omega, by omega, by go_num, int_eq (by rw [HN.out]; simp)⟩
              case measure => simp [intOf]; omega
            · obtain rfl : k = s.size := by omega
              have ht : p.take (s.size - 1) = p := List.take_of_length_le (by have := Hs.out; omega)
              rw [ht] at hA
              rw [ht]
              have HF := Lib.hid (show M.ok8 c p = (decide (2048 ≤ M.most8 (M.acc8 c p) (3 - s.size)) && decide (M.least8 (M.acc8 c p) (3 - s.size) ≤ 1114111) && !(decide (55296 ≤ M.least8 (M.acc8 c p) (3 - s.size)) && decide (M.most8 (M.acc8 c p) (3 - s.size) ≤ 57343))) by
                rw [← M.fits8_ok c p (by intro hh; have := Hs.out; rw [hh] at this; simp at this; omega) (by have := Hlong.out; omega) Hcont.out, M.fits8, HM.out, Hs.out]; rfl)
              clear ht
              generalize M.acc8 c p = A at hA HF
              go_wp2_with fail
              go_loop [9, 10, 11] (fun l m i => ∃ k : Nat, k ≤ 3 - s.size ∧ i = .int .i64 ((s.size + k : Nat) : Int) ∧ l = .int .i64 (M.least8 A k : Nat) ∧ m = .int .i64 (M.most8 A k : Nat)) (fun _ _ i => 3 - (intOf i).toNat)
              case atStart => exact ⟨0, by omega, rfl, rfl, rfl⟩
              case round =>
                obtain ⟨k, hk, rfl, rfl, rfl⟩ := hrel
                obtain ⟨m1, m2⟩ := M.most8_le A k hA (by omega)
                have m3 := Lib.hid (show M.least8 A (k + 1) = 64 * M.least8 A k from rfl)
                have m4 := Lib.hid (show M.most8 A (k + 1) = 64 * M.most8 A k + 63 from rfl)
                by_cases hlt2 : s.size + k < 3
                · first
                  | (exfalso; omega)
                  | (generalize M.least8 A k = le at m1 m3
                     generalize M.most8 A k = mo at m1 m2 m4
                     go_wp2_with fail
                     go_round
                     case rel => exact ⟨k + 1, by omega, by go_num, int_eq (by rw [m3.out]; simp), int_eq (by rw [m4.out]; simp)⟩
                     case measure => simp [intOf]; try omega)
                · obtain rfl : k = 3 - s.size := by omega
                  generalize M.least8 A (3 - s.size) = le at m1 m3 HF
                  generalize M.most8 A (3 - s.size) = mo at m1 m2 m4 HF
                  have hsum : s.size + (3 - s.size) = 3 := by omega
                  rw [hsum]
                  clear hsum
                  by_cases g1 : 2048 ≤ mo <;> by_cases g2 : le ≤ 1114111 <;> by_cases g3 : 55296 ≤ le <;> by_cases g4 : mo ≤ 57343
                  all_goals
                    first
                    | (exfalso; omega)
                    | (go_wp2_with fail
                       go_ret2
                       refine ⟨_, ret_two rfl ?_, fun _ => (by rw [HM.out]; rfl), (by repeat (first | exact Bel.refl _ | refine Bel.drewN ?_ _ | refine Bel.drew ?_ | refine Bel.alloc ?_ _ | refine Bel.trans ?_ (by assumption) | refine Bel.setCell ?_ (by simp; omega) _))⟩
                       rw [HF.out]
                       simp [g1, g2, g3, g4]
                       try omega)
set_option maxHeartbeats 4000000 in
theorem isBegun_4 (s : ByteArray) (c : UInt8) (p : List UInt8) (hs : s.data.toList = c :: p) (hm : M.len8 c.toNat = 4) (w : World) : Calls Tryz.prog 152 #[.string s] w fun e w' => ∃ a : Int, e = .returned (.tuple #[.int .i64 a, .bool (M.ok8 c p)]) ∧ (M.ok8 c p = true → a = (M.len8 c.toNat : Int)) ∧ Bel w w' := by
  have hge : 240 ≤ c.toNat ∧ c.toNat ≤ 244 := by unfold M.len8 at hm; (repeat' split at hm) <;> omega
  have e1 : decide (194 ≤ (c.toNat : Int) ∧ (c.toNat : Int) ≤ 223) = false := by rw [decide_eq_false_iff_not]; omega
  have e2 : decide (224 ≤ (c.toNat : Int) ∧ (c.toNat : Int) ≤ 239) = false := by rw [decide_eq_false_iff_not]; omega
  have e3 : decide (240 ≤ (c.toNat : Int) ∧ (c.toNat : Int) ≤ 244) = true := by rw [decide_eq_true_eq]; omega
  have hsz : s.size = p.length + 1 := by rw [Lib.size_eq, hs]; rfl
  have hpos : 0 < s.size := by omega
  have hc : s[0].toNat = c.toNat := by
    have := byte_at s 0 hpos
    rw [hs] at this
    injection this with this
    rw [← this]
  have hat : ∀ j (hj : j + 1 < s.size), p[j]? = some s[j + 1] := fun j hj => by
    have := byte_at s (j + 1) hj
    rw [hs] at this
    simpa using this
  have hcl := c.toNat_lt
  have HM := Lib.hid hm
  have hne : M.len8 c.toNat ≠ 0 := by rw [hm]; decide
  by_cases hlong : M.len8 c.toNat < p.length + 1
  · have H := Lib.hid (M.ok8_long c p hne hlong)
    have hsz2 : 4 < s.size := by rw [hm] at hlong; omega
    clear hm hne hlong hsz hs hat
    generalize c.toNat = n at hc hcl e1 e2 e3 hge
    go_enter Tryz.func152, Tryz.ntmps152
    go_wp2_with (go_at_call 76; refine (between_any _ _ _ _).mono ?_; rintro e w' ⟨rfl, rfl⟩)
    go_ret2
    rw [H.out]
    exact ⟨_, rfl, fun hh => (by cases hh), Bel.refl _⟩
  · have hsz2 : s.size ≤ 4 := by rw [hm] at hlong; omega
    have hsz3 : p.length ≤ 3 := by omega
    have Hs := Lib.hid hsz
    have Hat := Lib.hid hat
    have Hlong := Lib.hid hlong
    clear hm hlong hsz hs hat
    obtain ⟨n, hn⟩ : ∃ n, n = c.toNat := ⟨_, rfl⟩
    have Hn := Lib.hid hn
    rw [← hn] at hc hcl hge
    try rw [← hn] at e1
    try rw [← hn] at e2
    try rw [← hn] at e3
    clear hn
    go_enter Tryz.func152, Tryz.ntmps152
    go_wp2_with (go_at_call 76; refine (between_any _ _ _ _).mono ?_; rintro e w' ⟨rfl, rfl⟩)
    go_loop [6] (fun i => ∃ k : Nat, 1 ≤ k ∧ k ≤ s.size ∧ i = .int .i64 k ∧ Hid ((p.take (k - 1)).all M.cont8 = true)) (fun i => s.size - (intOf i).toNat)
    case atStart => exact ⟨1, by omega, by omega, rfl, Lib.hid rfl⟩
    case round =>
      obtain ⟨k, hk1, hk, rfl, hno⟩ := hrel
      by_cases hlt : k < s.size
      · have hbl := s[k].toNat_lt
        have hj : p[k - 1]? = some s[k] := by
          have := Hat.out (k - 1) (by omega)
          simpa [Nat.sub_add_cancel hk1] using this
        cases hcb : M.cont8 s[k] with
        | false =>
          have H := Lib.hid (M.ok8_cont c p (by rw [List.all_eq_false]; exact ⟨_, List.mem_of_getElem? hj, by rw [hcb]; decide⟩))
          have e4 : decide (128 ≤ (s[k].toNat : Int) ∧ (s[k].toNat : Int) ≤ 191) = false := by
            rw [decide_eq_false_iff_not]; intro hh
            have : M.cont8 s[k] = true := by simp only [M.cont8, decide_eq_true_eq]; omega
            rw [hcb] at this; cases this
          clear hj hcb
          go_wp2_with (go_at_call 76; refine (between_any _ _ _ _).mono ?_; rintro e w' ⟨rfl, rfl⟩)
          go_ret2
          rw [H.out]
          exact ⟨_, rfl, fun hh => (by cases hh), Bel.refl _⟩
        | true =>
          have HN := Lib.hid (show (p.take (k + 1 - 1)).all M.cont8 = true by
            rw [show k + 1 - 1 = (k - 1) + 1 by omega, List.take_add_one, hj, List.all_append, hno.out]; simp [hcb])
          have e4 : decide (128 ≤ (s[k].toNat : Int) ∧ (s[k].toNat : Int) ≤ 191) = true := by
            rw [decide_eq_true_eq]
            simp only [M.cont8, decide_eq_true_eq] at hcb
            omega
          clear hj hcb
          go_wp2_with (go_at_call 76; refine (between_any _ _ _ _).mono ?_; rintro e w' ⟨rfl, rfl⟩)
          go_round
          case rel => exact ⟨k + 1, by omega, by omega, by go_num, HN⟩
          case measure => simp [intOf]; omega
      · obtain rfl : k = s.size := by omega
        have hcont : p.all M.cont8 = true := by
          have := hno.out
          rwa [List.take_of_length_le (by have := Hs.out; omega)] at this
        have Hcont := Lib.hid hcont
        clear hno hcont
        by_cases hone : s.size = 1
        · have H := Lib.hid (show M.ok8 c p = true by
            have : p = [] := List.eq_nil_of_length_eq_zero (by have := Hs.out; omega)
            rw [this]; exact M.ok8_one c hne)
          have e5 : ((s.size : Int) == 1) = true := by rw [hone]; rfl
          have hone1 : s.size ≤ 1 := by omega
          clear hone
          go_wp2_with fail
          go_ret2
          rw [H.out]
          exact ⟨_, rfl, fun _ => (by rw [HM.out]; rfl), Bel.refl _⟩
        · have e5 : ((s.size : Int) == 1) = false := by rw [beq_eq_false_iff_ne]; omega
          have hone1 : 2 ≤ s.size := by omega
          have Hacc0 := Lib.hid (show M.acc8 c (p.take (1 - 1)) = n % 8 by rw [M.acc8, HM.out, Hn.out]; rfl)
          clear hone
          go_wp2_with fail
          go_loop [7, 8] (fun v i => ∃ k : Nat, 1 ≤ k ∧ k ≤ s.size ∧ i = .int .i64 k ∧ v = .int .i64 (M.acc8 c (p.take (k - 1)) : Nat)) (fun _ i => s.size - (intOf i).toNat)
          case atStart => exact ⟨1, by omega, by omega, rfl, int_eq (by rw [Hacc0.out]; simp)⟩
          case round =>
            obtain ⟨k, hk1, hk, rfl, rfl⟩ := hrel
            have hA := M.acc8_lt c (p.take (k - 1)) (by rw [List.length_take]; omega)
            by_cases hlt : k < s.size
            · have hbl := s[k].toNat_lt
              have hj : p[k - 1]? = some s[k] := by
                have := Hat.out (k - 1) (by omega)
                simpa [Nat.sub_add_cancel hk1] using this
              have HN := Lib.hid (show M.acc8 c (p.take (k + 1 - 1)) = 64 * M.acc8 c (p.take (k - 1)) + s[k].toNat % 64 by
                rw [show k + 1 - 1 = (k - 1) + 1 by omega]; exact M.acc8_snoc c p (k - 1) s[k] hj)
              clear hj
              generalize M.acc8 c (p.take (k - 1)) = A at hA HN
              go_wp2_with fail
              go_round
              case rel => exact ⟨k + 1, by omega, by omega, by go_num, int_eq (by rw [HN.out]; simp)⟩
              case measure => simp [intOf]; omega
            · obtain rfl : k = s.size := by omega
              have ht : p.take (s.size - 1) = p := List.take_of_length_le (by have := Hs.out; omega)
              rw [ht] at hA
              rw [ht]
              have HF := Lib.hid (show M.ok8 c p = (decide (65536 ≤ M.most8 (M.acc8 c p) (4 - s.size)) && decide (M.least8 (M.acc8 c p) (4 - s.size) ≤ 1114111) && !(decide (55296 ≤ M.least8 (M.acc8 c p) (4 - s.size)) && decide (M.most8 (M.acc8 c p) (4 - s.size) ≤ 57343))) by
                rw [← M.fits8_ok c p (by intro hh; have := Hs.out; rw [hh] at this; simp at this; omega) (by have := Hlong.out; omega) Hcont.out, M.fits8, HM.out, Hs.out]; rfl)
              clear ht
              generalize M.acc8 c p = A at hA HF
              go_wp2_with fail
              go_loop [9, 10, 11] (fun l m i => ∃ k : Nat, k ≤ 4 - s.size ∧ i = .int .i64 ((s.size + k : Nat) : Int) ∧ l = .int .i64 (M.least8 A k : Nat) ∧ m = .int .i64 (M.most8 A k : Nat)) (fun _ _ i => 4 - (intOf i).toNat)
              case atStart => exact ⟨0, by omega, rfl, rfl, rfl⟩
              case round =>
                obtain ⟨k, hk, rfl, rfl, rfl⟩ := hrel
                obtain ⟨m1, m2⟩ := M.most8_le A k hA (by omega)
                have m3 := Lib.hid (show M.least8 A (k + 1) = 64 * M.least8 A k from rfl)
                have m4 := Lib.hid (show M.most8 A (k + 1) = 64 * M.most8 A k + 63 from rfl)
                by_cases hlt2 : s.size + k < 4
                · first
                  | (exfalso; omega)
                  | (generalize M.least8 A k = le at m1 m3
                     generalize M.most8 A k = mo at m1 m2 m4
                     go_wp2_with fail
                     go_round
                     case rel => exact ⟨k + 1, by omega, by go_num, int_eq (by rw [m3.out]; simp), int_eq (by rw [m4.out]; simp)⟩
                     case measure => simp [intOf]; try omega)
                · obtain rfl : k = 4 - s.size := by omega
                  generalize M.least8 A (4 - s.size) = le at m1 m3 HF
                  generalize M.most8 A (4 - s.size) = mo at m1 m2 m4 HF
                  have hsum : s.size + (4 - s.size) = 4 := by omega
                  rw [hsum]
                  clear hsum
                  by_cases g1 : 65536 ≤ mo <;> by_cases g2 : le ≤ 1114111 <;> by_cases g3 : 55296 ≤ le <;> by_cases g4 : mo ≤ 57343
                  all_goals
                    first
                    | (exfalso; omega)
                    | (go_wp2_with fail
                       go_ret2
                       refine ⟨_, ret_two rfl ?_, fun _ => (by rw [HM.out]; rfl), (by repeat (first | exact Bel.refl _ | refine Bel.drewN ?_ _ | refine Bel.drew ?_ | refine Bel.alloc ?_ _ | refine Bel.trans ?_ (by assumption) | refine Bel.setCell ?_ (by simp; omega) _))⟩
                       rw [HF.out]
                       simp [g1, g2, g3, g4]
                       try omega)
/-- Whether a row begins a scalar's; and then how many it has in all. -/
theorem isBegun_any (s : ByteArray) (c : UInt8) (p : List UInt8) (hs : s.data.toList = c :: p) (w : World) : Calls Tryz.prog 152 #[.string s] w fun e w' => ∃ a : Int, e = .returned (.tuple #[.int .i64 a, .bool (M.ok8 c p)]) ∧ (M.ok8 c p = true → a = (M.lead8 c.toNat).1 + 1) ∧ Bel w w' := by
  have hlast : ∀ k : Nat, M.len8 c.toNat = k → k ≠ 0 → ∀ (w : World), (Calls Tryz.prog 152 #[.string s] w fun e w' => ∃ a : Int, e = .returned (.tuple #[.int .i64 a, .bool (M.ok8 c p)]) ∧ (M.ok8 c p = true → a = (M.len8 c.toNat : Int)) ∧ Bel w w') → Calls Tryz.prog 152 #[.string s] w fun e w' => ∃ a : Int, e = .returned (.tuple #[.int .i64 a, .bool (M.ok8 c p)]) ∧ (M.ok8 c p = true → a = (M.lead8 c.toNat).1 + 1) ∧ Bel w w' := fun k hk hk0 w h => by
    refine h.mono ?_
    rintro e w' ⟨a, h1, h2, h3⟩
    exact ⟨a, h1, (fun hh => by rw [h2 hh, M.lead8_len _ (by omega)]; omega), h3⟩
  by_cases hl : c.toNat < 128
  · refine (isBegun_low s c p hs hl w).mono ?_
    rintro e w' ⟨rfl, rfl⟩
    exact ⟨1, by rw [M.ok8_low c p hl], (fun _ => by rw [M.lead8, if_pos hl]; rfl), Bel.refl _⟩
  · have hle := M.len8_le c.toNat
    rcases (show M.len8 c.toNat = 0 ∨ M.len8 c.toNat = 2 ∨ M.len8 c.toNat = 3 ∨ M.len8 c.toNat = 4 by
      unfold M.len8; (repeat' split) <;> simp) with h | h | h | h
    · refine (isBegun_none s c p hs (by omega) h w).mono ?_
      rintro e w' ⟨rfl, rfl⟩
      exact ⟨0, by rw [M.ok8_none c p (by omega) h], (fun hh => by rw [M.ok8_none c p (by omega) h] at hh; cases hh), Bel.refl _⟩
    · exact hlast _ h (by decide) w (isBegun_2 s c p hs h w)
    · exact hlast _ h (by decide) w (isBegun_3 s c p hs h w)
    · exact hlast _ h (by decide) w (isBegun_4 s c p hs h w)
end Go.Proofs.YteingkjdemlhgaaGreatDoor

/-
  The document's answers on UTF-8: valueOf.
-/
namespace Go.Proofs.YteingkjdemlhgaaGreatDoor
open Go.RowKit
set_option maxRecDepth 1000000
theorem valueOf_2 (s : ByteArray) (c : UInt8) (p : List UInt8) (hs : s.data.toList = c :: p) (hm : M.len8 c.toNat = 2) (hp : p.length = 1) (w : World) : Calls Tryz.prog 153 #[.string s] w fun e w' => e = .returned (.int .i64 (M.acc8 c p : Nat)) ∧ Bel w w' := by
  have hsz : s.size = p.length + 1 := by rw [Lib.size_eq, hs]; rfl
  have hpos : 0 < s.size := by omega
  have hc : s[0].toNat = c.toNat := by
    have := byte_at s 0 hpos
    rw [hs] at this
    injection this with this
    rw [← this]
  have hat : ∀ j (hj : j + 1 < s.size), p[j]? = some s[j + 1] := fun j hj => by
    have := byte_at s (j + 1) hj
    rw [hs] at this
    simpa using this
  have hcl := c.toNat_lt
  have hs1 : 2 ≤ s.size := by omega
  have hs2 : s.size ≤ 2 := by omega
  have e5 : ((s.size : Int) == 1) = false := by rw [beq_eq_false_iff_ne]; omega
  have Hacc0 := Lib.hid (show M.acc8 c (p.take (1 - 1)) = c.toNat % 32 by rw [M.acc8, hm]; rfl)
  have esz : (s.size : Int) = 2 := by omega
  have Hs := Lib.hid hsz
  have Hat := Lib.hid hat
  clear hm hsz hs hat
  generalize c.toNat = n at hc hcl Hacc0
  go_enter Tryz.func153, Tryz.ntmps153
  go_wp2_with fail
  go_quiet (fail)
  go_wp2_with fail
  go_loop [3, 4] (fun v i => ∃ k : Nat, 1 ≤ k ∧ k ≤ s.size ∧ i = .int .i64 k ∧ v = .int .i64 (M.acc8 c (p.take (k - 1)) : Nat)) (fun _ i => s.size - (intOf i).toNat)
  case atStart => exact ⟨1, by omega, by omega, rfl, int_eq (by rw [Hacc0.out]; simp)⟩
  case round =>
    obtain ⟨k, hk1, hk, rfl, rfl⟩ := hrel
    have hA := M.acc8_lt c (p.take (k - 1)) (by rw [List.length_take]; omega)
    by_cases hlt : k < s.size
    · have hbl := s[k].toNat_lt
      have hj : p[k - 1]? = some s[k] := by
        have := Hat.out (k - 1) (by omega)
        simpa [Nat.sub_add_cancel hk1] using this
      have HN := Lib.hid (show M.acc8 c (p.take (k + 1 - 1)) = 64 * M.acc8 c (p.take (k - 1)) + s[k].toNat % 64 by
        rw [show k + 1 - 1 = (k - 1) + 1 by omega]; exact M.acc8_snoc c p (k - 1) s[k] hj)
      clear hj
      generalize M.acc8 c (p.take (k - 1)) = A at hA HN
      go_wp2_with fail
      go_round
      case rel => exact ⟨k + 1, by omega, by omega, by go_num, int_eq (by rw [HN.out]; simp)⟩
      case measure => simp [intOf]; omega
    · obtain rfl : k = s.size := by omega
      have ht : p.take (s.size - 1) = p := List.take_of_length_le (by have := Hs.out; omega)
      rw [ht]
      go_wp2_with fail
      go_ret
      exact ⟨rfl, (by repeat (first | exact Bel.refl _ | refine Bel.drewN ?_ _ | refine Bel.drew ?_ | refine Bel.alloc ?_ _ | refine Bel.trans ?_ (by assumption) | refine Bel.setCell ?_ (by simp; omega) _))⟩
theorem valueOf_3 (s : ByteArray) (c : UInt8) (p : List UInt8) (hs : s.data.toList = c :: p) (hm : M.len8 c.toNat = 3) (hp : p.length = 2) (w : World) : Calls Tryz.prog 153 #[.string s] w fun e w' => e = .returned (.int .i64 (M.acc8 c p : Nat)) ∧ Bel w w' := by
  have hsz : s.size = p.length + 1 := by rw [Lib.size_eq, hs]; rfl
  have hpos : 0 < s.size := by omega
  have hc : s[0].toNat = c.toNat := by
    have := byte_at s 0 hpos
    rw [hs] at this
    injection this with this
    rw [← this]
  have hat : ∀ j (hj : j + 1 < s.size), p[j]? = some s[j + 1] := fun j hj => by
    have := byte_at s (j + 1) hj
    rw [hs] at this
    simpa using this
  have hcl := c.toNat_lt
  have hs1 : 3 ≤ s.size := by omega
  have hs2 : s.size ≤ 3 := by omega
  have e5 : ((s.size : Int) == 1) = false := by rw [beq_eq_false_iff_ne]; omega
  have Hacc0 := Lib.hid (show M.acc8 c (p.take (1 - 1)) = c.toNat % 16 by rw [M.acc8, hm]; rfl)
  have esz : (s.size : Int) = 3 := by omega
  have Hs := Lib.hid hsz
  have Hat := Lib.hid hat
  clear hm hsz hs hat
  generalize c.toNat = n at hc hcl Hacc0
  go_enter Tryz.func153, Tryz.ntmps153
  go_wp2_with fail
  go_quiet (fail)
  go_wp2_with fail
  go_loop [3, 4] (fun v i => ∃ k : Nat, 1 ≤ k ∧ k ≤ s.size ∧ i = .int .i64 k ∧ v = .int .i64 (M.acc8 c (p.take (k - 1)) : Nat)) (fun _ i => s.size - (intOf i).toNat)
  case atStart => exact ⟨1, by omega, by omega, rfl, int_eq (by rw [Hacc0.out]; simp)⟩
  case round =>
    obtain ⟨k, hk1, hk, rfl, rfl⟩ := hrel
    have hA := M.acc8_lt c (p.take (k - 1)) (by rw [List.length_take]; omega)
    by_cases hlt : k < s.size
    · have hbl := s[k].toNat_lt
      have hj : p[k - 1]? = some s[k] := by
        have := Hat.out (k - 1) (by omega)
        simpa [Nat.sub_add_cancel hk1] using this
      have HN := Lib.hid (show M.acc8 c (p.take (k + 1 - 1)) = 64 * M.acc8 c (p.take (k - 1)) + s[k].toNat % 64 by
        rw [show k + 1 - 1 = (k - 1) + 1 by omega]; exact M.acc8_snoc c p (k - 1) s[k] hj)
      clear hj
      generalize M.acc8 c (p.take (k - 1)) = A at hA HN
      go_wp2_with fail
      go_round
      case rel => exact ⟨k + 1, by omega, by omega, by go_num, int_eq (by rw [HN.out]; simp)⟩
      case measure => simp [intOf]; omega
    · obtain rfl : k = s.size := by omega
      have ht : p.take (s.size - 1) = p := List.take_of_length_le (by have := Hs.out; omega)
      rw [ht]
      go_wp2_with fail
      go_ret
      exact ⟨rfl, (by repeat (first | exact Bel.refl _ | refine Bel.drewN ?_ _ | refine Bel.drew ?_ | refine Bel.alloc ?_ _ | refine Bel.trans ?_ (by assumption) | refine Bel.setCell ?_ (by simp; omega) _))⟩
theorem valueOf_4 (s : ByteArray) (c : UInt8) (p : List UInt8) (hs : s.data.toList = c :: p) (hm : M.len8 c.toNat = 4) (hp : p.length = 3) (w : World) : Calls Tryz.prog 153 #[.string s] w fun e w' => e = .returned (.int .i64 (M.acc8 c p : Nat)) ∧ Bel w w' := by
  have hsz : s.size = p.length + 1 := by rw [Lib.size_eq, hs]; rfl
  have hpos : 0 < s.size := by omega
  have hc : s[0].toNat = c.toNat := by
    have := byte_at s 0 hpos
    rw [hs] at this
    injection this with this
    rw [← this]
  have hat : ∀ j (hj : j + 1 < s.size), p[j]? = some s[j + 1] := fun j hj => by
    have := byte_at s (j + 1) hj
    rw [hs] at this
    simpa using this
  have hcl := c.toNat_lt
  have hs1 : 4 ≤ s.size := by omega
  have hs2 : s.size ≤ 4 := by omega
  have e5 : ((s.size : Int) == 1) = false := by rw [beq_eq_false_iff_ne]; omega
  have Hacc0 := Lib.hid (show M.acc8 c (p.take (1 - 1)) = c.toNat % 8 by rw [M.acc8, hm]; rfl)
  have esz : (s.size : Int) = 4 := by omega
  have Hs := Lib.hid hsz
  have Hat := Lib.hid hat
  clear hm hsz hs hat
  generalize c.toNat = n at hc hcl Hacc0
  go_enter Tryz.func153, Tryz.ntmps153
  go_wp2_with fail
  go_quiet (fail)
  go_wp2_with fail
  go_loop [3, 4] (fun v i => ∃ k : Nat, 1 ≤ k ∧ k ≤ s.size ∧ i = .int .i64 k ∧ v = .int .i64 (M.acc8 c (p.take (k - 1)) : Nat)) (fun _ i => s.size - (intOf i).toNat)
  case atStart => exact ⟨1, by omega, by omega, rfl, int_eq (by rw [Hacc0.out]; simp)⟩
  case round =>
    obtain ⟨k, hk1, hk, rfl, rfl⟩ := hrel
    have hA := M.acc8_lt c (p.take (k - 1)) (by rw [List.length_take]; omega)
    by_cases hlt : k < s.size
    · have hbl := s[k].toNat_lt
      have hj : p[k - 1]? = some s[k] := by
        have := Hat.out (k - 1) (by omega)
        simpa [Nat.sub_add_cancel hk1] using this
      have HN := Lib.hid (show M.acc8 c (p.take (k + 1 - 1)) = 64 * M.acc8 c (p.take (k - 1)) + s[k].toNat % 64 by
        rw [show k + 1 - 1 = (k - 1) + 1 by omega]; exact M.acc8_snoc c p (k - 1) s[k] hj)
      clear hj
      generalize M.acc8 c (p.take (k - 1)) = A at hA HN
      go_wp2_with fail
      go_round
      case rel => exact ⟨k + 1, by omega, by omega, by go_num, int_eq (by rw [HN.out]; simp)⟩
      case measure => simp [intOf]; omega
    · obtain rfl : k = s.size := by omega
      have ht : p.take (s.size - 1) = p := List.take_of_length_le (by have := Hs.out; omega)
      rw [ht]
      go_wp2_with fail
      go_ret
      exact ⟨rfl, (by repeat (first | exact Bel.refl _ | refine Bel.drewN ?_ _ | refine Bel.drew ?_ | refine Bel.alloc ?_ _ | refine Bel.trans ?_ (by assumption) | refine Bel.setCell ?_ (by simp; omega) _))⟩
theorem valueOf_1 (s : ByteArray) (c : UInt8) (hs : s.data.toList = [c]) (w : World) : Calls Tryz.prog 153 #[.string s] w fun e w' => e = .returned (.int .i64 (c.toNat : Int)) ∧ Bel w w' := by
  have hsz : s.size = 1 := by rw [Lib.size_eq, hs]; rfl
  have hpos : 0 < s.size := by omega
  have hc : s[0].toNat = c.toNat := by
    have := byte_at s 0 hpos
    rw [hs] at this
    injection this with this
    rw [← this]
  have hcl := c.toNat_lt
  have e5 : ((s.size : Int) == 1) = true := by rw [beq_iff_eq]; omega
  clear hsz hs
  generalize c.toNat = n at hc hcl
  go_enter Tryz.func153, Tryz.ntmps153
  go_wp2_with fail
  go_ret
  exact ⟨rfl, (by repeat (first | exact Bel.refl _ | refine Bel.drewN ?_ _ | refine Bel.drew ?_ | refine Bel.alloc ?_ _ | refine Bel.trans ?_ (by assumption) | refine Bel.setCell ?_ (by simp; omega) _))⟩
end Go.Proofs.YteingkjdemlhgaaGreatDoor

/-
  The document's answers on UTF-8: DecodeUtf8.
-/
namespace Go.Proofs.YteingkjdemlhgaaGreatDoor
open Go.RowKit
set_option maxRecDepth 1000000
theorem valueOf_any (s : ByteArray) (c : UInt8) (p : List UInt8) (hs : s.data.toList = c :: p) (m : Nat) (hm : (M.lead8 c.toNat).1 = m) (hp : p.length = m) (w : World) : Calls Tryz.prog 153 #[.string s] w fun e w' => e = .returned (.int .i64 (M.val8 c p)) ∧ Bel w w' := by
  have hc := c.toNat_lt
  rcases M.lead8_val c.toNat hc (by omega) with ⟨h1, h2⟩ | ⟨h1, h2, _⟩
  · have hm0 : m = 0 := by rw [h2] at hm; simp only at hm; omega
    subst hm0
    have hp0 : p = [] := List.eq_nil_of_length_eq_zero hp
    subst hp0
    rw [M.val8, if_pos h1]
    exact valueOf_1 s c hs w
  · rw [M.val8, if_neg (by omega)]
    have hl := M.lead8_len c.toNat h2
    rcases (show M.len8 c.toNat = 2 ∨ M.len8 c.toNat = 3 ∨ M.len8 c.toNat = 4 by
      unfold M.len8 at h2 ⊢; (repeat' split) <;> simp_all) with h | h | h
    · exact valueOf_2 s c p hs h (by omega) w
    · exact valueOf_3 s c p hs h (by omega) w
    · exact valueOf_4 s c p hs h (by omega) w
theorem isBegun_yes (s : ByteArray) (c : UInt8) (p : List UInt8) (hs : s.data.toList = c :: p) (m : Nat) (hm : (M.lead8 c.toNat).1 = m) (h : M.ok8 c p = true) (w : World) : Calls Tryz.prog 152 #[.string s] w fun e w' => e = .returned (.tuple #[.int .i64 ((m : Int) + 1), .bool true]) ∧ Bel w w' := by
  refine (isBegun_any s c p hs w).mono ?_
  rintro e w' ⟨a, rfl, h2, hb⟩
  rw [h] at h2 ⊢
  rw [h2 rfl, hm]
  exact ⟨rfl, hb⟩
theorem isBegun_no (s : ByteArray) (c : UInt8) (p : List UInt8) (hs : s.data.toList = c :: p) (h : M.ok8 c p = false) (w : World) : Calls Tryz.prog 152 #[.string s] w fun e w' => ∃ a : Int, e = .returned (.tuple #[.int .i64 a, .bool false]) ∧ Bel w w' := by
  refine (isBegun_any s c p hs w).mono ?_
  rintro e w' ⟨a, rfl, _, hb⟩
  rw [h]
  exact ⟨a, rfl, hb⟩
theorem take_cons (s : ByteArray) (c : UInt8) (t : List UInt8) (hs : s.data.toList = c :: t) (j : Nat) : (s.extract 0 (j + 1)).data.toList = c :: t.take j := by
  rw [Lib.extract_data, List.drop_zero, Nat.sub_zero, hs, List.take_succ_cons]
theorem decodeUtf8_any (s : ByteArray) (hs : s.size ≤ 68719476735) (w : World) : Calls Tryz.prog 126 #[.string s] w fun e w' => ∃ v, e = .returned (.tuple #[v, .string ⟨(M.told8 s.data.toList).2.toArray⟩]) ∧ Own w.heap.size 3 w' v ((M.told8 s.data.toList).1.map (Value.int .i64)) ∧ Bel w w' := by
  go_enter Tryz.func126, Tryz.ntmps126
  go_wp2_with fail
  go_loopw [0, 4] (fun vs v wr => ∃ (s' : ByteArray) (xs : List Int), vs = .string s' ∧ xs.length + s'.size ≤ s.size ∧ Hid (M.told8 s.data.toList = (xs ++ (M.told8 s'.data.toList).1, (M.told8 s'.data.toList).2)) ∧ Own w.heap.size 3 wr v (xs.map (Value.int .i64)) ∧ Bel w wr) (fun vs _ _ => strLen vs)
  case atStart => exact ⟨s, [], rfl, by simp, Lib.hid (by simp), Own.nil _ _ _, Bel.refl _⟩
  case round =>
    obtain ⟨s', xs, rfl, hle, HT, hown, hb⟩ := hrel
    by_cases he : s'.size = 0
    · have e0 : s'.data.toList = [] := List.eq_nil_of_length_eq_zero (by rw [← Lib.size_eq]; exact he)
      have HF := Lib.hid (show M.told8 s.data.toList = (xs, []) by
        rw [HT.out, e0]; simp [M.told8_nil])
      have he2 : s'.size ≤ 0 := by omega
      clear he e0
      go_wp2_with fail
      go_ret2
      rw [HF.out]
      exact ⟨_, rfl, hown, hb⟩
    · have hpos : 0 < s'.size := by omega
      obtain ⟨c, t, hct⟩ := cons_of_pos s' hpos
      have hlen : s'.size = t.length + 1 := by rw [Lib.size_eq, hct]; rfl
      obtain ⟨wo, hwo⟩ : ∃ wo : World, wo = wr := ⟨_, rfl⟩
      rcases M.round8 c t with ⟨hm, hok, hf⟩ | ⟨m, K, hm, k1, k2, k3, m3, hyes, hend⟩
      · -- it begins none
        have HF := Lib.hid (show M.told8 s.data.toList = ((xs ++ [65533]) ++ (M.told8 (s'.extract 1 s'.size).data.toList).1, (M.told8 (s'.extract 1 s'.size).data.toList).2) by
          rw [HT.out, drop_str, hct, M.told8_ok c t (by rw [hf]), hf]; simp)
        have HC := Lib.hid (show (s'.extract 0 1).data.toList = c :: [] by rw [take_cons s' c t hct 0]; rfl)
        have HS := Lib.hid (drop_size s' 1)
        have HO := Lib.hid hok
        clear he hct hm hok hf hlen hwo
        go_wp2_with fail
        go_loopw [5, 6] (fun vn vd wr' => vn = .int .i64 0 ∧ vd = .bool false ∧ wr' = wr) (fun _ _ _ => 0)
        case atStart => exact ⟨rfl, rfl, rfl⟩
        case round =>
          obtain ⟨rfl, rfl, rfl⟩ := hrel
          go_wp2_with fail
          refine (isBegun_no _ c [] HC.out HO.out _).mono ?_
          rintro e w1 ⟨a, rfl, b1⟩
          have hown1 := hown.bel b1
          have hsz : w.heap.size ≤ w1.heap.size := (hb.trans b1).size
          have hb3 := hb.trans b1
          go_wp2_with (first | (at_builtin; refine wpList_app rfl (.tmp 37) (.tmp 38) 30 rfl elemInt (by decide) w.heap.size _ _ _ rfl rfl hown1 rfl (by simp; omega) (by first | exact Nat.le_refl _ | assumption | (have := hb.size; omega)) ?_; intro v' w1 hown' hb1))
          go_roundw
          case rel => exact ⟨_, xs ++ [65533], rfl, by rw [HS.out, List.length_append, List.length_singleton]; omega, HF, by rw [List.map_append]; exact hown', hb3.upto hb1 (Nat.le_refl _)⟩
          case measure => simp only [strLen, HS.out]; omega
      · have hmi : (m : Int) + 1 = ((m + 1 : Nat) : Int) := by omega
        rcases hend with ⟨rfl, hf⟩ | ⟨hKm, hKt, hno, hf⟩ | ⟨hKm, hKt, hf⟩
        · -- whole
          have HF := Lib.hid (show M.told8 s.data.toList = ((xs ++ [M.val8 c (t.take m)]) ++ (M.told8 (s'.extract (m + 1) s'.size).data.toList).1, (M.told8 (s'.extract (m + 1) s'.size).data.toList).2) by
            rw [HT.out, drop_str, hct, M.told8_ok c t (by rw [hf]), hf]; simp only [Int.toNat_natCast]; simp)
          have HS := Lib.hid (drop_size s' (m + 1))
          have HC := Lib.hid hct
          have HM := Lib.hid hm
          have HY := Lib.hid hyes
          have hlt : m + 1 ≤ s'.size := by omega
          have hml : (t.take m).length = m := by rw [List.length_take]; omega
          have HL := Lib.hid hml
          clear he hct hm hyes hf hlen hwo hmi hml
          go_wp2_with fail
          go_loopw [5, 6] (fun vn vd wr' => ∃ j : Nat, j ≤ m + 1 ∧ vn = .int .i64 j ∧ vd = .bool (decide (j = m + 1)) ∧ Bel wr wr') (fun vn _ _ => m + 1 - (intOf vn).toNat)
          case atStart => exact ⟨0, by omega, rfl, rfl, Bel.refl _⟩
          case round =>
            obtain ⟨j, hj, rfl, rfl, hbj⟩ := hrel
            by_cases hjm : j = m + 1
            · subst hjm
              have e1 : decide (m + 1 = m + 1) = true := by simp
              rw [e1]
              have hcast : ((m + 1 : Nat) : Int) = (m : Int) + 1 := by omega
              rw [hcast]
              have HV := Lib.hid (show (s'.extract 0 (m + 1)).data.toList = c :: t.take m from take_cons s' c t HC.out m)
              have hxl : xs.length < 68719476736 := by omega
              have hb2 := hb.trans hbj
              have hown2 := hown.bel hbj
              clear e1 hcast
              by_cases hq : m + 1 < s'.size
              all_goals
                go_wp2_with fail
                refine (valueOf_any _ c (t.take m) HV.out m HM.out HL.out _).mono ?_
                rintro e w2 ⟨rfl, b2⟩
                have hown3 := hown2.bel b2
                have hb3 := hb2.trans b2
                have hsz : w.heap.size ≤ w2.heap.size := hb3.size
                go_wp2_with (first | (at_builtin; refine wpList_app rfl (.tmp 42) (.tmp 47) 30 rfl elemInt (by decide) w.heap.size _ _ _ rfl rfl hown3 rfl (by simp; omega) (by first | exact Nat.le_refl _ | assumption | (have := hb.size; omega)) ?_; intro v' w1 hown' hb1))
                go_roundw
                case rel => exact ⟨_, xs ++ [M.val8 c (t.take m)], rfl, by rw [HS.out, List.length_append, List.length_singleton]; omega, HF, by rw [List.map_append]; exact hown', hb3.upto hb1 (Nat.le_refl _)⟩
                case measure => simp only [strLen, HS.out]; omega
            · have hjl : j < s'.size := by omega
              have hjlt : j < m + 1 := by omega
              have e1 : decide (j = m + 1) = false := by simpa using hjm
              rw [e1]
              have HV := Lib.hid (show (s'.extract 0 (j + 1)).data.toList = c :: t.take j from take_cons s' c t HC.out j)
              have HO := Lib.hid (HY.out j (by omega))
              have HD := Lib.hid (show decide (j + 1 = m + 1) = ((j : Int) + 1 == (m : Int) + 1) by rw [Bool.eq_iff_iff, decide_eq_true_eq, beq_iff_eq]; omega)
              clear e1 hjm
              go_wp2_with fail
              refine (isBegun_yes _ c (t.take j) HV.out m HM.out HO.out _).mono ?_
              rintro e w2 ⟨rfl, b2⟩
              go_wp2_with fail
              go_roundw
              case rel => exact ⟨j + 1, by omega, by go_num, by rw [HD.out], hbj.trans b2⟩
              case measure => simp [intOf]; omega
        · -- it ends early
          have HF := Lib.hid (show M.told8 s.data.toList = ((xs ++ [65533]) ++ (M.told8 (s'.extract K s'.size).data.toList).1, (M.told8 (s'.extract K s'.size).data.toList).2) by
            rw [HT.out, drop_str, hct, M.told8_ok c t (by rw [hf]), hf]; simp only [Int.toNat_natCast]; simp)
          have HS := Lib.hid (drop_size s' K)
          have HC := Lib.hid hct
          have HM := Lib.hid hm
          have HY := Lib.hid hyes
          have HN := Lib.hid hno
          have hlt : K < s'.size := by omega
          clear he hct hm hyes hf hlen hwo hmi hno
          go_wp2_with fail
          go_loopw [5, 6] (fun vn vd wr' => ∃ j : Nat, j ≤ K ∧ vn = .int .i64 j ∧ vd = .bool false ∧ Bel wr wr') (fun vn _ _ => K - (intOf vn).toNat)
          case atStart => exact ⟨0, by omega, rfl, rfl, Bel.refl _⟩
          case round =>
            obtain ⟨j, hj, rfl, rfl, hbj⟩ := hrel
            have hjl : j < s'.size := by omega
            have HV := Lib.hid (show (s'.extract 0 (j + 1)).data.toList = c :: t.take j from take_cons s' c t HC.out j)
            by_cases hjm : j = K
            · subst hjm
              have e2 : ((j : Int) == (s'.size : Int)) = false := by rw [beq_eq_false_iff_ne]; omega
              have e3 : ((j : Int) == 0) = false := by rw [beq_eq_false_iff_ne]; omega
              have hxl : xs.length < 68719476736 := by omega
              have hb2 := hb.trans hbj
              have hown2 := hown.bel hbj
              go_wp2_with fail
              refine (isBegun_no _ c (t.take j) HV.out HN.out _).mono ?_
              rintro e w2 ⟨a, rfl, b2⟩
              have hown3 := hown2.bel b2
              have hb3 := hb2.trans b2
              have hsz : w.heap.size ≤ w2.heap.size := hb3.size
              go_wp2_with (first | (at_builtin; refine wpList_app rfl (.tmp 37) (.tmp 38) 30 rfl elemInt (by decide) w.heap.size _ _ _ rfl rfl hown3 rfl (by simp; omega) (by first | exact Nat.le_refl _ | assumption | (have := hb.size; omega)) ?_; intro v' w1 hown' hb1))
              go_roundw
              case rel => exact ⟨_, xs ++ [65533], rfl, by rw [HS.out, List.length_append, List.length_singleton]; omega, HF, by rw [List.map_append]; exact hown', hb3.upto hb1 (Nat.le_refl _)⟩
              case measure => simp only [strLen, HS.out]; omega
            · have hjlt : j < K := by omega
              have HO := Lib.hid (HY.out j hjlt)
              have HD := Lib.hid (show ((j : Int) + 1 == (m : Int) + 1) = false by rw [beq_eq_false_iff_ne]; omega)
              clear hjm
              go_wp2_with fail
              refine (isBegun_yes _ c (t.take j) HV.out m HM.out HO.out _).mono ?_
              rintro e w2 ⟨rfl, b2⟩
              go_wp2_with fail
              go_roundw
              case rel => exact ⟨j + 1, by omega, by go_num, by rw [HD.out], hbj.trans b2⟩
              case measure => simp [intOf]; omega
        · -- more must come
          have HF := Lib.hid (show M.told8 s.data.toList = (xs, s'.data.toList) by
            rw [HT.out, hct, M.told8_no c t (by rw [hf])]; simp)
          have HC := Lib.hid hct
          have HM := Lib.hid hm
          have HY := Lib.hid hyes
          have hKl : K ≤ s'.size := by omega
          have hKl2 : s'.size ≤ K := by omega
          clear he hct hm hyes hf hlen hwo hmi hKt
          go_wp2_with fail
          go_loopw [5, 6] (fun vn vd wr' => ∃ j : Nat, j ≤ K ∧ vn = .int .i64 j ∧ vd = .bool false ∧ Bel wr wr') (fun vn _ _ => K - (intOf vn).toNat)
          case atStart => exact ⟨0, by omega, rfl, rfl, Bel.refl _⟩
          case round =>
            obtain ⟨j, hj, rfl, rfl, hbj⟩ := hrel
            by_cases hjm : j = K
            · subst hjm
              have e2 : ((j : Int) == (s'.size : Int)) = true := by rw [beq_iff_eq]; omega
              have hb2 := hb.trans hbj
              have hown2 := hown.bel hbj
              go_wp2_with fail
              go_ret2
              rw [HF.out]
              exact ⟨_, by rw [str_eq]; rfl, hown2, hb2⟩
            · have hjlt : j < K := by omega
              have hjl : j < s'.size := by omega
              have HV := Lib.hid (show (s'.extract 0 (j + 1)).data.toList = c :: t.take j from take_cons s' c t HC.out j)
              have HO := Lib.hid (HY.out j hjlt)
              have HD := Lib.hid (show ((j : Int) + 1 == (m : Int) + 1) = false by rw [beq_eq_false_iff_ne]; omega)
              clear hjm
              go_wp2_with fail
              refine (isBegun_yes _ c (t.take j) HV.out m HM.out HO.out _).mono ?_
              rintro e w2 ⟨rfl, b2⟩
              go_wp2_with fail
              go_roundw
              case rel => exact ⟨j + 1, by omega, by go_num, by rw [HD.out], hbj.trans b2⟩
              case measure => simp [intOf]; omega
end Go.Proofs.YteingkjdemlhgaaGreatDoor

/-
  The document's answers on streams: FeedOf.
-/
namespace Go.Proofs.YteingkjdemlhgaaGreatDoor
open Go.RowKit
set_option maxRecDepth 1000000
theorem rd8_to (s : ByteArray) (xs : List Int) (l : List UInt8) (h : M.told8 s.data.toList = (xs, l)) (hs : s.size ≤ 68719476735) (w : World) : Calls Tryz.prog 126 #[.string s] w fun e w' => ∃ v, e = .returned (.tuple #[v, .string ⟨l.toArray⟩]) ∧ Own w.heap.size 3 w' v (xs.map (Value.int .i64)) ∧ Bel w w' := by
  have := decodeUtf8_any s hs w; rw [h] at this; exact this
theorem rd16_to (big : Bool) (s : ByteArray) (xs : List Int) (l : List UInt8) (h : M.told16 big s.data.toList = (xs, l)) (hs : s.size ≤ 68719476735) (w : World) : Calls Tryz.prog 127 #[.bool big, .string s] w fun e w' => ∃ v, e = .returned (.tuple #[v, .string ⟨l.toArray⟩]) ∧ Own w.heap.size 3 w' v (xs.map (Value.int .i64)) ∧ Bel w w' := by
  have := decodeUtf16_any big s hs w; rw [h] at this; exact this
theorem rdS_to (user : Bool) (s : ByteArray) (xs : List Int) (h : M.decodeS user s.data.toList = xs) (hs : s.size ≤ 68719476735) (w : World) : Calls Tryz.prog 128 #[.bool user, .string s] w fun e w' => ∃ v, e = .returned v ∧ Own w.heap.size 3 w' v (xs.map (Value.int .i64)) ∧ Bel w w' := by
  have := decodeSingle_any user s w hs; rw [h] at this; exact this
theorem rdK_to (g : Int) (f : Bool) (s : ByteArray) (last : Bool) (xs : List Int) (g2 : Int) (f2 : Bool) (l : List UInt8) (h : M.toldK last g f s.data.toList = (xs, g2, f2, l)) (hs : s.size ≤ 68719476735) (w : World) : Calls Tryz.prog 129 #[.agg #[.int .i64 g, .bool f], .string s, .bool last] w fun e w' =>
    ∃ v, e = .returned (.tuple #[v, .agg #[.int .i64 g2, .bool f2], .string ⟨l.toArray⟩]) ∧ Own w.heap.size 3 w' v (xs.map (Value.int .i64)) ∧ Bel w w' := by
  have := decodeKana_any g f s last hs w; rw [h] at this; exact this
/-- What is answered in the end. -/
def endR (n : Int) (xs : List Int) (l : List UInt8) (sg : Int) (fr st : Bool) (last : Bool) : List Int × M.St := if last = true then (if l = [] then xs else xs ++ [65533], ⟨n, [], 0, false, false⟩) else (xs, ⟨n, l, sg, fr, st⟩)
/-- What the switch leaves. -/
def swR (d : M.St) (s : List UInt8) (last : Bool) : List Int × Int × Bool × Bool × List UInt8 :=
    if d.enc = 1 then ((M.told8 s).1, d.signs, d.fresh, d.stopped, (M.told8 s).2)
    else if d.enc = 2 ∨ d.enc = 3 then ((M.told16 (d.enc == 3) s).1, d.signs, d.fresh, d.stopped, (M.told16 (d.enc == 3) s).2)
    else if d.enc = 4 ∨ d.enc = 5 then (M.decodeS (d.enc == 5) s, d.signs, d.fresh, d.stopped, [])
    else if d.enc = 6 then ((M.toldK last d.signs d.fresh s).1, (M.toldK last d.signs d.fresh s).2.1, (M.toldK last d.signs d.fresh s).2.2.1, d.stopped, (M.toldK last d.signs d.fresh s).2.2.2)
    else if d.enc = 7 ∧ s ≠ [] ∧ d.stopped = false then ([65533], d.signs, d.fresh, true, [])
    else ([], d.signs, d.fresh, d.stopped, [])
theorem refM_swR (d : M.St) (b : List UInt8) (last : Bool) : M.refM d b last = endR d.enc (swR d (d.rest ++ b) last).1 (swR d (d.rest ++ b) last).2.2.2.2 (swR d (d.rest ++ b) last).2.1 (swR d (d.rest ++ b) last).2.2.1 (swR d (d.rest ++ b) last).2.2.2.1 last := by
  unfold M.refM endR swR
  cases last <;> rfl
theorem swR_len (d : M.St) (hn : M.isEnc d.enc = true) (s : List UInt8) (last : Bool) : (swR d s last).1.length ≤ s.length + 1 := by
  unfold swR
  rcases M.enc_cases d.enc hn with h1 | h1 | h1 | h1 | h1
  · rw [if_pos h1]; exact Nat.le_succ_of_le (M.told8_le s)
  · rw [if_neg (by omega), if_pos h1]
    have := (M.told16_len (d.enc == 3) _ s (Nat.le_refl _)).1
    simp only
    omega
  · rw [if_neg (by omega), if_neg (by omega), if_pos h1]; simp [M.decodeS]
  · rw [if_neg (by omega), if_neg (by omega), if_neg (by omega), if_pos h1]
    have := (M.toldK_rest last _ s d.signs d.fresh (Nat.le_refl _)).1
    simp only
    omega
  · rw [if_neg (by omega), if_neg (by omega), if_neg (by omega), if_neg (by omega)]
    split <;> simp
set_option maxHeartbeats 8000000 in
theorem feedOf_any (n : Int) (hn : M.isEnc n = true) (r : ByteArray) (sg : Int) (fr st : Bool) (b : ByteArray) (last : Bool) (hsz : r.size + b.size ≤ 68719476730) (xs : List Int) (d2 : M.St) (hd : M.refM ⟨n, r.data.toList, sg, fr, st⟩ b.data.toList last = (xs, d2)) (w : World) :
    Calls Tryz.prog 84 #[.agg #[.int .i64 n, .string r, .int .i64 sg, .bool fr, .bool st], .string b, .bool last] w fun e w' => ∃ v, e = .returned (.tuple #[v, stV d2]) ∧ Own w.heap.size 3 w' v (xs.map (Value.int .i64)) ∧ Bel w w' := by
  have hlen := swR_len ⟨n, r.data.toList, sg, fr, st⟩ hn (r ++ b).data.toList last
  rw [data_append, List.length_append, ← Lib.size_eq, ← Lib.size_eq] at hlen
  rw [refM_swR] at hd
  simp only at hd
  obtain ⟨⟨ys, sg2, fr2, st2, l⟩, hq⟩ : ∃ q, swR ⟨n, r.data.toList, sg, fr, st⟩ (r.data.toList ++ b.data.toList) last = q := ⟨_, rfl⟩
  rw [hq] at hd hlen
  simp only at hd hlen
  have HS := Lib.hid (show (r ++ b).size ≤ 68719476734 by rw [Lib.size_eq, data_append, List.length_append, ← Lib.size_eq, ← Lib.size_eq]; omega)
  have HQ := Lib.hid (show swR ⟨n, r.data.toList, sg, fr, st⟩ (r ++ b).data.toList last = (ys, sg2, fr2, st2, l) by rw [data_append]; exact hq)
  have hyl : ys.length ≤ 68719476732 := by omega
  have hS0 : Box ((w.alloc (.cells #[.int .i64 n, .string r, .int .i64 sg, .bool fr, .bool st] 23)).alloc (.cells #[.int .i64 0, .string ⟨#[]⟩, .int .i64 0, .bool false, .bool false] 23)) w.heap.size 23 [.int .i64 n, .string r, .int .i64 sg, .bool fr, .bool st] := (Box.new w _ _).bel ((Bel.refl _).alloc _)
  have hR0 : Box ((w.alloc (.cells #[.int .i64 n, .string r, .int .i64 sg, .bool fr, .bool st] 23)).alloc (.cells #[.int .i64 0, .string ⟨#[]⟩, .int .i64 0, .bool false, .bool false] 23)) (w.heap.size + 1) 23 [.int .i64 0, .string ⟨#[]⟩, .int .i64 0, .bool false, .bool false] := by have := Box.new (w.alloc (.cells #[.int .i64 n, .string r, .int .i64 sg, .bool fr, .bool st] 23)) 23 [.int .i64 0, .string ⟨#[]⟩, .int .i64 0, .bool false, .bool false]; simpa using this
  have hb0 : Bel w ((w.alloc (.cells #[.int .i64 n, .string r, .int .i64 sg, .bool fr, .bool st] 23)).alloc (.cells #[.int .i64 0, .string ⟨#[]⟩, .int .i64 0, .bool false, .bool false] 23)) := (by repeat (first | exact Bel.refl _ | refine Bel.drewN ?_ _ | refine Bel.drew ?_ | refine Bel.alloc ?_ _ | refine Bel.trans ?_ (by assumption) | refine Bel.setCell ?_ (by simp; omega) _))
  have HD := Lib.hid hd
  clear hq hlen hd
  go_enter Tryz.func84, Tryz.ntmps84
  go_upto_block 0 with fail
  go_cut [9, 10] from 11 to 74 (fun vo vr wx => vr = .string ⟨l.toArray⟩ ∧ Own (w.heap.size + 1 + 1) 3 wx vo (ys.map (Value.int .i64)) ∧ Box wx w.heap.size 23 [.int .i64 n, .string r, .int .i64 sg2, .bool fr2, .bool st2] ∧ Box wx (w.heap.size + 1) 23 [.int .i64 0, .string ⟨#[]⟩, .int .i64 0, .bool false, .bool false] ∧ Bel w wx)
  case first =>
    generalize (w.alloc (.cells #[.int .i64 n, .string r, .int .i64 sg, .bool fr, .bool st] 23)).alloc (.cells #[.int .i64 0, .string ⟨#[]⟩, .int .i64 0, .bool false, .bool false] 23) = P at *
    have hPs : w.heap.size + 1 + 1 ≤ P.heap.size := hR0.lt
    have hlS : w.heap.size < P.heap.size := by omega
    have hlR : w.heap.size + 1 < P.heap.size := by omega
    have sc0 := hS0.cell 0 _ rfl; have sc1 := hS0.cell 1 _ rfl; have sc2 := hS0.cell 2 _ rfl; have sc3 := hS0.cell 3 _ rfl; have sc4 := hS0.cell 4 _ rfl; have sf0 := hS0.frozen 0; have sf1 := hS0.frozen 1; have sf2 := hS0.frozen 2; have sf3 := hS0.frozen 3; have sf4 := hS0.frozen 4
    have hz := HQ.out
    clear HD HQ hyl hsz
    rcases M.enc_cases n hn with rfl | h1 | h1 | rfl | rfl
    · obtain ⟨⟨zs, l2⟩, ht⟩ : ∃ q, M.told8 (r ++ b).data.toList = q := ⟨_, rfl⟩
      rw [swR, if_pos rfl, ht] at hz
      simp only [Prod.mk.injEq] at hz
      obtain ⟨rfl, rfl, rfl, rfl, rfl⟩ := hz
      have HT := Lib.hid ht
      clear ht hn
      go_wp2_with (first | (go_at_call 126; refine (rd8_to _ _ _ HT.out (Nat.le_succ_of_le HS.out) _).mono ?_; rintro e w' ⟨v1, rfl, o1, b1⟩))
      go_meet
      exact ⟨rfl, o1.mono hPs, hS0.bel b1, hR0.bel b1, hb0.trans b1⟩
    · obtain ⟨⟨zs, l2⟩, ht⟩ : ∃ q, M.told16 (n == 3) (r ++ b).data.toList = q := ⟨_, rfl⟩
      rw [swR, if_neg (by simp only; omega), if_pos h1] at hz
      simp only [ht, Prod.mk.injEq] at hz
      obtain ⟨rfl, rfl, rfl, rfl, rfl⟩ := hz
      have HT := Lib.hid ht
      clear ht hn
      rcases h1 with rfl | rfl
      all_goals
        go_wp2_with (first | (go_at_call 127; refine (rd16_to _ _ _ _ HT.out (Nat.le_succ_of_le HS.out) _).mono ?_; rintro e w' ⟨v1, rfl, o1, b1⟩))
        go_meet
        exact ⟨rfl, o1.mono hPs, hS0.bel b1, hR0.bel b1, hb0.trans b1⟩
    · obtain ⟨zs, ht⟩ : ∃ q, M.decodeS (n == 5) (r ++ b).data.toList = q := ⟨_, rfl⟩
      rw [swR, if_neg (by simp only; omega), if_neg (by simp only; omega), if_pos h1] at hz
      simp only [ht, Prod.mk.injEq] at hz
      obtain ⟨rfl, rfl, rfl, rfl, rfl⟩ := hz
      have HT := Lib.hid ht
      clear ht hn
      rcases h1 with rfl | rfl
      all_goals
        go_wp2_with (first | (go_at_call 128; refine (rdS_to _ _ _ HT.out (Nat.le_succ_of_le HS.out) _).mono ?_; rintro e w' ⟨v1, rfl, o1, b1⟩))
        go_meet
        exact ⟨rfl, o1.mono hPs, hS0.bel b1, hR0.bel b1, hb0.trans b1⟩
    · obtain ⟨⟨zs, g2, f2, l2⟩, ht⟩ : ∃ q, M.toldK last sg fr (r ++ b).data.toList = q := ⟨_, rfl⟩
      rw [swR, if_neg (by simp), if_neg (by simp), if_neg (by simp), if_pos rfl] at hz
      simp only [ht, Prod.mk.injEq] at hz
      obtain ⟨rfl, rfl, rfl, rfl, rfl⟩ := hz
      have HT := Lib.hid ht
      clear ht hn
      have hSa := hS0.bel ((Bel.refl P).alloc (.cells #[.int .i64 0, .bool false] 153))
      have hRa := hR0.bel ((Bel.refl P).alloc (.cells #[.int .i64 0, .bool false] 153))
      have hZa := Box.new P 153 [.int .i64 0, .bool false]
      go_wp2_with (first | (go_at_call 129; refine (rdK_to _ _ _ _ _ _ _ _ HT.out (Nat.le_succ_of_le HS.out) _).mono ?_; rintro e w' ⟨v1, rfl, o1, b1⟩; have hS1 := hSa.bel b1; have hR1 := hRa.bel b1; have hZ1 := hZa.bel b1; have z0 := hZ1.cell 0 _ rfl; have z1 := hZ1.cell 1 _ rfl; have zf0 := hZ1.frozen 0; have zf1 := hZ1.frozen 1; have tc0 := hS1.cell 0 _ rfl; have tc1 := hS1.cell 1 _ rfl; have tc2 := hS1.cell 2 _ rfl; have tc3 := hS1.cell 3 _ rfl; have tc4 := hS1.cell 4 _ rfl; have tf0 := hS1.frozen 0; have tf1 := hS1.frozen 1; have tf2 := hS1.frozen 2; have tf3 := hS1.frozen 3; have tf4 := hS1.frozen 4))
      have hS2 := (hS1.far (p := ⟨P.heap.size, 0, none⟩) (Nat.ne_of_lt hlS) (.int .i64 g2)).far (p := ⟨P.heap.size, 1, none⟩) (Nat.ne_of_lt hlS) (.bool f2)
      have hR2 := (hR1.far (p := ⟨P.heap.size, 0, none⟩) (Nat.ne_of_lt hlR) (.int .i64 g2)).far (p := ⟨P.heap.size, 1, none⟩) (Nat.ne_of_lt hlR) (.bool f2)
      have hZ2 := (hZ1.set 0 (.int .i64 g2)).set 1 (.bool f2)
      have hO2 : Own (w.heap.size + 1 + 1) 3 _ v1 (zs.map (Value.int .i64)) := ((o1.setCell (p := ⟨P.heap.size, 0, none⟩) (by simp) (.int .i64 g2)).setCell (p := ⟨P.heap.size, 1, none⟩) (by simp) (.bool f2)).mono (by simp; omega)
      have hB2 := (((hb0.alloc (.cells #[.int .i64 0, .bool false] 153)).trans b1).setCell (p := ⟨P.heap.size, 0, none⟩) (Nat.le_of_lt hlS) (.int .i64 g2)).setCell (p := ⟨P.heap.size, 1, none⟩) (Nat.le_of_lt hlS) (.bool f2)
      clear z0 z1 zf0 zf1 tc0 tc1 tc2 tc3 tc4 tf0 tf1 tf2 tf3 tf4 sc0 sc1 sc2 sc3 sc4 sf0 sf1 sf2 sf3 sf4 hS1 hR1 hZ1 hSa hRa hZa o1 b1 hS0 hR0 hb0
      generalize (w'.setCell ⟨P.heap.size, 0, none⟩ (.int .i64 g2)).setCell ⟨P.heap.size, 1, none⟩ (.bool f2) = W at *
      generalize P.heap.size = q at *
      have z0 := hZ2.cell 0 _ rfl
      have z1 := hZ2.cell 1 _ rfl
      have tc0 := hS2.cell 0 _ rfl; have tc1 := hS2.cell 1 _ rfl; have tc2 := hS2.cell 2 _ rfl; have tc3 := hS2.cell 3 _ rfl; have tc4 := hS2.cell 4 _ rfl; have tf0 := hS2.frozen 0; have tf1 := hS2.frozen 1; have tf2 := hS2.frozen 2; have tf3 := hS2.frozen 3; have tf4 := hS2.frozen 4
      go_region
      all_goals
        go_wp2_with fail
        go_meet
        first
          | exact ⟨rfl, (hO2.setCell (p := ⟨w.heap.size, 2, none⟩) (by show w.heap.size < w.heap.size + 1 + 1; omega) _).setCell (p := ⟨w.heap.size, 3, none⟩) (by show w.heap.size < w.heap.size + 1 + 1; omega) _, (hS2.set 2 _).set 3 _, (hR2.far (p := ⟨w.heap.size, 2, none⟩) (by simp) _).far (p := ⟨w.heap.size, 3, none⟩) (by simp) _, ((hB2.setCell (p := ⟨w.heap.size, 2, none⟩) (Nat.le_refl _) _).setCell (p := ⟨w.heap.size, 3, none⟩) (Nat.le_refl _) _).drew⟩
          | exact ⟨rfl, (hO2.setCell (p := ⟨w.heap.size, 3, none⟩) (by show w.heap.size < w.heap.size + 1 + 1; omega) _).setCell (p := ⟨w.heap.size, 2, none⟩) (by show w.heap.size < w.heap.size + 1 + 1; omega) _, (hS2.set 3 _).set 2 _, (hR2.far (p := ⟨w.heap.size, 3, none⟩) (by simp) _).far (p := ⟨w.heap.size, 2, none⟩) (by simp) _, ((hB2.setCell (p := ⟨w.heap.size, 3, none⟩) (Nat.le_refl _) _).setCell (p := ⟨w.heap.size, 2, none⟩) (Nat.le_refl _) _).drew⟩
          | trace_state
    · have hz2 : swR ⟨7, r.data.toList, sg, fr, st⟩ (r ++ b).data.toList last = if (r ++ b).data.toList ≠ [] ∧ st = false then ([65533], sg, fr, true, []) else ([], sg, fr, st, []) := by
        rw [swR, if_neg (by simp), if_neg (by simp), if_neg (by simp), if_neg (by simp)]
        simp
      rw [hz2] at hz
      by_cases he : (r ++ b).data.toList = []
      · rw [if_neg (fun h9 => h9.1 he)] at hz
        simp only [Prod.mk.injEq] at hz
        obtain ⟨rfl, rfl, rfl, rfl, rfl⟩ := hz
        have e1 : (!(r ++ b).toList.isEmpty) = false := by rw [Lib.toList_data, he]; rfl
        have e2 : (r ++ b).toList.isEmpty = true := by rw [Lib.toList_data, he]; rfl
        clear hn hz2 he
        go_wp2_with fail
        go_meet
        exact ⟨rfl, Own.nil _ _ _, hS0, hR0, hb0⟩
      · have e1 : (!(r ++ b).toList.isEmpty) = true := by rw [Lib.toList_data]; simpa using he
        have e2 : (r ++ b).toList.isEmpty = false := by rw [Lib.toList_data]; simpa using he
        cases st
        · rw [if_pos ⟨he, rfl⟩] at hz
          simp only [Prod.mk.injEq] at hz
          obtain ⟨rfl, rfl, rfl, rfl, rfl⟩ := hz
          clear hn hz2 he
          go_wp2_with fail
          go_meet
          have hO := Own.made (B := w.heap.size + 1 + 1) (e := 3) (P.setCell ⟨w.heap.size, 4, none⟩ (.bool true)) [.int .i64 65533] (by simpa using hPs) (by simp [maxLen])
          simp only [World.size_setCell, List.length_singleton] at hO
          exact ⟨rfl, hO, (hS0.set 4 _).bel ((Bel.refl _).alloc _), (hR0.far (p := ⟨w.heap.size, 4, none⟩) (by simp) _).bel ((Bel.refl _).alloc _), (hb0.setCell (p := ⟨w.heap.size, 4, none⟩) (Nat.le_refl _) _).alloc _⟩
        · rw [if_neg (by simp)] at hz
          simp only [Prod.mk.injEq] at hz
          obtain ⟨rfl, rfl, rfl, rfl, rfl⟩ := hz
          clear hn hz2 he
          go_wp2_with fail
          go_meet
          exact ⟨rfl, Own.nil _ _ _, hS0, hR0, hb0⟩
  case rest =>
    obtain ⟨rfl, hO, hS, hR, hB⟩ := hcut
    have hs1 : w.heap.size + 1 + 1 ≤ wc.heap.size := hR.lt
    have sc0 := hS.cell 0 _ rfl; have sc1 := hS.cell 1 _ rfl; have sc2 := hS.cell 2 _ rfl; have sc3 := hS.cell 3 _ rfl; have sc4 := hS.cell 4 _ rfl; have sf0 := hS.frozen 0; have sf1 := hS.frozen 1; have sf2 := hS.frozen 2; have sf3 := hS.frozen 3; have sf4 := hS.frozen 4
    have rc0 := hR.cell 0 _ rfl; have rc1 := hR.cell 1 _ rfl; have rc2 := hR.cell 2 _ rfl; have rc3 := hR.cell 3 _ rfl; have rc4 := hR.cell 4 _ rfl; have rf0 := hR.frozen 0; have rf1 := hR.frozen 1; have rf2 := hR.frozen 2; have rf3 := hR.frozen 3; have rf4 := hR.frozen 4
    have hd := HD.out
    clear HQ HD hS0 hR0 hb0 HS hsz hn
    cases last
    · rw [endR, if_neg (by decide)] at hd
      injection hd with hd1 hd2
      subst hd1
      subst hd2
      go_wp2_with fail
      go_region
      go_wp2_with fail
      have hF := Box.drew ((((((hR.far (p := ⟨w.heap.size, 1, none⟩) (by simp) (.string ⟨l.toArray⟩)).set 0 (.int .i64 n)).set 1 (.string ⟨l.toArray⟩)).set 2 (.int .i64 sg2)).set 3 (.bool fr2)).set 4 (.bool st2))
      have y0 := hF.cell 0 _ rfl
      have y1 := hF.cell 1 _ rfl
      have y2 := hF.cell 2 _ rfl
      have y3 := hF.cell 3 _ rfl
      have y4 := hF.cell 4 _ rfl
      refine bodyPost_ret (v := .tuple #[u9, .agg #[.int .i64 n, .string ⟨l.toArray⟩, .int .i64 sg2, .bool fr2, .bool st2]]) (by simp [results, Tryz.results84, go_sem, y0, y1, y2, y3, y4]) rfl ?_
      exact ⟨_, rfl, (((((((hO.setCell (p := ⟨w.heap.size, 1, none⟩) (by show w.heap.size < w.heap.size + 1 + 1; omega) _).setCell (p := ⟨w.heap.size + 1, 0, none⟩) (Nat.lt_succ_self _) _).setCell (p := ⟨w.heap.size + 1, 1, none⟩) (Nat.lt_succ_self _) _).setCell (p := ⟨w.heap.size + 1, 2, none⟩) (Nat.lt_succ_self _) _).setCell (p := ⟨w.heap.size + 1, 3, none⟩) (Nat.lt_succ_self _) _).setCell (p := ⟨w.heap.size + 1, 4, none⟩) (Nat.lt_succ_self _) _)).drew.mono (by omega), (((((((hB.setCell (p := ⟨w.heap.size, 1, none⟩) (Nat.le_refl _) _).setCell (p := ⟨w.heap.size + 1, 0, none⟩) (Nat.le_succ _) _).setCell (p := ⟨w.heap.size + 1, 1, none⟩) (Nat.le_succ _) _).setCell (p := ⟨w.heap.size + 1, 2, none⟩) (Nat.le_succ _) _).setCell (p := ⟨w.heap.size + 1, 3, none⟩) (Nat.le_succ _) _).setCell (p := ⟨w.heap.size + 1, 4, none⟩) (Nat.le_succ _) _)).drew⟩
    · rw [endR, if_pos rfl] at hd
      by_cases hl : l = []
      · subst hl
        rw [if_pos rfl] at hd
        injection hd with hd1 hd2
        subst hd1
        subst hd2
        go_wp2_with fail
        go_region
        go_wp2_with fail
        have hF := Box.drew (((((((((((hR.far (p := ⟨w.heap.size, 1, none⟩) (by simp) (.string ⟨#[]⟩)).far (p := ⟨w.heap.size, 0, none⟩) (by simp) (.int .i64 n)).far (p := ⟨w.heap.size, 1, none⟩) (by simp) (.string ⟨#[]⟩)).far (p := ⟨w.heap.size, 2, none⟩) (by simp) (.int .i64 0)).far (p := ⟨w.heap.size, 3, none⟩) (by simp) (.bool false)).far (p := ⟨w.heap.size, 4, none⟩) (by simp) (.bool false)).set 0 (.int .i64 n)).set 1 (.string ⟨#[]⟩)).set 2 (.int .i64 0)).set 3 (.bool false)).set 4 (.bool false))
        have y0 := hF.cell 0 _ rfl
        have y1 := hF.cell 1 _ rfl
        have y2 := hF.cell 2 _ rfl
        have y3 := hF.cell 3 _ rfl
        have y4 := hF.cell 4 _ rfl
        refine bodyPost_ret (v := .tuple #[u9, .agg #[.int .i64 n, .string ⟨#[]⟩, .int .i64 0, .bool false, .bool false]]) (by simp [results, Tryz.results84, go_sem, y0, y1, y2, y3, y4]) rfl ?_
        exact ⟨_, rfl, ((((((((((((hO.setCell (p := ⟨w.heap.size, 1, none⟩) (by show w.heap.size < w.heap.size + 1 + 1; omega) _).setCell (p := ⟨w.heap.size, 0, none⟩) (by show w.heap.size < w.heap.size + 1 + 1; omega) _).setCell (p := ⟨w.heap.size, 1, none⟩) (by show w.heap.size < w.heap.size + 1 + 1; omega) _).setCell (p := ⟨w.heap.size, 2, none⟩) (by show w.heap.size < w.heap.size + 1 + 1; omega) _).setCell (p := ⟨w.heap.size, 3, none⟩) (by show w.heap.size < w.heap.size + 1 + 1; omega) _).setCell (p := ⟨w.heap.size, 4, none⟩) (by show w.heap.size < w.heap.size + 1 + 1; omega) _).setCell (p := ⟨w.heap.size + 1, 0, none⟩) (Nat.lt_succ_self _) _).setCell (p := ⟨w.heap.size + 1, 1, none⟩) (Nat.lt_succ_self _) _).setCell (p := ⟨w.heap.size + 1, 2, none⟩) (Nat.lt_succ_self _) _).setCell (p := ⟨w.heap.size + 1, 3, none⟩) (Nat.lt_succ_self _) _).setCell (p := ⟨w.heap.size + 1, 4, none⟩) (Nat.lt_succ_self _) _)).drew.mono (by omega), ((((((((((((hB.setCell (p := ⟨w.heap.size, 1, none⟩) (Nat.le_refl _) _).setCell (p := ⟨w.heap.size, 0, none⟩) (Nat.le_refl _) _).setCell (p := ⟨w.heap.size, 1, none⟩) (Nat.le_refl _) _).setCell (p := ⟨w.heap.size, 2, none⟩) (Nat.le_refl _) _).setCell (p := ⟨w.heap.size, 3, none⟩) (Nat.le_refl _) _).setCell (p := ⟨w.heap.size, 4, none⟩) (Nat.le_refl _) _).setCell (p := ⟨w.heap.size + 1, 0, none⟩) (Nat.le_succ _) _).setCell (p := ⟨w.heap.size + 1, 1, none⟩) (Nat.le_succ _) _).setCell (p := ⟨w.heap.size + 1, 2, none⟩) (Nat.le_succ _) _).setCell (p := ⟨w.heap.size + 1, 3, none⟩) (Nat.le_succ _) _).setCell (p := ⟨w.heap.size + 1, 4, none⟩) (Nat.le_succ _) _)).drew⟩
      · rw [if_neg hl] at hd
        injection hd with hd1 hd2
        subst hd1
        subst hd2
        have e1 : (!l.isEmpty) = true := by simpa using hl
        have e2 : l.isEmpty = false := by simpa using hl
        have o1b := hO.setCell (p := ⟨w.heap.size, 1, none⟩) (by show w.heap.size < w.heap.size + 1 + 1; omega) (.string ⟨l.toArray⟩)
        clear hl
        go_wp2_with (first | (at_builtin; refine wpList_app rfl (.tmp 80) (.tmp 81) 30 rfl elemInt (by decide) (w.heap.size + 1 + 1) _ _ _ rfl (by rw [World.size_setCell]; rfl) o1b rfl (by simp; omega) (by simp; omega) ?_; intro v3 w3 o3 b3; have hS3 := Box.upto (B := w.heap.size + 1 + 1) (hS.set 1 (.string ⟨l.toArray⟩)) b3 (by omega); have hR3 := Box.upto (B := w.heap.size + 1 + 1) (hR.far (p := ⟨w.heap.size, 1, none⟩) (by simp) (.string ⟨l.toArray⟩)) b3 (by omega); have tc0 := hS3.cell 0 _ rfl; have tc1 := hS3.cell 1 _ rfl; have tc2 := hS3.cell 2 _ rfl; have tc3 := hS3.cell 3 _ rfl; have tc4 := hS3.cell 4 _ rfl; have tf0 := hS3.frozen 0; have tf1 := hS3.frozen 1; have tf2 := hS3.frozen 2; have tf3 := hS3.frozen 3; have tf4 := hS3.frozen 4; have uc0 := hR3.cell 0 _ rfl; have uc1 := hR3.cell 1 _ rfl; have uc2 := hR3.cell 2 _ rfl; have uc3 := hR3.cell 3 _ rfl; have uc4 := hR3.cell 4 _ rfl; have uf0 := hR3.frozen 0; have uf1 := hR3.frozen 1; have uf2 := hR3.frozen 2; have uf3 := hR3.frozen 3; have uf4 := hR3.frozen 4))
        go_region
        go_wp2_with fail
        have o3b : Own (w.heap.size + 1 + 1) 3 w3 v3 ((ys ++ [65533]).map (Value.int .i64)) := by rw [List.map_append]; exact o3
        have hB3 : Bel w w3 := Bel.upto (hB.setCell (p := ⟨w.heap.size, 1, none⟩) (Nat.le_refl _) _) b3 (by omega)
        have hF := Box.drew ((((((((((hR3.far (p := ⟨w.heap.size, 0, none⟩) (by simp) (.int .i64 n)).far (p := ⟨w.heap.size, 1, none⟩) (by simp) (.string ⟨#[]⟩)).far (p := ⟨w.heap.size, 2, none⟩) (by simp) (.int .i64 0)).far (p := ⟨w.heap.size, 3, none⟩) (by simp) (.bool false)).far (p := ⟨w.heap.size, 4, none⟩) (by simp) (.bool false)).set 0 (.int .i64 n)).set 1 (.string ⟨#[]⟩)).set 2 (.int .i64 0)).set 3 (.bool false)).set 4 (.bool false))
        have y0 := hF.cell 0 _ rfl
        have y1 := hF.cell 1 _ rfl
        have y2 := hF.cell 2 _ rfl
        have y3 := hF.cell 3 _ rfl
        have y4 := hF.cell 4 _ rfl
        refine bodyPost_ret (v := .tuple #[v3, .agg #[.int .i64 n, .string ⟨#[]⟩, .int .i64 0, .bool false, .bool false]]) (by simp [results, Tryz.results84, go_sem, y0, y1, y2, y3, y4]) rfl ?_
        exact ⟨_, rfl, (((((((((((o3b.setCell (p := ⟨w.heap.size, 0, none⟩) (by show w.heap.size < w.heap.size + 1 + 1; omega) _).setCell (p := ⟨w.heap.size, 1, none⟩) (by show w.heap.size < w.heap.size + 1 + 1; omega) _).setCell (p := ⟨w.heap.size, 2, none⟩) (by show w.heap.size < w.heap.size + 1 + 1; omega) _).setCell (p := ⟨w.heap.size, 3, none⟩) (by show w.heap.size < w.heap.size + 1 + 1; omega) _).setCell (p := ⟨w.heap.size, 4, none⟩) (by show w.heap.size < w.heap.size + 1 + 1; omega) _).setCell (p := ⟨w.heap.size + 1, 0, none⟩) (Nat.lt_succ_self _) _).setCell (p := ⟨w.heap.size + 1, 1, none⟩) (Nat.lt_succ_self _) _).setCell (p := ⟨w.heap.size + 1, 2, none⟩) (Nat.lt_succ_self _) _).setCell (p := ⟨w.heap.size + 1, 3, none⟩) (Nat.lt_succ_self _) _).setCell (p := ⟨w.heap.size + 1, 4, none⟩) (Nat.lt_succ_self _) _)).drew.mono (by omega), (((((((((((hB3.setCell (p := ⟨w.heap.size, 0, none⟩) (Nat.le_refl _) _).setCell (p := ⟨w.heap.size, 1, none⟩) (Nat.le_refl _) _).setCell (p := ⟨w.heap.size, 2, none⟩) (Nat.le_refl _) _).setCell (p := ⟨w.heap.size, 3, none⟩) (Nat.le_refl _) _).setCell (p := ⟨w.heap.size, 4, none⟩) (Nat.le_refl _) _).setCell (p := ⟨w.heap.size + 1, 0, none⟩) (Nat.le_succ _) _).setCell (p := ⟨w.heap.size + 1, 1, none⟩) (Nat.le_succ _) _).setCell (p := ⟨w.heap.size + 1, 2, none⟩) (Nat.le_succ _) _).setCell (p := ⟨w.heap.size + 1, 3, none⟩) (Nat.le_succ _) _).setCell (p := ⟨w.heap.size + 1, 4, none⟩) (Nat.le_succ _) _)).drew⟩
theorem decodeOf_any (n : Int) (hn : M.isEnc n = true) (s : ByteArray) (hs : s.size ≤ 3000) (w : World) : Calls Tryz.prog 53 #[.int .i64 n, .string s] w fun e w' => ∃ v, e = .returned v ∧ Own w.heap.size 3 w' v ((M.allE n s.data.toList).map (Value.int .i64)) ∧ Bel w w' := by
  have hd : M.refM ⟨n, (⟨#[]⟩ : ByteArray).data.toList, 0, false, false⟩ s.data.toList true = (M.allE n s.data.toList, ⟨n, [], 0, false, false⟩) := by
    have h1 := M.ref_raw (M.opn n) (M.right_opn n hn) s.data.toList true
    have h2 := M.raw_all n hn s.data.toList
    have h3 := M.raw_last (M.opn n) s.data.toList
    rw [show M.refM ⟨n, (⟨#[]⟩ : ByteArray).data.toList, 0, false, false⟩ s.data.toList true = M.rawM (M.opn n) s.data.toList true from h1]
    exact Prod.ext h2 h3
  have HD := Lib.hid hd
  have HN := Lib.hid hn
  clear hd hn
  go_enter Tryz.func53, Tryz.ntmps53
  go_wp2_with (first | (go_at_call 84; refine (feedOf_any n HN.out ⟨#[]⟩ 0 false false s true (by have : (⟨#[]⟩ : ByteArray).size = 0 := rfl; omega) _ _ HD.out _).mono ?_; rintro e w1 ⟨v, rfl, ho, hb⟩; simp only [stV]))
  go_ret
  exact ⟨_, rfl, by first | assumption | exact ho.alloc _, by first | assumption | exact hb.alloc _⟩
end Go.Proofs.YteingkjdemlhgaaGreatDoor

/-
  Whole texts: Whole, Decode; the document's WholeOf.
-/
namespace Go.Proofs.YteingkjdemlhgaaGreatDoor
open Go.RowKit
set_option maxRecDepth 1000000
set_option maxHeartbeats 2000000
theorem drop_ext (s : ByteArray) (k : Nat) : (s.extract k s.size).data.toList = s.data.toList.drop k := by
  rw [Lib.extract_data]
  rw [List.take_of_length_le]
  rw [List.length_drop, ← Lib.size_eq]
  exact Nat.le_refl _
theorem whole_to (nm s : ByteArray) (xs : List Int) (n y : Int) (h : M.wholeM nm.data.toList s.data.toList = (xs, n, y)) (hn : nm.size ≤ 68719476735) (hs : s.size ≤ 9000) (w : World) (hL : Len w) : Calls Tryz.prog 41 #[.string nm, .string s] w fun e w' => ∃ v, e = .returned (.tuple #[v, .int .i64 n, .int .i64 y]) ∧ Own w.heap.size 3 w' v (xs.map (Value.int .i64)) ∧ Bel w w' := by
  obtain ⟨n2, y2, k2, hc⟩ : ∃ n2 y2 k2, M.chosen nm.data.toList s.data.toList = (n2, y2, k2) := ⟨_, _, _, rfl⟩
  obtain ⟨q1, q2, q3, q4, q5, q6⟩ := M.chosen_ok nm.data.toList s.data.toList
  rw [M.wholeM, hc] at h
  rw [hc] at q1 q2 q3 q4 q5 q6
  simp only at h q1 q2 q3 q4 q5 q6
  obtain ⟨kn, rfl⟩ : ∃ kn : Nat, k2 = (kn : Int) := ⟨k2.toNat, by omega⟩
  rw [← Lib.size_eq] at q5
  have hkz : (kn : Int) ≤ (s.size : Int) := q5
  have hk : kn ≤ s.size := by omega
  simp only [Prod.mk.injEq] at h
  obtain ⟨h, rfl, rfl⟩ := h
  rw [Int.toNat_natCast, ← drop_ext s kn] at h
  have HI := Lib.hid q1
  have HC := Lib.hid hc
  have HX := Lib.hid h
  have hsz : (s.extract kn s.size).size ≤ s.size := by rw [Lib.size_eq, drop_ext s kn, List.length_drop, ← Lib.size_eq]; omega
  clear hc q1 q2 q3 q4 q5 q6 h
  have HA := Lib.hid (fun W => streamAll_any n2 HI.out (s.extract kn s.size) (by omega) W)
  clear hsz
  go_enter Tryz.func41, Tryz.ntmps41
  go_wp2_with fail
  refine (chosen_to nm s _ _ _ HC.out hn hs _ hL).mono ?_
  rintro e w1 ⟨rfl, b1⟩
  go_wp2_with fail
  refine (HA.out _).mono ?_
  rintro e w2 ⟨v, rfl, o2, b2⟩
  rw [HX.out] at o2
  go_wp2_with fail
  go_ret3
  exact ⟨_, rfl, o2.mono b1.size, b1.trans b2⟩
theorem wholeOf_to (nm s : ByteArray) (xs : List Int) (n y : Int) (h : M.wholeM nm.data.toList s.data.toList = (xs, n, y)) (hn : nm.size ≤ 68719476735) (hs : s.size ≤ 3000) (w : World) : Calls Tryz.prog 21 #[.string nm, .string s] w fun e w' => ∃ v, e = .returned (.tuple #[v, .int .i64 n, .int .i64 y]) ∧ Own w.heap.size 3 w' v (xs.map (Value.int .i64)) ∧ Bel w w' := by
  obtain ⟨n2, y2, k2, hc⟩ : ∃ n2 y2 k2, M.chosen nm.data.toList s.data.toList = (n2, y2, k2) := ⟨_, _, _, rfl⟩
  obtain ⟨q1, q2, q3, q4, q5, q6⟩ := M.chosen_ok nm.data.toList s.data.toList
  rw [M.wholeM, hc] at h
  rw [hc] at q1 q2 q3 q4 q5 q6
  simp only at h q1 q2 q3 q4 q5 q6
  obtain ⟨kn, rfl⟩ : ∃ kn : Nat, k2 = (kn : Int) := ⟨k2.toNat, by omega⟩
  rw [← Lib.size_eq] at q5
  have hkz : (kn : Int) ≤ (s.size : Int) := q5
  have hk : kn ≤ s.size := by omega
  simp only [Prod.mk.injEq] at h
  obtain ⟨h, rfl, rfl⟩ := h
  rw [Int.toNat_natCast, ← drop_ext s kn] at h
  have HI := Lib.hid q1
  have HC := Lib.hid hc
  have HX := Lib.hid h
  have hsz : (s.extract kn s.size).size ≤ s.size := by rw [Lib.size_eq, drop_ext s kn, List.length_drop, ← Lib.size_eq]; omega
  clear hc q1 q2 q3 q4 q5 q6 h
  have HA := Lib.hid (fun W => decodeOf_any n2 HI.out (s.extract kn s.size) (by omega) W)
  clear hsz
  go_enter Tryz.func21, Tryz.ntmps21
  go_wp2_with fail
  refine (chooseOf_to nm s _ _ _ HC.out hn (by omega) _).mono ?_
  rintro e w1 ⟨rfl, b1⟩
  go_wp2_with fail
  refine (HA.out _).mono ?_
  rintro e w2 ⟨v, rfl, o2, b2⟩
  rw [HX.out] at o2
  go_wp2_with fail
  go_ret3
  exact ⟨_, rfl, o2.mono b1.size, b1.trans b2⟩
theorem decodeT_to (nm s : ByteArray) (xs : List Int) (n y k : Int) (h : M.decT nm.data.toList s.data.toList = (xs, n, y, k)) (w : World) (hL : Len w) : Calls Tryz.prog 14 #[.string nm, .string s] w fun e w' => ∃ v, e = .returned (.tuple #[v, .int .i64 n, .int .i64 y, .int .i64 k]) ∧ Own w.heap.size 3 w' v (xs.map (Value.int .i64)) ∧ Bel w w' := by
  by_cases hl : 3000 < nm.size ∨ 3000 < s.size
  · have HC := Lib.hid (show M.chooseE nm.data.toList s.data.toList = (0, 0, 0, 2) by rw [M.chooseE, ← Lib.size_eq, ← Lib.size_eq, if_pos hl])
    rw [M.decT, ← Lib.size_eq, ← Lib.size_eq, if_pos hl] at h
    simp only [Prod.mk.injEq] at h
    obtain ⟨rfl, rfl, rfl, rfl⟩ := h
    clear hl
    go_enter Tryz.func14, Tryz.ntmps14
    go_wp2_with fail
    refine (choose_to nm s _ _ _ _ HC.out _ hL).mono ?_
    rintro e w1 ⟨rfl, b1⟩
    go_wp2_with fail
    refine bodyPost_ret (v := .tuple #[.slice none 0 0, .int .i64 0, .int .i64 0, .int .i64 2]) (by simp [results, Tryz.results14, go_sem]) rfl ?_
    exact ⟨_, rfl, Own.nil _ _ _, b1⟩
  · obtain ⟨xs2, n2, y2, hw⟩ : ∃ xs2 n2 y2, M.wholeM nm.data.toList s.data.toList = (xs2, n2, y2) := ⟨_, _, _, rfl⟩
    rw [M.decT, ← Lib.size_eq, ← Lib.size_eq, if_neg hl, hw] at h
    simp only [Prod.mk.injEq] at h
    obtain ⟨rfl, rfl, rfl, rfl⟩ := h
    obtain ⟨n3, y3, k3, hc⟩ : ∃ n3 y3 k3, M.chosen nm.data.toList s.data.toList = (n3, y3, k3) := ⟨_, _, _, rfl⟩
    have HC := Lib.hid (show M.chooseE nm.data.toList s.data.toList = (n3, y3, k3, 0) by rw [M.chooseE, ← Lib.size_eq, ← Lib.size_eq, if_neg hl, hc])
    have HW := Lib.hid hw
    have hn : nm.size ≤ 68719476735 := by omega
    have hs : s.size ≤ 9000 := by omega
    clear hl hw hc
    go_enter Tryz.func14, Tryz.ntmps14
    go_wp2_with fail
    refine (choose_to nm s _ _ _ _ HC.out _ hL).mono ?_
    rintro e w1 ⟨rfl, b1⟩
    go_wp2_with fail
    refine (whole_to nm s _ _ _ HW.out hn hs _ (hL.bel b1)).mono ?_
    rintro e w2 ⟨v, rfl, o2, b2⟩
    go_wp2_with fail
    refine bodyPost_ret (v := .tuple #[v, .int .i64 n2, .int .i64 y2, .int .i64 0]) (by simp [results, Tryz.results14, go_sem]) rfl ?_
    exact ⟨_, rfl, o2.mono b1.size, b1.trans b2⟩
end Go.Proofs.YteingkjdemlhgaaGreatDoor

/-
  Whole texts: Count.
-/
namespace Go.Proofs.YteingkjdemlhgaaGreatDoor
open Go.RowKit
set_option maxRecDepth 1000000
set_option maxHeartbeats 2000000
theorem points_scalar (l : List Int) (h : M.points l = 0) : l.length ≤ 3000 ∧ ∀ n ∈ l, 0 ≤ n ∧ n ≤ 1114111 :=
  ⟨(points_scalars l h).1, fun n hn => by have := scalar_bounds n ((points_scalars l h).2 n hn); omega⟩
theorem badN_take (xs : List Int) (k : Nat) (n : Int) (h : xs[k]? = some n) : M.badN (xs.take (k + 1)) = M.badN (xs.take k) + (if n = 65533 then 1 else 0) := by
  rw [List.take_add_one, h, M.badN_app]
  congr 1
  by_cases hn : n = 65533 <;> simp [M.badN, hn]
theorem farN_take (xs : List Int) (k : Nat) (n : Int) (h : xs[k]? = some n) : M.farN (xs.take (k + 1)) = M.farN (xs.take k) + (if 127 < n then 1 else 0) := by
  rw [List.take_add_one, h, M.farN_app]
  congr 1
  by_cases hn : 127 < n <;> simp [M.farN, hn]
theorem pointsT_to (v : Value) (xs : List Int) (n : Int) (h : M.points xs = n) (w : World) (hv : IntSl w v xs) : Calls Tryz.prog 55 #[v] w fun e w' => e = .returned (.int .i64 n) ∧ w = w' := by
  have := points_any v xs w hv; rw [h] at this; exact this
theorem count_to (v : Value) (xs : List Int) (a b k : Int) (h : M.countE xs = (a, b, k)) (w : World) (hv : IntSl w v xs) : Calls Tryz.prog 28 #[v] w fun e w' => e = .returned (.tuple #[.int .i64 a, .int .i64 b, .int .i64 k]) ∧ Bel w w' := by
  obtain ⟨p, hp⟩ : ∃ p, M.points xs = p := ⟨_, rfl⟩
  have HP := Lib.hid hp
  have hv0 := hv
  by_cases h0 : p = 0
  · subst h0
    rw [M.countE, if_neg (by simp [hp])] at h
    simp only [Prod.mk.injEq] at h
    obtain ⟨rfl, rfl, rfl⟩ := h
    obtain ⟨hlen, _⟩ := points_scalar xs hp
    clear hp
    obtain ⟨a, c, rfl, hc1, hc2, hn, hx⟩ := hv
    unfold maxLen at hc2
    have HX := Lib.hid hx
    have HN := Lib.hid hn
    clear hx hn
    go_enter Tryz.func28, Tryz.ntmps28
    go_wp2_with fail
    refine (pointsT_to _ xs 0 HP.out _ hv0).mono ?_
    rintro e _ ⟨rfl, rfl⟩
    go_wp2_with fail
    go_loopw [18] (fun i wr => ∃ k : Nat, k ≤ xs.length ∧ i = .int .i64 k ∧ Box wr w.heap.size 104 [.int .i64 (M.badN (xs.take k) : Int), .int .i64 (M.farN (xs.take k) : Int)] ∧ Bel w wr) (fun i _ => xs.length - (intOf i).toNat)
    case atStart => exact ⟨0, by omega, rfl, Box.new w 104 [.int .i64 0, .int .i64 0], (by repeat (first | exact Bel.refl _ | refine Bel.drewN ?_ _ | refine Bel.drew ?_ | refine Bel.alloc ?_ _ | refine Bel.trans ?_ (by assumption) | refine Bel.setCell ?_ (by simp; omega) _))⟩
    case round =>
      obtain ⟨k, hk, rfl, hB, hb⟩ := hrel
      have hbf := M.bad_far (xs.take k)
      rw [List.length_take] at hbf
      by_cases hlt : k < xs.length
      · obtain ⟨n, hn⟩ : ∃ n, xs[k]? = some n := ⟨_, List.getElem?_eq_getElem hlt⟩
        cases a with
        | none => exfalso; have h3 := hlt; rw [HN.out rfl, List.length_nil] at h3; omega
        | some x =>
          have hcw : w.cell? (x.add k) = some (.int .i64 n) := HX.out x rfl k n hn
          have hxb : x.block < w.heap.size := by have := World.block_lt_of_cell? w _ hcw; rwa [block_of_add] at this
          have hcell : wr.cell? (x.add k) = some (.int .i64 n) := (hb.cell (World.block_lt_of_cell? w _ hcw)).trans hcw
          have E1 := badN_take xs k n hn
          have E2 := farN_take xs k n hn
          have c0 := hB.cell 0 _ rfl
          have c1 := hB.cell 1 _ rfl
          have q0 := hB.frozen 0
          have q1 := hB.frozen 1
          clear hcw hn
          by_cases h65 : n = 65533
          · subst h65
            rw [if_pos rfl] at E1
            rw [if_pos (by decide)] at E2
            have F1 := Lib.hid (show (M.badN (xs.take (k + 1)) : Int) = (M.badN (xs.take k) : Int) + 1 by omega)
            have F2 := Lib.hid (show (M.farN (xs.take (k + 1)) : Int) = (M.farN (xs.take k) : Int) + 1 by omega)
            clear E1 E2
            generalize M.badN (xs.take k) = bn at *
            generalize M.farN (xs.take k) = fn at *
            go_wp2_with fail
            go_roundw
            case rel => exact ⟨k + 1, by omega, by go_num, by rw [F1.out, F2.out]; exact (hB.set 0 _).set 1 _, (hb.setCell (p := ⟨w.heap.size, 0, none⟩) (Nat.le_refl _) _).setCell (p := ⟨w.heap.size, 1, none⟩) (Nat.le_refl _) _⟩
            case measure => simp [intOf]; omega
          · have g65 : (n == 65533) = false := by simpa using h65
            rw [if_neg h65] at E1
            by_cases h127 : 127 < n
            · rw [if_pos h127] at E2
              have F1 := Lib.hid (show (M.badN (xs.take (k + 1)) : Int) = (M.badN (xs.take k) : Int) by omega)
              have F2 := Lib.hid (show (M.farN (xs.take (k + 1)) : Int) = (M.farN (xs.take k) : Int) + 1 by omega)
              clear E1 E2 h65
              generalize M.badN (xs.take k) = bn at *
              generalize M.farN (xs.take k) = fn at *
              go_wp2_with fail
              go_roundw
              case rel => exact ⟨k + 1, by omega, by go_num, by rw [F1.out, F2.out]; exact hB.set 1 _, hb.setCell (p := ⟨w.heap.size, 1, none⟩) (Nat.le_refl _) _⟩
              case measure => simp [intOf]; omega
            · rw [if_neg h127] at E2
              have F1 := Lib.hid (show (M.badN (xs.take (k + 1)) : Int) = (M.badN (xs.take k) : Int) by omega)
              have F2 := Lib.hid (show (M.farN (xs.take (k + 1)) : Int) = (M.farN (xs.take k) : Int) by omega)
              clear E1 E2 h65
              generalize M.badN (xs.take k) = bn at *
              generalize M.farN (xs.take k) = fn at *
              go_wp2_with fail
              go_roundw
              case rel => exact ⟨k + 1, by omega, by go_num, by rw [F1.out, F2.out]; exact hB, hb⟩
              case measure => simp [intOf]; omega
      · obtain rfl : k = xs.length := by omega
        rw [List.take_length] at hB
        have c0 := hB.cell 0 _ rfl
        have c1 := hB.cell 1 _ rfl
        go_wp2_with fail
        go_region
        go_wp2_with fail
        go_ret3
        exact ⟨rfl, hb.drew⟩
  · rw [M.countE, hp, if_pos h0] at h
    simp only [Prod.mk.injEq] at h
    obtain ⟨rfl, rfl, rfl⟩ := h
    have g1 : (p != 0) = true := by simpa using h0
    clear hp h0
    go_enter Tryz.func28, Tryz.ntmps28
    go_wp2_with fail
    refine (pointsT_to _ xs p HP.out _ hv0).mono ?_
    rintro e _ ⟨rfl, rfl⟩
    go_wp2_with fail
    go_ret3
    exact ⟨rfl, Bel.refl _⟩
end Go.Proofs.YteingkjdemlhgaaGreatDoor

/-
  Package kana: Raw, Encode.
-/
namespace Go.Proofs.YteingkjdemlhgaaGreatDoor
open Go.RowKit
set_option maxRecDepth 1000000
theorem escape_to (g : Int) (l : List UInt8) (h : [27, 40, M.escB g] = l) (hg : g = 0 ∨ g = 1 ∨ g = 2) (w : World) : Calls Tryz.prog 134 #[.int .i64 g] w fun e w' => e = .returned (.string ⟨l.toArray⟩) ∧ Bel w w' := by
  have := escape_any g hg w; rw [h] at this; exact this
set_option maxHeartbeats 4000000 in
theorem rawK_any (v : Value) (xs : List Int) (w : World) (hv : IntSl w v xs) (hlen : xs.length ≤ 1000000) : Calls Tryz.prog 90 #[v] w fun e w' => e = .returned (.tuple #[.string ⟨(M.rawK xs).1.toArray⟩, .int .i64 (M.rawK xs).2]) ∧ Bel w w' := by
  obtain ⟨a, ca, rfl, hc1, hc2, hn, hx⟩ := hv
  unfold maxLen at hc2
  go_enter Tryz.func90, Tryz.ntmps90
  go_wp2_with fail
  go_loopw [4, 5, 12] (fun vg vs i wr => ∃ (k : Nat) (now : Int) (acc : List UInt8), k ≤ xs.length ∧ i = .int .i64 k ∧ vg = .int .i64 now ∧ 0 ≤ now ∧ now ≤ 2 ∧ vs = .string ⟨acc.toArray⟩ ∧ acc.length ≤ 4 * k ∧ Hid (M.encK 0 xs = (M.encK now (xs.drop k)).map (acc ++ ·)) ∧ Bel w wr) (fun _ _ i _ => xs.length - (intOf i).toNat)
  case atStart => exact ⟨0, 0, [], by omega, rfl, rfl, by omega, by omega, rfl, by simp, Lib.hid (by rw [List.drop_zero]; cases M.encK 0 xs <;> rfl), Bel.refl _⟩
  case round =>
    obtain ⟨k, now, acc, hk, rfl, rfl, hg0, hg1, rfl, hal, HT, hb⟩ := hrel
    by_cases hlt : k < xs.length
    · obtain ⟨n, hy⟩ : ∃ n, xs[k]? = some n := ⟨_, List.getElem?_eq_getElem hlt⟩
      have hdr : xs.drop k = n :: xs.drop (k + 1) := by
        rw [List.drop_eq_getElem_cons hlt]
        rw [List.getElem?_eq_getElem hlt] at hy
        injection hy with hy
        rw [hy]
      cases a with
      | none => exfalso; have h3 := hlt; rw [hn rfl, List.length_nil] at h3; omega
      | some x =>
        have hcw := hx x rfl k n hy
        have hcell : wr.cell? (x.add k) = some (.int .i64 n) := (Bel.cell hb (World.block_lt_of_cell? w _ hcw)).trans hcw
        have i1 : (k : Int) < (xs.length : Int) := by omega
        rcases M.findK_or now n with ⟨hf, h0, h1, h2, h3⟩ | ⟨g, c, hf, hg, hbk, hc, h27⟩
        · have HF := Lib.hid (show M.rawK xs = ([], 5) by
            rw [M.rawK, HT.out, hdr, M.encK, if_pos (by rw [hf]; decide)]; rfl)
          have H0 := Lib.hid h0
          have H1 := Lib.hid h1
          have H2 := Lib.hid h2
          have H3 := Lib.hid h3
          clear hx hn hy hdr hcw hf h0 h1 h2 h3
          go_wp2_with (first | (go_at_call 133; refine (find_no now n H0.out H1.out H2.out H3.out _).mono ?_; rintro e w' ⟨rfl, hb2⟩))
          go_ret2
          rw [HF.out]
          exact ⟨rfl, (by repeat (first | exact Bel.refl _ | refine Bel.drewN ?_ _ | refine Bel.drew ?_ | refine Bel.alloc ?_ _ | refine Bel.trans ?_ (by assumption) | refine Bel.setCell ?_ (by simp; omega) _))⟩
        · have hg2 : g = 0 ∨ g = 1 ∨ g = 2 := by omega
          have hgn : 0 ≤ g := by omega
          have hgm : g ≤ 2 := by omega
          have HS := Lib.hid (M.encK_step now g n c (xs.drop (k + 1)) acc hf hgn hbk)
          have HT2 := Lib.hid (show M.encK 0 xs = (M.encK g (xs.drop (k + 1))).map ((acc ++ M.shiftB now g ++ [UInt8.ofNat c]) ++ ·) by
            rw [HT.out, hdr, HS.out])
          have HF := Lib.hid hf
          have HG := Lib.hid hg2
          have HB := Lib.hid hbk
          have HV := Lib.hid (show [UInt8.ofNat c].map byteVal = [.int .u8 (c : Int)] by simp [byteVal]; omega)
          by_cases he : g = now
          · subst he
            have HL := Lib.hid (show acc ++ M.shiftB g g ++ [UInt8.ofNat c] = acc ++ [UInt8.ofNat c] by simp [M.shiftB])
            rw [HL.out] at HT2
            clear hx hn hy hdr hcw hf hg hbk HS hg2
            go_wp2_with (first | (go_at_call 133; refine (find_yes g n g c HF.out hgn HB.out _).mono ?_; rintro e w' ⟨rfl, hb2⟩) | ((with_reducible show wpList _ _ _ _ _ _); refine wpList_toString rfl (.tmp 34) _ _ 5 rfl Tryz.underlying120 Tryz.underlying5 Tryz.underlying9 _ _ [UInt8.ofNat c] rfl (own_row _ [UInt8.ofNat c] _ HV.out (by simp)) ?_))
            go_roundw
            case rel => exact ⟨k + 1, g, acc ++ [UInt8.ofNat c], by omega, by go_num, rfl, by omega, by omega, by simp [str_append], by rw [List.length_append, List.length_singleton]; omega, HT2, (by repeat (first | exact Bel.refl _ | refine Bel.drewN ?_ _ | refine Bel.drew ?_ | refine Bel.alloc ?_ _ | refine Bel.trans ?_ (by assumption) | refine Bel.setCell ?_ (by simp; omega) _))⟩
            case measure => simp [intOf]; omega
          · have e1 : (g != now) = true := by simpa using he
            obtain ⟨p, hp⟩ : ∃ p, [27, 40, M.escB g] = p := ⟨_, rfl⟩
            have HL := Lib.hid (show acc ++ M.shiftB now g ++ [UInt8.ofNat c] = acc ++ p ++ [UInt8.ofNat c] by rw [M.shiftB, if_neg he, hp])
            have hpl : p.length = 3 := by rw [← hp]; rfl
            have HP := Lib.hid hp
            rw [HL.out] at HT2
            clear hx hn hy hdr hcw hf hg hbk HS he hp hg2
            go_wp2_with (first | (go_at_call 133; refine (find_yes now n g c HF.out hgn HB.out _).mono ?_; rintro e w' ⟨rfl, hb2⟩) | (go_at_call 134; refine (escape_to g p HP.out HG.out _).mono ?_; rintro e w' ⟨rfl, hb3⟩) | ((with_reducible show wpList _ _ _ _ _ _); refine wpList_toString rfl (.tmp 34) _ _ 5 rfl Tryz.underlying120 Tryz.underlying5 Tryz.underlying9 _ _ [UInt8.ofNat c] rfl (own_row _ [UInt8.ofNat c] _ HV.out (by simp)) ?_))
            go_roundw
            case rel => exact ⟨k + 1, g, acc ++ p ++ [UInt8.ofNat c], by omega, by go_num, rfl, by omega, by omega, by simp [str_append], by rw [List.length_append, List.length_append, List.length_singleton]; omega, HT2, (by repeat (first | exact Bel.refl _ | refine Bel.drewN ?_ _ | refine Bel.drew ?_ | refine Bel.alloc ?_ _ | refine Bel.trans ?_ (by assumption) | refine Bel.setCell ?_ (by simp; omega) _))⟩
            case measure => simp [intOf]; omega
    · obtain rfl : k = xs.length := by omega
      have HE := Lib.hid (show M.encK 0 xs = some (acc ++ M.shiftB now 0) by rw [HT.out, List.drop_length, M.encK]; rfl)
      by_cases h0 : now = 0
      · subst h0
        have HF := Lib.hid (show M.rawK xs = (acc, 0) by rw [M.rawK, HE.out]; simp [M.shiftB])
        go_wp2_with fail
        go_ret2
        rw [HF.out]
        exact ⟨rfl, hb⟩
      · have e1 : (now != 0) = true := by simpa using h0
        have HF := Lib.hid (show M.rawK xs = (acc ++ [27, 40, 66], 0) by rw [M.rawK, HE.out, M.shiftB, if_neg (by omega)]; rfl)
        clear h0
        go_wp2_with (first | (go_at_call 134; refine (escape_to 0 [27, 40, 66] rfl (.inl rfl) _).mono ?_; rintro e w' ⟨rfl, hb3⟩))
        go_ret2
        rw [HF.out]
        exact ⟨by simp [str_append], (by repeat (first | exact Bel.refl _ | refine Bel.drewN ?_ _ | refine Bel.drew ?_ | refine Bel.alloc ?_ _ | refine Bel.trans ?_ (by assumption) | refine Bel.setCell ?_ (by simp; omega) _))⟩
end Go.Proofs.YteingkjdemlhgaaGreatDoor

/-
  Package encoder: Out, Output, has, Has, told.
-/
namespace Go.Proofs.YteingkjdemlhgaaGreatDoor
open Go.RowKit
set_option maxRecDepth 1000000
theorem out_any (n : Int) (w : World) : Calls Tryz.prog 57 #[.int .i64 n] w fun e w' => e = .returned (.int .i64 (M.outE n)) ∧ w = w' := by
  by_cases h1 : n = 2
  · have H := Lib.hid (show M.outE n = 1 by rw [M.outE, if_pos (.inl h1)])
    go_enter Tryz.func57, Tryz.ntmps57
    go_wp2
    go_ret
    exact ⟨by rw [H.out]; rfl, rfl⟩
  · by_cases h2 : n = 3
    · have H := Lib.hid (show M.outE n = 1 by rw [M.outE, if_pos (.inr (.inl h2))])
      have e1 : (n == 2) = false := by simpa using h1
      go_enter Tryz.func57, Tryz.ntmps57
      go_wp2
      go_ret
      exact ⟨by rw [H.out]; rfl, rfl⟩
    · by_cases h3 : n = 7
      · have H := Lib.hid (show M.outE n = 1 by rw [M.outE, if_pos (.inr (.inr h3))])
        have e1 : (n == 2) = false := by simpa using h1
        have e2 : (n == 3) = false := by simpa using h2
        go_enter Tryz.func57, Tryz.ntmps57
        go_wp2
        go_ret
        exact ⟨by rw [H.out]; rfl, rfl⟩
      · have H := Lib.hid (show M.outE n = n by rw [M.outE, if_neg (by omega)])
        have e1 : (n == 2) = false := by simpa using h1
        have e2 : (n == 3) = false := by simpa using h2
        have e3 : (n == 7) = false := by simpa using h3
        go_enter Tryz.func57, Tryz.ntmps57
        go_wp2
        go_ret
        exact ⟨by rw [H.out]; rfl, rfl⟩
theorem output_to (n a k : Int) (h : M.outputE n = (a, k)) (w : World) : Calls Tryz.prog 35 #[.int .i64 n] w fun e w' => e = .returned (.tuple #[.int .i64 a, .int .i64 k]) ∧ w = w' := by
  have hp := h
  unfold M.outputE at hp
  cases hi : M.isEnc n with
  | true =>
    rw [hi, if_pos rfl] at hp
    injection hp with h1 h2
    subst h2
    have HO := Lib.hid h1
    have HI := Lib.hid hi
    clear h h1 hi
    go_enter Tryz.func35, Tryz.ntmps35
    go_wp2_with (first | (go_at_call 54; refine (isEnc_any _ _).mono ?_; rintro e w' ⟨rfl, rfl⟩; rw [HI.out]) | (go_at_call 57; refine (out_any _ _).mono ?_; rintro e w' ⟨rfl, rfl⟩; rw [HO.out]))
    go_ret2
    exact ⟨rfl, rfl⟩
  | false =>
    rw [hi, if_neg (by decide)] at hp
    injection hp with h1 h2
    subst h1; subst h2
    have HI := Lib.hid hi
    clear h hi
    go_enter Tryz.func35, Tryz.ntmps35
    go_wp2_with (first | (go_at_call 54; refine (isEnc_any _ _).mono ?_; rintro e w' ⟨rfl, rfl⟩; rw [HI.out]))
    go_ret2
    exact ⟨rfl, rfl⟩
theorem kanaHas_any (n : Int) (w : World) : Calls Tryz.prog 99 #[.int .i64 n] w fun e w' => e = .returned (.bool (M.hasK n)) ∧ Bel w w' := by
  have neg : ∀ g, ¬ 0 ≤ M.byteK g n → M.byteK g n = -1 := fun g h => by
    rcases M.byteK_or g n with h1 | ⟨c, _, h2, _⟩
    · exact h1
    · omega
  by_cases h : 0 ≤ M.findK 0 n
  · have HF := Lib.hid (show M.hasK n = true by rw [M.hasK, decide_eq_true_eq]; exact h)
    rcases M.findK_cases 0 n with h1 | ⟨_, h1⟩
    · omega
    · obtain ⟨c, hc⟩ := Int.eq_ofNat_of_zero_le h1
      obtain ⟨g, hg⟩ : ∃ g, M.findK 0 n = g := ⟨_, rfl⟩
      rw [hg] at h hc
      have HG := Lib.hid hg
      have HC := Lib.hid hc
      clear hg hc h1 neg
      go_enter Tryz.func99, Tryz.ntmps99
      go_wp2_with (go_at_call 133; refine (find_yes 0 n g c HG.out h HC.out _).mono ?_; rintro e w' ⟨rfl, hb⟩)
      go_ret
      exact ⟨by rw [HF.out]; rfl, hb⟩
  · have HF := Lib.hid (show M.hasK n = false by rw [M.hasK, decide_eq_false_iff_not]; exact h)
    have h0 : ¬ 0 ≤ M.byteK 0 n := fun h9 => h (by unfold M.findK; rw [if_pos h9]; exact Int.le_refl _)
    have h1 : ¬ 0 ≤ M.byteK 1 n := fun h9 => h (by unfold M.findK; rw [if_neg h0, if_neg h0, if_pos h9]; decide)
    have h2 : ¬ 0 ≤ M.byteK 2 n := fun h9 => h (by unfold M.findK; rw [if_neg h0, if_neg h0, if_neg h1, if_pos h9]; decide)
    have H0 := Lib.hid (neg 0 h0)
    have H1 := Lib.hid (neg 1 h1)
    have H2 := Lib.hid (neg 2 h2)
    clear h0 h1 h2 neg h
    go_enter Tryz.func99, Tryz.ntmps99
    go_wp2_with (go_at_call 133; refine (find_no 0 n H0.out H0.out H1.out H2.out _).mono ?_; rintro e w' ⟨rfl, hb⟩)
    go_ret
    exact ⟨by rw [HF.out]; rfl, hb⟩
theorem tellsS_has (user : Bool) (n : Int) : ∃ a k, M.tellsS user n = (a, k) ∧ (k == 0) = decide (0 ≤ M.byteOf user n) := by
  unfold M.tellsS
  split
  · rename_i h; exact ⟨0, 5, rfl, by rw [decide_eq_false (by omega)]; rfl⟩
  · rename_i h; exact ⟨_, 0, rfl, by rw [decide_eq_true (by omega)]; rfl⟩
theorem tells_to2 (user : Bool) (n a k : Int) (h : M.tellsS user n = (a, k)) (w : World) : Calls Tryz.prog 98 #[.bool user, .int .i64 n] w fun e w' => e = .returned (.tuple #[.int .i64 a, .int .i64 k]) ∧ Bel w w' := by
  have := tells_any user n w; rw [h] at this; exact this
theorem has_any (e n : Int) (w : World) : Calls Tryz.prog 67 #[.int .i64 e, .int .i64 n] w fun r w' => r = .returned (.bool (M.hasE e n)) ∧ Bel w w' := by
  by_cases h4 : e = 4
  · subst h4
    obtain ⟨a, k, hT, hk⟩ := tellsS_has false n
    have HT := Lib.hid hT
    have H := Lib.hid (show M.hasE 4 n = (k == 0) by rw [M.hasE, if_pos (.inl rfl), hk]; rfl)
    clear hT hk
    go_enter Tryz.func67, Tryz.ntmps67
    go_wp2_with (go_at_call 98; refine (tells_to2 false n a k HT.out _).mono ?_; rintro e w' ⟨rfl, hb⟩)
    go_ret
    exact ⟨by rw [H.out]; rfl, hb⟩
  · by_cases h5 : e = 5
    · subst h5
      obtain ⟨a, k, hT, hk⟩ := tellsS_has true n
      have HT := Lib.hid hT
      have H := Lib.hid (show M.hasE 5 n = (k == 0) by rw [M.hasE, if_pos (.inr rfl), hk]; rfl)
      clear hT hk
      go_enter Tryz.func67, Tryz.ntmps67
      go_wp2_with (go_at_call 98; refine (tells_to2 true n a k HT.out _).mono ?_; rintro e w' ⟨rfl, hb⟩)
      go_ret
      exact ⟨by rw [H.out]; rfl, hb⟩
    · have e1 : (e == 4) = false := by simpa using h4
      have e2 : (e == 5) = false := by simpa using h5
      by_cases h6 : e = 6
      · subst h6
        have H := Lib.hid (show M.hasE 6 n = M.hasK n by rw [M.hasE, if_neg (by omega), if_pos rfl])
        go_enter Tryz.func67, Tryz.ntmps67
        go_wp2_with (go_at_call 99; refine (kanaHas_any _ _).mono ?_; rintro e w' ⟨rfl, hb⟩)
        go_ret
        exact ⟨by rw [H.out]; rfl, hb⟩
      · have e3 : (e == 6) = false := by simpa using h6
        have H := Lib.hid (show M.hasE e n = true by rw [M.hasE, if_neg (by omega), if_neg h6])
        go_enter Tryz.func67, Tryz.ntmps67
        go_wp2_with fail
        go_ret
        exact ⟨by rw [H.out]; rfl, Bel.refl _⟩
theorem has_to (e n : Int) (b : Bool) (k : Int) (h : M.hasEE e n = (b, k)) (w : World) : Calls Tryz.prog 34 #[.int .i64 e, .int .i64 n] w fun r w' => r = .returned (.tuple #[.bool b, .int .i64 k]) ∧ Bel w w' := by
  have hp := h
  unfold M.hasEE at hp
  cases hi : M.isEnc e with
  | false =>
    rw [hi, if_pos rfl] at hp
    injection hp with h1 h2
    subst h1; subst h2
    have HI := Lib.hid hi
    clear h hi
    go_enter Tryz.func34, Tryz.ntmps34
    go_wp2_with (first | (go_at_call 54; refine (isEnc_any _ _).mono ?_; rintro e w' ⟨rfl, rfl⟩; rw [HI.out]))
    go_ret2
    exact ⟨rfl, Bel.refl _⟩
  | true =>
    rw [hi, if_neg (by decide)] at hp
    cases hs : M.scalar n with
    | false =>
      rw [hs, if_pos rfl] at hp
      injection hp with h1 h2
      subst h1; subst h2
      have HI := Lib.hid hi
      have HS := Lib.hid hs
      clear h hi hs
      go_enter Tryz.func34, Tryz.ntmps34
      go_wp2_with (first | (go_at_call 54; refine (isEnc_any _ _).mono ?_; rintro e w' ⟨rfl, rfl⟩; rw [HI.out]) | (go_at_call 66; refine (scalar_any _ _).mono ?_; rintro e w' ⟨rfl, rfl⟩; rw [HS.out]))
      go_ret2
      exact ⟨rfl, Bel.refl _⟩
    | true =>
      rw [hs, if_neg (by decide)] at hp
      injection hp with h1 h2
      subst h2
      have HI := Lib.hid hi
      have HS := Lib.hid hs
      have HH := Lib.hid h1
      clear h hi hs h1
      go_enter Tryz.func34, Tryz.ntmps34
      go_wp2_with (first | (go_at_call 54; refine (isEnc_any _ _).mono ?_; rintro e w' ⟨rfl, rfl⟩; rw [HI.out]) | (go_at_call 66; refine (scalar_any _ _).mono ?_; rintro e w' ⟨rfl, rfl⟩; rw [HS.out]) | (go_at_call 57; refine (out_any _ _).mono ?_; rintro e w' ⟨rfl, rfl⟩) | (go_at_call 67; refine (has_any _ _ _).mono ?_; rintro e w' ⟨rfl, hb⟩; rw [HH.out]))
      go_ret2
      exact ⟨rfl, hb⟩
end Go.Proofs.YteingkjdemlhgaaGreatDoor

/-
  The document's answers on UTF-8: isBegun.
-/
import Derived.Test.YthjafhoahhdlnaaRUtf8
import Derived.Test.YthjafhoahhdlnaaPlainUtf8c
namespace Go.Proofs.Ythjafhoahhdlnaa
open Go.RowKit
set_option maxRecDepth 1000000

theorem int_eq {a b : Int} (h : a = b) : Value.int .i64 a = .int .i64 b := by rw [h]
theorem isBegun_low (s : ByteArray) (c : UInt8) (p : List UInt8) (hs : s.data.toList = c :: p) (h : c.toNat < 128) (w : World) : Calls Try.prog 35 #[.string s] w fun e w' => e = .returned (.tuple #[.int .i64 1, .bool (decide (p.length = 0))]) ∧ w = w' := by
  have hsz : s.size = p.length + 1 := by rw [Lib.size_eq, hs]; rfl
  have hpos : 0 < s.size := by omega
  have hc : s[0].toNat = c.toNat := by
    have := byte_at s 0 hpos
    rw [hs] at this
    injection this with this
    rw [← this]
  generalize c.toNat = n at h hc
  have e1 : ((s.size : Int) == 1) = decide (p.length = 0) := by
    rw [Bool.eq_iff_iff, beq_iff_eq, decide_eq_true_eq]; omega
  generalize decide (p.length = 0) = B at e1
  clear hsz hs
  go_enter Try.func35, Try.ntmps35
  go_wp2_with fail
  go_ret2
  exact ⟨rfl, rfl⟩
theorem isBegun_none (s : ByteArray) (c : UInt8) (p : List UInt8) (hs : s.data.toList = c :: p) (h : 128 ≤ c.toNat) (hm : M.len8 c.toNat = 0) (w : World) : Calls Try.prog 35 #[.string s] w fun e w' => e = .returned (.tuple #[.int .i64 0, .bool false]) ∧ w = w' := by
  have hsz : s.size = p.length + 1 := by rw [Lib.size_eq, hs]; rfl
  have hpos : 0 < s.size := by omega
  have hc : s[0].toNat = c.toNat := by
    have := byte_at s 0 hpos
    rw [hs] at this
    injection this with this
    rw [← this]
  have hcl := c.toNat_lt
  have e1 : decide (194 ≤ (c.toNat : Int) ∧ (c.toNat : Int) ≤ 223) = false := by unfold M.len8 at hm; rw [decide_eq_false_iff_not]; (repeat' split at hm) <;> omega
  have e2 : decide (224 ≤ (c.toNat : Int) ∧ (c.toNat : Int) ≤ 239) = false := by unfold M.len8 at hm; rw [decide_eq_false_iff_not]; (repeat' split at hm) <;> omega
  have e3 : decide (240 ≤ (c.toNat : Int) ∧ (c.toNat : Int) ≤ 244) = false := by unfold M.len8 at hm; rw [decide_eq_false_iff_not]; (repeat' split at hm) <;> omega
  clear hm hsz hs
  generalize c.toNat = n at h hc e1 e2 e3 hcl
  go_enter Try.func35, Try.ntmps35
  go_wp2_with (go_at_call 34; refine (between_any _ _ _ _).mono ?_; rintro e w' ⟨rfl, rfl⟩)
  go_ret2
  exact ⟨rfl, rfl⟩
set_option maxHeartbeats 4000000 in
theorem isBegun_2 (s : ByteArray) (c : UInt8) (p : List UInt8) (hs : s.data.toList = c :: p) (hm : M.len8 c.toNat = 2) (w : World) : Calls Try.prog 35 #[.string s] w fun e w' => ∃ a : Int, e = .returned (.tuple #[.int .i64 a, .bool (M.ok8 c p)]) ∧ (M.ok8 c p = true → a = (M.len8 c.toNat : Int)) ∧ Bel w w' := by
  have hge : 194 ≤ c.toNat ∧ c.toNat ≤ 223 := by unfold M.len8 at hm; (repeat' split at hm) <;> omega
  have e1 : decide (194 ≤ (c.toNat : Int) ∧ (c.toNat : Int) ≤ 223) = true := by rw [decide_eq_true_eq]; omega
  have e2 : True := trivial
  have e3 : True := trivial
  have hsz : s.size = p.length + 1 := by rw [Lib.size_eq, hs]; rfl
  have hpos : 0 < s.size := by omega
  have hc : s[0].toNat = c.toNat := by
    have := byte_at s 0 hpos
    rw [hs] at this
    injection this with this
    rw [← this]
  have hat : ∀ j (hj : j + 1 < s.size), p[j]? = some s[j + 1] := fun j hj => by
    have := byte_at s (j + 1) hj
    rw [hs] at this
    simpa using this
  have hcl := c.toNat_lt
  have HM := Lib.hid hm
  have hne : M.len8 c.toNat ≠ 0 := by rw [hm]; decide
  by_cases hlong : M.len8 c.toNat < p.length + 1
  · have H := Lib.hid (M.ok8_long c p hne hlong)
    have hsz2 : 2 < s.size := by rw [hm] at hlong; omega
    clear hm hne hlong hsz hs hat
    generalize c.toNat = n at hc hcl e1 e2 e3 hge
    go_enter Try.func35, Try.ntmps35
    go_wp2_with (go_at_call 34; refine (between_any _ _ _ _).mono ?_; rintro e w' ⟨rfl, rfl⟩)
    go_ret2
    rw [H.out]
    exact ⟨_, rfl, fun hh => (by cases hh), Bel.refl _⟩
  · have hsz2 : s.size ≤ 2 := by rw [hm] at hlong; omega
    have hsz3 : p.length ≤ 3 := by omega
    have Hs := Lib.hid hsz
    have Hat := Lib.hid hat
    have Hlong := Lib.hid hlong
    clear hm hlong hsz hs hat
    obtain ⟨n, hn⟩ : ∃ n, n = c.toNat := ⟨_, rfl⟩
    have Hn := Lib.hid hn
    rw [← hn] at hc hcl hge
    try rw [← hn] at e1
    try rw [← hn] at e2
    try rw [← hn] at e3
    clear hn
    go_enter Try.func35, Try.ntmps35
    go_wp2_with (go_at_call 34; refine (between_any _ _ _ _).mono ?_; rintro e w' ⟨rfl, rfl⟩)
    go_loop [6] (fun i => ∃ k : Nat, 1 ≤ k ∧ k ≤ s.size ∧ i = .int .i64 k ∧ Hid ((p.take (k - 1)).all M.cont8 = true)) (fun i => s.size - (intOf i).toNat)
    case atStart => exact ⟨1, by omega, by omega, rfl, Lib.hid rfl⟩
    case round =>
      obtain ⟨k, hk1, hk, rfl, hno⟩ := hrel
      by_cases hlt : k < s.size
      · have hbl := s[k].toNat_lt
        have hj : p[k - 1]? = some s[k] := by
          have := Hat.out (k - 1) (by omega)
          simpa [Nat.sub_add_cancel hk1] using this
        cases hcb : M.cont8 s[k] with
        | false =>
          have H := Lib.hid (M.ok8_cont c p (by rw [List.all_eq_false]; exact ⟨_, List.mem_of_getElem? hj, by rw [hcb]; decide⟩))
          have e4 : decide (128 ≤ (s[k].toNat : Int) ∧ (s[k].toNat : Int) ≤ 191) = false := by
            rw [decide_eq_false_iff_not]; intro hh
            have : M.cont8 s[k] = true := by simp only [M.cont8, decide_eq_true_eq]; omega
            rw [hcb] at this; cases this
          clear hj hcb
          go_wp2_with (go_at_call 34; refine (between_any _ _ _ _).mono ?_; rintro e w' ⟨rfl, rfl⟩)
          go_ret2
          rw [H.out]
          exact ⟨_, rfl, fun hh => (by cases hh), Bel.refl _⟩
        | true =>
          have HN := Lib.hid (show (p.take (k + 1 - 1)).all M.cont8 = true by
            rw [show k + 1 - 1 = (k - 1) + 1 by omega, List.take_add_one, hj, List.all_append, hno.out]; simp [hcb])
          have e4 : decide (128 ≤ (s[k].toNat : Int) ∧ (s[k].toNat : Int) ≤ 191) = true := by
            rw [decide_eq_true_eq]
            simp only [M.cont8, decide_eq_true_eq] at hcb
            omega
          clear hj hcb
          go_wp2_with (go_at_call 34; refine (between_any _ _ _ _).mono ?_; rintro e w' ⟨rfl, rfl⟩)
          go_round
          case rel => exact ⟨k + 1, by omega, by omega, by go_num, HN⟩
          case measure => simp [intOf]; omega
      · obtain rfl : k = s.size := by omega
        have hcont : p.all M.cont8 = true := by
          have := hno.out
          rwa [List.take_of_length_le (by have := Hs.out; omega)] at this
        have Hcont := Lib.hid hcont
        clear hno hcont
        by_cases hone : s.size = 1
        · have H := Lib.hid (show M.ok8 c p = true by
            have : p = [] := List.eq_nil_of_length_eq_zero (by have := Hs.out; omega)
            rw [this]; exact M.ok8_one c hne)
          have e5 : ((s.size : Int) == 1) = true := by rw [hone]; rfl
          have hone1 : s.size ≤ 1 := by omega
          clear hone
          go_wp2_with fail
          go_ret2
          rw [H.out]
          exact ⟨_, rfl, fun _ => (by rw [HM.out]; rfl), Bel.refl _⟩
        · have e5 : ((s.size : Int) == 1) = false := by rw [beq_eq_false_iff_ne]; omega
          have hone1 : 2 ≤ s.size := by omega
          have Hacc0 := Lib.hid (show M.acc8 c (p.take (1 - 1)) = n % 32 by rw [M.acc8, HM.out, Hn.out]; rfl)
          clear hone
          go_wp2_with fail
          go_loop [7, 8] (fun v i => ∃ k : Nat, 1 ≤ k ∧ k ≤ s.size ∧ i = .int .i64 k ∧ v = .int .i64 (M.acc8 c (p.take (k - 1)) : Nat)) (fun _ i => s.size - (intOf i).toNat)
          case atStart => exact ⟨1, by omega, by omega, rfl, int_eq (by rw [Hacc0.out]; simp)⟩
          case round =>
            obtain ⟨k, hk1, hk, rfl, rfl⟩ := hrel
            have hA := M.acc8_lt c (p.take (k - 1)) (by rw [List.length_take]; omega)
            by_cases hlt : k < s.size
            · have hbl := s[k].toNat_lt
              have hj : p[k - 1]? = some s[k] := by
                have := Hat.out (k - 1) (by omega)
                simpa [Nat.sub_add_cancel hk1] using this
              have HN := Lib.hid (show M.acc8 c (p.take (k + 1 - 1)) = 64 * M.acc8 c (p.take (k - 1)) + s[k].toNat % 64 by
                rw [show k + 1 - 1 = (k - 1) + 1 by omega]; exact M.acc8_snoc c p (k - 1) s[k] hj)
              clear hj
              generalize M.acc8 c (p.take (k - 1)) = A at hA HN
              go_wp2_with fail
              go_round
              case rel => exact ⟨k + 1, by omega, by omega, by go_num, int_eq (by rw [HN.out]; simp)⟩
              case measure => simp [intOf]; omega
            · obtain rfl : k = s.size := by omega
              have ht : p.take (s.size - 1) = p := List.take_of_length_le (by have := Hs.out; omega)
              rw [ht] at hA
              rw [ht]
              have HF := Lib.hid (show M.ok8 c p = (decide (128 ≤ M.most8 (M.acc8 c p) (2 - s.size)) && decide (M.least8 (M.acc8 c p) (2 - s.size) ≤ 1114111) && !(decide (55296 ≤ M.least8 (M.acc8 c p) (2 - s.size)) && decide (M.most8 (M.acc8 c p) (2 - s.size) ≤ 57343))) by
                rw [← M.fits8_ok c p (by intro hh; have := Hs.out; rw [hh] at this; simp at this; omega) (by have := Hlong.out; omega) Hcont.out, M.fits8, HM.out, Hs.out]; rfl)
              clear ht
              generalize M.acc8 c p = A at hA HF
              go_wp2_with fail
              go_loop [9, 10, 11] (fun l m i => ∃ k : Nat, k ≤ 2 - s.size ∧ i = .int .i64 ((s.size + k : Nat) : Int) ∧ l = .int .i64 (M.least8 A k : Nat) ∧ m = .int .i64 (M.most8 A k : Nat)) (fun _ _ i => 2 - (intOf i).toNat)
              case atStart => exact ⟨0, by omega, rfl, rfl, rfl⟩
              case round =>
                obtain ⟨k, hk, rfl, rfl, rfl⟩ := hrel
                obtain ⟨m1, m2⟩ := M.most8_le A k hA (by omega)
                have m3 := Lib.hid (show M.least8 A (k + 1) = 64 * M.least8 A k from rfl)
                have m4 := Lib.hid (show M.most8 A (k + 1) = 64 * M.most8 A k + 63 from rfl)
                by_cases hlt2 : s.size + k < 2
                · first
                  | (exfalso; omega)
                  | (generalize M.least8 A k = le at m1 m3
                     generalize M.most8 A k = mo at m1 m2 m4
                     go_wp2_with fail
                     go_round
                     case rel => exact ⟨k + 1, by omega, by go_num, int_eq (by rw [m3.out]; simp), int_eq (by rw [m4.out]; simp)⟩
                     case measure => simp [intOf]; try omega)
                · obtain rfl : k = 2 - s.size := by omega
                  generalize M.least8 A (2 - s.size) = le at m1 m3 HF
                  generalize M.most8 A (2 - s.size) = mo at m1 m2 m4 HF
                  have hsum : s.size + (2 - s.size) = 2 := by omega
                  rw [hsum]
                  clear hsum
                  by_cases g1 : 128 ≤ mo <;> by_cases g2 : le ≤ 1114111 <;> by_cases g3 : 55296 ≤ le <;> by_cases g4 : mo ≤ 57343
                  all_goals
                    first
                    | (exfalso; omega)
                    | (go_wp2_with fail
                       go_ret2
                       refine ⟨_, ret_two rfl ?_, fun _ => (by rw [HM.out]; rfl), (by repeat (first | exact Bel.refl _ | refine Bel.drewN ?_ _ | refine Bel.drew ?_ | refine Bel.alloc ?_ _ | refine Bel.trans ?_ (by assumption) | refine Bel.setCell ?_ (by simp; omega) _))⟩
                       rw [HF.out]
                       simp [g1, g2, g3, g4]
                       try omega)
set_option maxHeartbeats 4000000 in
theorem isBegun_3 (s : ByteArray) (c : UInt8) (p : List UInt8) (hs : s.data.toList = c :: p) (hm : M.len8 c.toNat = 3) (w : World) : Calls Try.prog 35 #[.string s] w fun e w' => ∃ a : Int, e = .returned (.tuple #[.int .i64 a, .bool (M.ok8 c p)]) ∧ (M.ok8 c p = true → a = (M.len8 c.toNat : Int)) ∧ Bel w w' := by
  have hge : 224 ≤ c.toNat ∧ c.toNat ≤ 239 := by unfold M.len8 at hm; (repeat' split at hm) <;> omega
  have e1 : decide (194 ≤ (c.toNat : Int) ∧ (c.toNat : Int) ≤ 223) = false := by rw [decide_eq_false_iff_not]; omega
  have e2 : decide (224 ≤ (c.toNat : Int) ∧ (c.toNat : Int) ≤ 239) = true := by rw [decide_eq_true_eq]; omega
  have e3 : True := trivial
  have hsz : s.size = p.length + 1 := by rw [Lib.size_eq, hs]; rfl
  have hpos : 0 < s.size := by omega
  have hc : s[0].toNat = c.toNat := by
    have := byte_at s 0 hpos
    rw [hs] at this
    injection this with this
    rw [← this]
  have hat : ∀ j (hj : j + 1 < s.size), p[j]? = some s[j + 1] := fun j hj => by
    have := byte_at s (j + 1) hj
    rw [hs] at this
    simpa using this
  have hcl := c.toNat_lt
  have HM := Lib.hid hm
  have hne : M.len8 c.toNat ≠ 0 := by rw [hm]; decide
  by_cases hlong : M.len8 c.toNat < p.length + 1
  · have H := Lib.hid (M.ok8_long c p hne hlong)
    have hsz2 : 3 < s.size := by rw [hm] at hlong; omega
    clear hm hne hlong hsz hs hat
    generalize c.toNat = n at hc hcl e1 e2 e3 hge
    go_enter Try.func35, Try.ntmps35
    go_wp2_with (go_at_call 34; refine (between_any _ _ _ _).mono ?_; rintro e w' ⟨rfl, rfl⟩)
    go_ret2
    rw [H.out]
    exact ⟨_, rfl, fun hh => (by cases hh), Bel.refl _⟩
  · have hsz2 : s.size ≤ 3 := by rw [hm] at hlong; omega
    have hsz3 : p.length ≤ 3 := by omega
    have Hs := Lib.hid hsz
    have Hat := Lib.hid hat
    have Hlong := Lib.hid hlong
    clear hm hlong hsz hs hat
    obtain ⟨n, hn⟩ : ∃ n, n = c.toNat := ⟨_, rfl⟩
    have Hn := Lib.hid hn
    rw [← hn] at hc hcl hge
    try rw [← hn] at e1
    try rw [← hn] at e2
    try rw [← hn] at e3
    clear hn
    go_enter Try.func35, Try.ntmps35
    go_wp2_with (go_at_call 34; refine (between_any _ _ _ _).mono ?_; rintro e w' ⟨rfl, rfl⟩)
    go_loop [6] (fun i => ∃ k : Nat, 1 ≤ k ∧ k ≤ s.size ∧ i = .int .i64 k ∧ Hid ((p.take (k - 1)).all M.cont8 = true)) (fun i => s.size - (intOf i).toNat)
    case atStart => exact ⟨1, by omega, by omega, rfl, Lib.hid rfl⟩
    case round =>
      obtain ⟨k, hk1, hk, rfl, hno⟩ := hrel
      by_cases hlt : k < s.size
      · have hbl := s[k].toNat_lt
        have hj : p[k - 1]? = some s[k] := by
          have := Hat.out (k - 1) (by omega)
          simpa [Nat.sub_add_cancel hk1] using this
        cases hcb : M.cont8 s[k] with
        | false =>
          have H := Lib.hid (M.ok8_cont c p (by rw [List.all_eq_false]; exact ⟨_, List.mem_of_getElem? hj, by rw [hcb]; decide⟩))
          have e4 : decide (128 ≤ (s[k].toNat : Int) ∧ (s[k].toNat : Int) ≤ 191) = false := by
            rw [decide_eq_false_iff_not]; intro hh
            have : M.cont8 s[k] = true := by simp only [M.cont8, decide_eq_true_eq]; omega
            rw [hcb] at this; cases this
          clear hj hcb
          go_wp2_with (go_at_call 34; refine (between_any _ _ _ _).mono ?_; rintro e w' ⟨rfl, rfl⟩)
          go_ret2
          rw [H.out]
          exact ⟨_, rfl, fun hh => (by cases hh), Bel.refl _⟩
        | true =>
          have HN := Lib.hid (show (p.take (k + 1 - 1)).all M.cont8 = true by
            rw [show k + 1 - 1 = (k - 1) + 1 by omega, List.take_add_one, hj, List.all_append, hno.out]; simp [hcb])
          have e4 : decide (128 ≤ (s[k].toNat : Int) ∧ (s[k].toNat : Int) ≤ 191) = true := by
            rw [decide_eq_true_eq]
            simp only [M.cont8, decide_eq_true_eq] at hcb
            omega
          clear hj hcb
          go_wp2_with (go_at_call 34; refine (between_any _ _ _ _).mono ?_; rintro e w' ⟨rfl, rfl⟩)
          go_round
          case rel => exact ⟨k + 1, by omega, by omega, by go_num, HN⟩
          case measure => simp [intOf]; omega
      · obtain rfl : k = s.size := by omega
        have hcont : p.all M.cont8 = true := by
          have := hno.out
          rwa [List.take_of_length_le (by have := Hs.out; omega)] at this
        have Hcont := Lib.hid hcont
        clear hno hcont
        by_cases hone : s.size = 1
        · have H := Lib.hid (show M.ok8 c p = true by
            have : p = [] := List.eq_nil_of_length_eq_zero (by have := Hs.out; omega)
            rw [this]; exact M.ok8_one c hne)
          have e5 : ((s.size : Int) == 1) = true := by rw [hone]; rfl
          have hone1 : s.size ≤ 1 := by omega
          clear hone
          go_wp2_with fail
          go_ret2
          rw [H.out]
          exact ⟨_, rfl, fun _ => (by rw [HM.out]; rfl), Bel.refl _⟩
        · have e5 : ((s.size : Int) == 1) = false := by rw [beq_eq_false_iff_ne]; omega
          have hone1 : 2 ≤ s.size := by omega
          have Hacc0 := Lib.hid (show M.acc8 c (p.take (1 - 1)) = n % 16 by rw [M.acc8, HM.out, Hn.out]; rfl)
          clear hone
          go_wp2_with fail
          go_loop [7, 8] (fun v i => ∃ k : Nat, 1 ≤ k ∧ k ≤ s.size ∧ i = .int .i64 k ∧ v = .int .i64 (M.acc8 c (p.take (k - 1)) : Nat)) (fun _ i => s.size - (intOf i).toNat)
          case atStart => exact ⟨1, by omega, by omega, rfl, int_eq (by rw [Hacc0.out]; simp)⟩
          case round =>
            obtain ⟨k, hk1, hk, rfl, rfl⟩ := hrel
            have hA := M.acc8_lt c (p.take (k - 1)) (by rw [List.length_take]; omega)
            by_cases hlt : k < s.size
            · have hbl := s[k].toNat_lt
              have hj : p[k - 1]? = some s[k] := by
                have := Hat.out (k - 1) (by omega)
                simpa [Nat.sub_add_cancel hk1] using this
              have HN := Lib.hid (show M.acc8 c (p.take (k + 1 - 1)) = 64 * M.acc8 c (p.take (k - 1)) + s[k].toNat % 64 by
                rw [show k + 1 - 1 = (k - 1) + 1 by omega]; exact M.acc8_snoc c p (k - 1) s[k] hj)
              clear hj
              generalize M.acc8 c (p.take (k - 1)) = A at hA HN
              go_wp2_with fail
              go_round
              case rel => exact ⟨k + 1, by omega, by omega, by go_num, int_eq (by rw [HN.out]; simp)⟩
              case measure => simp [intOf]; omega
            · obtain rfl : k = s.size := by omega
              have ht : p.take (s.size - 1) = p := List.take_of_length_le (by have := Hs.out; omega)
              rw [ht] at hA
              rw [ht]
              have HF := Lib.hid (show M.ok8 c p = (decide (2048 ≤ M.most8 (M.acc8 c p) (3 - s.size)) && decide (M.least8 (M.acc8 c p) (3 - s.size) ≤ 1114111) && !(decide (55296 ≤ M.least8 (M.acc8 c p) (3 - s.size)) && decide (M.most8 (M.acc8 c p) (3 - s.size) ≤ 57343))) by
                rw [← M.fits8_ok c p (by intro hh; have := Hs.out; rw [hh] at this; simp at this; omega) (by have := Hlong.out; omega) Hcont.out, M.fits8, HM.out, Hs.out]; rfl)
              clear ht
              generalize M.acc8 c p = A at hA HF
              go_wp2_with fail
              go_loop [9, 10, 11] (fun l m i => ∃ k : Nat, k ≤ 3 - s.size ∧ i = .int .i64 ((s.size + k : Nat) : Int) ∧ l = .int .i64 (M.least8 A k : Nat) ∧ m = .int .i64 (M.most8 A k : Nat)) (fun _ _ i => 3 - (intOf i).toNat)
              case atStart => exact ⟨0, by omega, rfl, rfl, rfl⟩
              case round =>
                obtain ⟨k, hk, rfl, rfl, rfl⟩ := hrel
                obtain ⟨m1, m2⟩ := M.most8_le A k hA (by omega)
                have m3 := Lib.hid (show M.least8 A (k + 1) = 64 * M.least8 A k from rfl)
                have m4 := Lib.hid (show M.most8 A (k + 1) = 64 * M.most8 A k + 63 from rfl)
                by_cases hlt2 : s.size + k < 3
                · first
                  | (exfalso; omega)
                  | (generalize M.least8 A k = le at m1 m3
                     generalize M.most8 A k = mo at m1 m2 m4
                     go_wp2_with fail
                     go_round
                     case rel => exact ⟨k + 1, by omega, by go_num, int_eq (by rw [m3.out]; simp), int_eq (by rw [m4.out]; simp)⟩
                     case measure => simp [intOf]; try omega)
                · obtain rfl : k = 3 - s.size := by omega
                  generalize M.least8 A (3 - s.size) = le at m1 m3 HF
                  generalize M.most8 A (3 - s.size) = mo at m1 m2 m4 HF
                  have hsum : s.size + (3 - s.size) = 3 := by omega
                  rw [hsum]
                  clear hsum
                  by_cases g1 : 2048 ≤ mo <;> by_cases g2 : le ≤ 1114111 <;> by_cases g3 : 55296 ≤ le <;> by_cases g4 : mo ≤ 57343
                  all_goals
                    first
                    | (exfalso; omega)
                    | (go_wp2_with fail
                       go_ret2
                       refine ⟨_, ret_two rfl ?_, fun _ => (by rw [HM.out]; rfl), (by repeat (first | exact Bel.refl _ | refine Bel.drewN ?_ _ | refine Bel.drew ?_ | refine Bel.alloc ?_ _ | refine Bel.trans ?_ (by assumption) | refine Bel.setCell ?_ (by simp; omega) _))⟩
                       rw [HF.out]
                       simp [g1, g2, g3, g4]
                       try omega)
set_option maxHeartbeats 4000000 in
theorem isBegun_4 (s : ByteArray) (c : UInt8) (p : List UInt8) (hs : s.data.toList = c :: p) (hm : M.len8 c.toNat = 4) (w : World) : Calls Try.prog 35 #[.string s] w fun e w' => ∃ a : Int, e = .returned (.tuple #[.int .i64 a, .bool (M.ok8 c p)]) ∧ (M.ok8 c p = true → a = (M.len8 c.toNat : Int)) ∧ Bel w w' := by
  have hge : 240 ≤ c.toNat ∧ c.toNat ≤ 244 := by unfold M.len8 at hm; (repeat' split at hm) <;> omega
  have e1 : decide (194 ≤ (c.toNat : Int) ∧ (c.toNat : Int) ≤ 223) = false := by rw [decide_eq_false_iff_not]; omega
  have e2 : decide (224 ≤ (c.toNat : Int) ∧ (c.toNat : Int) ≤ 239) = false := by rw [decide_eq_false_iff_not]; omega
  have e3 : decide (240 ≤ (c.toNat : Int) ∧ (c.toNat : Int) ≤ 244) = true := by rw [decide_eq_true_eq]; omega
  have hsz : s.size = p.length + 1 := by rw [Lib.size_eq, hs]; rfl
  have hpos : 0 < s.size := by omega
  have hc : s[0].toNat = c.toNat := by
    have := byte_at s 0 hpos
    rw [hs] at this
    injection this with this
    rw [← this]
  have hat : ∀ j (hj : j + 1 < s.size), p[j]? = some s[j + 1] := fun j hj => by
    have := byte_at s (j + 1) hj
    rw [hs] at this
    simpa using this
  have hcl := c.toNat_lt
  have HM := Lib.hid hm
  have hne : M.len8 c.toNat ≠ 0 := by rw [hm]; decide
  by_cases hlong : M.len8 c.toNat < p.length + 1
  · have H := Lib.hid (M.ok8_long c p hne hlong)
    have hsz2 : 4 < s.size := by rw [hm] at hlong; omega
    clear hm hne hlong hsz hs hat
    generalize c.toNat = n at hc hcl e1 e2 e3 hge
    go_enter Try.func35, Try.ntmps35
    go_wp2_with (go_at_call 34; refine (between_any _ _ _ _).mono ?_; rintro e w' ⟨rfl, rfl⟩)
    go_ret2
    rw [H.out]
    exact ⟨_, rfl, fun hh => (by cases hh), Bel.refl _⟩
  · have hsz2 : s.size ≤ 4 := by rw [hm] at hlong; omega
    have hsz3 : p.length ≤ 3 := by omega
    have Hs := Lib.hid hsz
    have Hat := Lib.hid hat
    have Hlong := Lib.hid hlong
    clear hm hlong hsz hs hat
    obtain ⟨n, hn⟩ : ∃ n, n = c.toNat := ⟨_, rfl⟩
    have Hn := Lib.hid hn
    rw [← hn] at hc hcl hge
    try rw [← hn] at e1
    try rw [← hn] at e2
    try rw [← hn] at e3
    clear hn
    go_enter Try.func35, Try.ntmps35
    go_wp2_with (go_at_call 34; refine (between_any _ _ _ _).mono ?_; rintro e w' ⟨rfl, rfl⟩)
    go_loop [6] (fun i => ∃ k : Nat, 1 ≤ k ∧ k ≤ s.size ∧ i = .int .i64 k ∧ Hid ((p.take (k - 1)).all M.cont8 = true)) (fun i => s.size - (intOf i).toNat)
    case atStart => exact ⟨1, by omega, by omega, rfl, Lib.hid rfl⟩
    case round =>
      obtain ⟨k, hk1, hk, rfl, hno⟩ := hrel
      by_cases hlt : k < s.size
      · have hbl := s[k].toNat_lt
        have hj : p[k - 1]? = some s[k] := by
          have := Hat.out (k - 1) (by omega)
          simpa [Nat.sub_add_cancel hk1] using this
        cases hcb : M.cont8 s[k] with
        | false =>
          have H := Lib.hid (M.ok8_cont c p (by rw [List.all_eq_false]; exact ⟨_, List.mem_of_getElem? hj, by rw [hcb]; decide⟩))
          have e4 : decide (128 ≤ (s[k].toNat : Int) ∧ (s[k].toNat : Int) ≤ 191) = false := by
            rw [decide_eq_false_iff_not]; intro hh
            have : M.cont8 s[k] = true := by simp only [M.cont8, decide_eq_true_eq]; omega
            rw [hcb] at this; cases this
          clear hj hcb
          go_wp2_with (go_at_call 34; refine (between_any _ _ _ _).mono ?_; rintro e w' ⟨rfl, rfl⟩)
          go_ret2
          rw [H.out]
          exact ⟨_, rfl, fun hh => (by cases hh), Bel.refl _⟩
        | true =>
          have HN := Lib.hid (show (p.take (k + 1 - 1)).all M.cont8 = true by
            rw [show k + 1 - 1 = (k - 1) + 1 by omega, List.take_add_one, hj, List.all_append, hno.out]; simp [hcb])
          have e4 : decide (128 ≤ (s[k].toNat : Int) ∧ (s[k].toNat : Int) ≤ 191) = true := by
            rw [decide_eq_true_eq]
            simp only [M.cont8, decide_eq_true_eq] at hcb
            omega
          clear hj hcb
          go_wp2_with (go_at_call 34; refine (between_any _ _ _ _).mono ?_; rintro e w' ⟨rfl, rfl⟩)
          go_round
          case rel => exact ⟨k + 1, by omega, by omega, by go_num, HN⟩
          case measure => simp [intOf]; omega
      · obtain rfl : k = s.size := by omega
        have hcont : p.all M.cont8 = true := by
          have := hno.out
          rwa [List.take_of_length_le (by have := Hs.out; omega)] at this
        have Hcont := Lib.hid hcont
        clear hno hcont
        by_cases hone : s.size = 1
        · have H := Lib.hid (show M.ok8 c p = true by
            have : p = [] := List.eq_nil_of_length_eq_zero (by have := Hs.out; omega)
            rw [this]; exact M.ok8_one c hne)
          have e5 : ((s.size : Int) == 1) = true := by rw [hone]; rfl
          have hone1 : s.size ≤ 1 := by omega
          clear hone
          go_wp2_with fail
          go_ret2
          rw [H.out]
          exact ⟨_, rfl, fun _ => (by rw [HM.out]; rfl), Bel.refl _⟩
        · have e5 : ((s.size : Int) == 1) = false := by rw [beq_eq_false_iff_ne]; omega
          have hone1 : 2 ≤ s.size := by omega
          have Hacc0 := Lib.hid (show M.acc8 c (p.take (1 - 1)) = n % 8 by rw [M.acc8, HM.out, Hn.out]; rfl)
          clear hone
          go_wp2_with fail
          go_loop [7, 8] (fun v i => ∃ k : Nat, 1 ≤ k ∧ k ≤ s.size ∧ i = .int .i64 k ∧ v = .int .i64 (M.acc8 c (p.take (k - 1)) : Nat)) (fun _ i => s.size - (intOf i).toNat)
          case atStart => exact ⟨1, by omega, by omega, rfl, int_eq (by rw [Hacc0.out]; simp)⟩
          case round =>
            obtain ⟨k, hk1, hk, rfl, rfl⟩ := hrel
            have hA := M.acc8_lt c (p.take (k - 1)) (by rw [List.length_take]; omega)
            by_cases hlt : k < s.size
            · have hbl := s[k].toNat_lt
              have hj : p[k - 1]? = some s[k] := by
                have := Hat.out (k - 1) (by omega)
                simpa [Nat.sub_add_cancel hk1] using this
              have HN := Lib.hid (show M.acc8 c (p.take (k + 1 - 1)) = 64 * M.acc8 c (p.take (k - 1)) + s[k].toNat % 64 by
                rw [show k + 1 - 1 = (k - 1) + 1 by omega]; exact M.acc8_snoc c p (k - 1) s[k] hj)
              clear hj
              generalize M.acc8 c (p.take (k - 1)) = A at hA HN
              go_wp2_with fail
              go_round
              case rel => exact ⟨k + 1, by omega, by omega, by go_num, int_eq (by rw [HN.out]; simp)⟩
              case measure => simp [intOf]; omega
            · obtain rfl : k = s.size := by omega
              have ht : p.take (s.size - 1) = p := List.take_of_length_le (by have := Hs.out; omega)
              rw [ht] at hA
              rw [ht]
              have HF := Lib.hid (show M.ok8 c p = (decide (65536 ≤ M.most8 (M.acc8 c p) (4 - s.size)) && decide (M.least8 (M.acc8 c p) (4 - s.size) ≤ 1114111) && !(decide (55296 ≤ M.least8 (M.acc8 c p) (4 - s.size)) && decide (M.most8 (M.acc8 c p) (4 - s.size) ≤ 57343))) by
                rw [← M.fits8_ok c p (by intro hh; have := Hs.out; rw [hh] at this; simp at this; omega) (by have := Hlong.out; omega) Hcont.out, M.fits8, HM.out, Hs.out]; rfl)
              clear ht
              generalize M.acc8 c p = A at hA HF
              go_wp2_with fail
              go_loop [9, 10, 11] (fun l m i => ∃ k : Nat, k ≤ 4 - s.size ∧ i = .int .i64 ((s.size + k : Nat) : Int) ∧ l = .int .i64 (M.least8 A k : Nat) ∧ m = .int .i64 (M.most8 A k : Nat)) (fun _ _ i => 4 - (intOf i).toNat)
              case atStart => exact ⟨0, by omega, rfl, rfl, rfl⟩
              case round =>
                obtain ⟨k, hk, rfl, rfl, rfl⟩ := hrel
                obtain ⟨m1, m2⟩ := M.most8_le A k hA (by omega)
                have m3 := Lib.hid (show M.least8 A (k + 1) = 64 * M.least8 A k from rfl)
                have m4 := Lib.hid (show M.most8 A (k + 1) = 64 * M.most8 A k + 63 from rfl)
                by_cases hlt2 : s.size + k < 4
                · first
                  | (exfalso; omega)
                  | (generalize M.least8 A k = le at m1 m3
                     generalize M.most8 A k = mo at m1 m2 m4
                     go_wp2_with fail
                     go_round
                     case rel => exact ⟨k + 1, by omega, by go_num, int_eq (by rw [m3.out]; simp), int_eq (by rw [m4.out]; simp)⟩
                     case measure => simp [intOf]; try omega)
                · obtain rfl : k = 4 - s.size := by omega
                  generalize M.least8 A (4 - s.size) = le at m1 m3 HF
                  generalize M.most8 A (4 - s.size) = mo at m1 m2 m4 HF
                  have hsum : s.size + (4 - s.size) = 4 := by omega
                  rw [hsum]
                  clear hsum
                  by_cases g1 : 65536 ≤ mo <;> by_cases g2 : le ≤ 1114111 <;> by_cases g3 : 55296 ≤ le <;> by_cases g4 : mo ≤ 57343
                  all_goals
                    first
                    | (exfalso; omega)
                    | (go_wp2_with fail
                       go_ret2
                       refine ⟨_, ret_two rfl ?_, fun _ => (by rw [HM.out]; rfl), (by repeat (first | exact Bel.refl _ | refine Bel.drewN ?_ _ | refine Bel.drew ?_ | refine Bel.alloc ?_ _ | refine Bel.trans ?_ (by assumption) | refine Bel.setCell ?_ (by simp; omega) _))⟩
                       rw [HF.out]
                       simp [g1, g2, g3, g4]
                       try omega)
/-- Whether a row begins a scalar's; and then how many it has in all. -/
theorem isBegun_any (s : ByteArray) (c : UInt8) (p : List UInt8) (hs : s.data.toList = c :: p) (w : World) : Calls Try.prog 35 #[.string s] w fun e w' => ∃ a : Int, e = .returned (.tuple #[.int .i64 a, .bool (M.ok8 c p)]) ∧ (M.ok8 c p = true → a = (M.lead8 c.toNat).1 + 1) ∧ Bel w w' := by
  have hlast : ∀ k : Nat, M.len8 c.toNat = k → k ≠ 0 → ∀ (w : World), (Calls Try.prog 35 #[.string s] w fun e w' => ∃ a : Int, e = .returned (.tuple #[.int .i64 a, .bool (M.ok8 c p)]) ∧ (M.ok8 c p = true → a = (M.len8 c.toNat : Int)) ∧ Bel w w') → Calls Try.prog 35 #[.string s] w fun e w' => ∃ a : Int, e = .returned (.tuple #[.int .i64 a, .bool (M.ok8 c p)]) ∧ (M.ok8 c p = true → a = (M.lead8 c.toNat).1 + 1) ∧ Bel w w' := fun k hk hk0 w h => by
    refine h.mono ?_
    rintro e w' ⟨a, h1, h2, h3⟩
    exact ⟨a, h1, (fun hh => by rw [h2 hh, M.lead8_len _ (by omega)]; omega), h3⟩
  by_cases hl : c.toNat < 128
  · refine (isBegun_low s c p hs hl w).mono ?_
    rintro e w' ⟨rfl, rfl⟩
    exact ⟨1, by rw [M.ok8_low c p hl], (fun _ => by rw [M.lead8, if_pos hl]; rfl), Bel.refl _⟩
  · have hle := M.len8_le c.toNat
    rcases (show M.len8 c.toNat = 0 ∨ M.len8 c.toNat = 2 ∨ M.len8 c.toNat = 3 ∨ M.len8 c.toNat = 4 by
      unfold M.len8; (repeat' split) <;> simp) with h | h | h | h
    · refine (isBegun_none s c p hs (by omega) h w).mono ?_
      rintro e w' ⟨rfl, rfl⟩
      exact ⟨0, by rw [M.ok8_none c p (by omega) h], (fun hh => by rw [M.ok8_none c p (by omega) h] at hh; cases hh), Bel.refl _⟩
    · exact hlast _ h (by decide) w (isBegun_2 s c p hs h w)
    · exact hlast _ h (by decide) w (isBegun_3 s c p hs h w)
    · exact hlast _ h (by decide) w (isBegun_4 s c p hs h w)
end Go.Proofs.Ythjafhoahhdlnaa

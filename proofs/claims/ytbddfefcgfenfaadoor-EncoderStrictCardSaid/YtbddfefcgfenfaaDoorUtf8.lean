/-
  Package utf8: what lead, first, Told, All, Decode compute.
-/
import Derived.Test.YtbddfefcgfenfaaDoorBase4
import Derived.Test.YtbddfefcgfenfaaDoorBits
import Derived.Test.YtbddfefcgfenfaaDoorPlainUtf8
namespace Go.Proofs.YtbddfefcgfenfaaDoor
open Go.RowKit
set_option maxRecDepth 100000

theorem results_tmp4 {fn : Func} {t u v x : Tmp} (h : fn.results = #[.tmp t, .tmp u, .tmp v, .tmp x]) (tmps : Array Value) (P : Program) (w : World) :
    (results fn tmps).run P w = .ok (.tuple #[tmps.getD t undef, tmps.getD u undef, tmps.getD v undef, tmps.getD x undef]) w := by simp [results, h]

theorem lead_any (c : Nat) (hc : c < 256) (w : World) : Calls Tryd.prog 191 #[.int .u8 (c : Int)] w fun e w' => e = .returned (.tuple #[.int .i64 (M.lead8 c).1, .int .i64 (M.lead8 c).2.1, .int .u8 (M.lead8 c).2.2.1, .int .u8 (M.lead8 c).2.2.2]) ∧ w = w' := by
  by_cases h0 : c < 128
  · have H := Lib.hid (show M.lead8 c = (0, (c : Int), 0, 0) by rw [M.lead8, if_pos h0])
    go_enter Tryd.func191, Tryd.ntmps191
    go_wp2
    refine bodyPost_ret (results_tmp4 rfl _ _ _) rfl ?_
    rw [H.out]
    exact ⟨rfl, rfl⟩
  · skip
    by_cases h1 : c < 194 ∨ 244 < c
    · have H := Lib.hid (show M.lead8 c = (-1, 0, 0, 0) by rw [M.lead8, if_neg h0, if_pos h1])
      rcases h1 with h1 | h1
      all_goals
        go_enter Tryd.func191, Tryd.ntmps191
        go_wp2
        refine bodyPost_ret (results_tmp4 rfl _ _ _) rfl ?_
        rw [H.out]
        exact ⟨rfl, rfl⟩
    · skip
      by_cases h2 : c < 224
      · have H := Lib.hid (show M.lead8 c = (1, (c : Int) % 32, 128, 191) by rw [M.lead8, if_neg h0, if_neg h1, if_pos h2])
        go_enter Tryd.func191, Tryd.ntmps191
        go_wp2
        refine bodyPost_ret (results_tmp4 rfl _ _ _) rfl ?_
        rw [H.out]
        exact ⟨rfl, rfl⟩
      · skip
        by_cases h3 : c = 224
        · have H := Lib.hid (show M.lead8 c = (2, 0, 160, 191) by rw [M.lead8, if_neg h0, if_neg h1, if_neg h2, if_pos h3])
          have e3 : ((c : Int) == 224) = true := by rw [beq_iff_eq]; omega
          clear h3
          go_enter Tryd.func191, Tryd.ntmps191
          go_wp2
          refine bodyPost_ret (results_tmp4 rfl _ _ _) rfl ?_
          rw [H.out]
          exact ⟨rfl, rfl⟩
        · skip
          have e3 : ((c : Int) == 224) = false := by rw [beq_eq_false_iff_ne]; omega
          by_cases h4 : c = 237
          · have H := Lib.hid (show M.lead8 c = (2, 13, 128, 159) by rw [M.lead8, if_neg h0, if_neg h1, if_neg h2, if_neg h3, if_pos h4])
            have e4 : ((c : Int) == 237) = true := by rw [beq_iff_eq]; omega
            clear h4
            go_enter Tryd.func191, Tryd.ntmps191
            go_wp2
            refine bodyPost_ret (results_tmp4 rfl _ _ _) rfl ?_
            rw [H.out]
            exact ⟨rfl, rfl⟩
          · skip
            have e4 : ((c : Int) == 237) = false := by rw [beq_eq_false_iff_ne]; omega
            by_cases h5 : c < 240
            · have H := Lib.hid (show M.lead8 c = (2, (c : Int) % 16, 128, 191) by rw [M.lead8, if_neg h0, if_neg h1, if_neg h2, if_neg h3, if_neg h4, if_pos h5])
              go_enter Tryd.func191, Tryd.ntmps191
              go_wp2
              refine bodyPost_ret (results_tmp4 rfl _ _ _) rfl ?_
              rw [H.out]
              exact ⟨rfl, rfl⟩
            · skip
              by_cases h6 : c = 240
              · have H := Lib.hid (show M.lead8 c = (3, 0, 144, 191) by rw [M.lead8, if_neg h0, if_neg h1, if_neg h2, if_neg h3, if_neg h4, if_neg h5, if_pos h6])
                have e6 : ((c : Int) == 240) = true := by rw [beq_iff_eq]; omega
                clear h6
                go_enter Tryd.func191, Tryd.ntmps191
                go_wp2
                refine bodyPost_ret (results_tmp4 rfl _ _ _) rfl ?_
                rw [H.out]
                exact ⟨rfl, rfl⟩
              · skip
                have e6 : ((c : Int) == 240) = false := by rw [beq_eq_false_iff_ne]; omega
                by_cases h7 : c = 244
                · have H := Lib.hid (show M.lead8 c = (3, 4, 128, 143) by rw [M.lead8, if_neg h0, if_neg h1, if_neg h2, if_neg h3, if_neg h4, if_neg h5, if_neg h6, if_pos h7])
                  have e7 : ((c : Int) == 244) = true := by rw [beq_iff_eq]; omega
                  clear h7
                  go_enter Tryd.func191, Tryd.ntmps191
                  go_wp2
                  refine bodyPost_ret (results_tmp4 rfl _ _ _) rfl ?_
                  rw [H.out]
                  exact ⟨rfl, rfl⟩
                · skip
                  have e7 : ((c : Int) == 244) = false := by rw [beq_eq_false_iff_ne]; omega
                  have H := Lib.hid (show M.lead8 c = (3, (c : Int) % 8, 128, 191) by rw [M.lead8, if_neg h0, if_neg h1, if_neg h2, if_neg h3, if_neg h4, if_neg h5, if_neg h6, if_neg h7])
                  go_enter Tryd.func191, Tryd.ntmps191
                  go_wp2
                  refine bodyPost_ret (results_tmp4 rfl _ _ _) rfl ?_
                  rw [H.out]
                  exact ⟨rfl, rfl⟩
theorem lead_to (c : Nat) (hc : c < 256) (m n lo hi : Int) (h : M.lead8 c = (m, n, lo, hi)) (w : World) : Calls Tryd.prog 191 #[.int .u8 (c : Int)] w fun e w' => e = .returned (.tuple #[.int .i64 m, .int .i64 n, .int .u8 lo, .int .u8 hi]) ∧ w = w' := by
  have := lead_any c hc w; rw [h] at this; exact this
theorem first_any (s : ByteArray) (hs : 0 < s.size) (hs2 : s.size ≤ 68719476735) (w : World) : Calls Tryd.prog 172 #[.string s] w fun e w' => e = .returned (.tuple #[.int .i64 (M.first8 s.data.toList).1, .int .i64 (M.first8 s.data.toList).2.1, .bool (M.first8 s.data.toList).2.2]) ∧ w = w' := by
  have hz := Lib.hid (Lib.size_eq s)
  obtain ⟨⟨m, n, lo, hi⟩, hl⟩ : ∃ r, M.lead8 s[0].toNat = r := ⟨_, rfl⟩
  have hcons : s.data.toList = s[0] :: s.data.toList.drop 1 := by
    have h0 : 0 < s.data.toList.length := by rw [← Lib.size_eq]; exact hs
    have := List.drop_eq_getElem_cons h0
    rw [List.drop_zero] at this
    exact this
  have hf : M.first8 s.data.toList = if m < 0 then (65533, 1, true) else M.go8 m.toNat (s.data.toList.drop 1) 1 n lo hi := by
    rw [hcons, M.first8, hl]; simp
  have hbd := M.lead8_bounds s[0].toNat
  rw [hl] at hbd
  have Hl := Lib.hid hl
  clear hl hcons
  have hcb : s[0].toNat < 256 := s[0].toNat_lt
  rcases hbd with hm | ⟨hm0, hm3, hn0, hn1, hlo0, hlo1, hhi0, hhi1⟩
  · have hm' : m = -1 := hm
    subst hm'
    have HF := Lib.hid (show M.first8 s.data.toList = (65533, 1, true) by rw [hf, if_pos (by decide)])
    clear hf
    go_enter Tryd.func172, Tryd.ntmps172
    go_wp2_with (go_at_call 191; refine (lead_to _ hcb _ _ _ _ Hl.out _).mono ?_; rintro e w' ⟨rfl, rfl⟩)
    go_ret3
    rw [HF.out]
    exact ⟨rfl, rfl⟩
  · obtain ⟨mm, rfl⟩ := Int.eq_ofNat_of_zero_le hm0
    rw [if_neg (by omega), Int.toNat_natCast] at hf
    have HF := Lib.hid hf
    clear hf
    go_enter Tryd.func172, Tryd.ntmps172
    go_wp2_with (go_at_call 191; refine (lead_to _ hcb _ _ _ _ Hl.out _).mono ?_; rintro e w' ⟨rfl, rfl⟩)
    go_loop [6, 7, 8, 9] (fun vn vlo vhi vi => ∃ (k d : Nat) (n lo hi : Int), 1 ≤ k ∧ k + d = mm + 1 ∧ k ≤ s.size ∧ vi = .int .i64 k ∧ vn = .int .i64 n ∧ vlo = .int .u8 lo ∧ vhi = .int .u8 hi ∧ 0 ≤ n ∧ (n + 1) * 64 ^ d ≤ 33554432 ∧ Hid (M.first8 s.data.toList = M.go8 d (s.data.toList.drop k) k n lo hi)) (fun _ _ _ i => 5 - (intOf i).toNat)
    case atStart =>
      refine ⟨1, mm, n, lo, hi, by omega, by omega, by omega, rfl, rfl, rfl, rfl, hn0, ?_, HF⟩
      have : mm = 0 ∨ mm = 1 ∨ mm = 2 ∨ mm = 3 := by omega
      rcases this with rfl | rfl | rfl | rfl <;> omega
    case round =>
      obtain ⟨k, d, n, lo, hi, hk1, hkd, hks, rfl, rfl, rfl, rfl, hn0, hnd, HG⟩ := hrel
      have hk5 : k ≤ 4 := by omega
      have HZ := hz
      cases d with
      | zero =>
        have hk : mm + 1 = k := by omega
        have g1 : (mm : Int) < (k : Int) := by omega
        have g2 : (mm : Int) + 1 = (k : Int) := by omega
        have G2 := Lib.hid g2
        clear hk g2 hkd
        go_wp2_with fail
        go_ret3
        rw [HG.out, M.go8]
        refine ⟨?_, rfl⟩
        rw [← G2.out]
        rfl
      | succ d =>
        have hkm : (k : Int) ≤ (mm : Int) := by omega
        have hn2 : n ≤ 33554431 := by
          have h1 : 1 ≤ 64 ^ (d + 1) := Nat.pow_pos (by decide)
          have h2 : (n + 1) * 1 ≤ (n + 1) * 64 ^ (d + 1) := Int.mul_le_mul_of_nonneg_left (by exact_mod_cast h1) (by omega)
          omega
        by_cases he : k = s.size
        · have HD := Lib.hid (show M.first8 s.data.toList = (65533, (k : Int), false) by
            rw [HG.out, List.drop_of_length_le (by rw [← Lib.size_eq]; omega), M.go8])
          have e1 : ((k : Int) == (s.size : Int)) = true := by rw [beq_iff_eq]; omega
          clear he hnd hkd
          go_wp2_with fail
          go_ret3
          rw [HD.out]
          exact ⟨rfl, rfl⟩
        · have hlt : k < s.size := by omega
          have e1 : ((k : Int) == (s.size : Int)) = false := by rw [beq_eq_false_iff_ne]; omega
          have hdrop : s.data.toList.drop k = s[k] :: s.data.toList.drop (k + 1) := by
            exact List.drop_eq_getElem_cons (by rw [← Lib.size_eq]; exact hlt)
          by_cases h1 : (s[k].toNat : Int) < lo
          · have HD := Lib.hid (show M.first8 s.data.toList = (65533, (k : Int), true) by
              rw [HG.out, hdrop, M.go8, if_pos (.inl h1)])
            clear he hnd hkd hdrop
            go_wp2_with fail
            go_ret3
            rw [HD.out]
            exact ⟨rfl, rfl⟩
          · by_cases h2 : hi < (s[k].toNat : Int)
            · have HD := Lib.hid (show M.first8 s.data.toList = (65533, (k : Int), true) by
                rw [HG.out, hdrop, M.go8, if_pos (.inr h2)])
              clear he hnd hkd hdrop
              go_wp2_with fail
              go_ret3
              rw [HD.out]
              exact ⟨rfl, rfl⟩
            · have HD := Lib.hid (show M.first8 s.data.toList = M.go8 d (s.data.toList.drop (k + 1)) ((k : Int) + 1) (n * 64 + (s[k].toNat : Int) % 64) 128 191 by
                rw [HG.out, hdrop, M.go8, if_neg (by omega)])
              have HK := Lib.hid (show (n * 64 + (s[k].toNat : Int) % 64 + 1) * 64 ^ d ≤ 33554432 by
                have h3 : (n * 64 + (s[k].toNat : Int) % 64 + 1) ≤ (n + 1) * 64 := by omega
                have h4 : (n * 64 + (s[k].toNat : Int) % 64 + 1) * 64 ^ d ≤ (n + 1) * 64 * 64 ^ d := Int.mul_le_mul_of_nonneg_right h3 (Int.pow_nonneg (by decide))
                have h5 : (n + 1) * 64 * 64 ^ d = (n + 1) * 64 ^ (d + 1) := by rw [Int.pow_succ, Int.mul_assoc, Int.mul_comm (64 : Int)]
                omega)
              have HKD := Lib.hid hkd
              have b0 : (0 : Int) ≤ (s[k].toNat : Int) := by omega
              have b1 : (s[k].toNat : Int) ≤ 255 := by have := s[k].toNat_lt; omega
              have hor := or_64 n ((s[k].toNat : Int) % 64) hn0 hn2 (by omega) (by omega)
              have HN : 0 ≤ n * 64 + (s[k].toNat : Int) % 64 := by omega
              clear he hnd hkd hdrop
              go_wp2_with fail
              go_round
              case rel => exact ⟨k + 1, d, _, _, _, by omega, by have := HKD.out; omega, by omega, by go_num, rfl, rfl, rfl, HN, HK.out, HD⟩
              case measure => simp [intOf]; omega
end Go.Proofs.YtbddfefcgfenfaaDoor

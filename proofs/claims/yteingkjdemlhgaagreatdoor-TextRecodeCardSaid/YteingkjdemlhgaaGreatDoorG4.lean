/-
  Texts of the proof, laid together: Utf8, Utf8b, Utf16, Utf8c, Utf16b, Single, Kana, Kana2, Kana3, Stream, Stream2, PlainWait, Stream3, Stream4. No condition of its own.
-/
import Derived.Test.YteingkjdemlhgaaGreatDoorG1
import Derived.Test.YteingkjdemlhgaaGreatDoorG3
import Derived.Maps.OwnSet
import Derived.RegionTactic
import Derived.BigRegion

/-
  Package utf8: what lead, first, Told, All, Decode compute.
-/
namespace Go.Proofs.YteingkjdemlhgaaGreatDoor
open Go.RowKit
set_option maxRecDepth 100000
theorem results_tmp4 {fn : Func} {t u v x : Tmp} (h : fn.results = #[.tmp t, .tmp u, .tmp v, .tmp x]) (tmps : Array Value) (P : Program) (w : World) :
    (results fn tmps).run P w = .ok (.tuple #[tmps.getD t undef, tmps.getD u undef, tmps.getD v undef, tmps.getD x undef]) w := by simp [results, h]
theorem lead_any (c : Nat) (hc : c < 256) (w : World) : Calls Tryz.prog 181 #[.int .u8 (c : Int)] w fun e w' => e = .returned (.tuple #[.int .i64 (M.lead8 c).1, .int .i64 (M.lead8 c).2.1, .int .u8 (M.lead8 c).2.2.1, .int .u8 (M.lead8 c).2.2.2]) ∧ w = w' := by
  by_cases h0 : c < 128
  · have H := Lib.hid (show M.lead8 c = (0, (c : Int), 0, 0) by rw [M.lead8, if_pos h0])
    go_enter Tryz.func181, Tryz.ntmps181
    go_wp2
    refine bodyPost_ret (results_tmp4 rfl _ _ _) rfl ?_
    rw [H.out]
    exact ⟨rfl, rfl⟩
  · skip
    by_cases h1 : c < 194 ∨ 244 < c
    · have H := Lib.hid (show M.lead8 c = (-1, 0, 0, 0) by rw [M.lead8, if_neg h0, if_pos h1])
      rcases h1 with h1 | h1
      all_goals
        go_enter Tryz.func181, Tryz.ntmps181
        go_wp2
        refine bodyPost_ret (results_tmp4 rfl _ _ _) rfl ?_
        rw [H.out]
        exact ⟨rfl, rfl⟩
    · skip
      by_cases h2 : c < 224
      · have H := Lib.hid (show M.lead8 c = (1, (c : Int) % 32, 128, 191) by rw [M.lead8, if_neg h0, if_neg h1, if_pos h2])
        go_enter Tryz.func181, Tryz.ntmps181
        go_wp2
        refine bodyPost_ret (results_tmp4 rfl _ _ _) rfl ?_
        rw [H.out]
        exact ⟨rfl, rfl⟩
      · skip
        by_cases h3 : c = 224
        · have H := Lib.hid (show M.lead8 c = (2, 0, 160, 191) by rw [M.lead8, if_neg h0, if_neg h1, if_neg h2, if_pos h3])
          have e3 : ((c : Int) == 224) = true := by rw [beq_iff_eq]; omega
          clear h3
          go_enter Tryz.func181, Tryz.ntmps181
          go_wp2
          refine bodyPost_ret (results_tmp4 rfl _ _ _) rfl ?_
          rw [H.out]
          exact ⟨rfl, rfl⟩
        · skip
          have e3 : ((c : Int) == 224) = false := by rw [beq_eq_false_iff_ne]; omega
          by_cases h4 : c = 237
          · have H := Lib.hid (show M.lead8 c = (2, 13, 128, 159) by rw [M.lead8, if_neg h0, if_neg h1, if_neg h2, if_neg h3, if_pos h4])
            have e4 : ((c : Int) == 237) = true := by rw [beq_iff_eq]; omega
            clear h4
            go_enter Tryz.func181, Tryz.ntmps181
            go_wp2
            refine bodyPost_ret (results_tmp4 rfl _ _ _) rfl ?_
            rw [H.out]
            exact ⟨rfl, rfl⟩
          · skip
            have e4 : ((c : Int) == 237) = false := by rw [beq_eq_false_iff_ne]; omega
            by_cases h5 : c < 240
            · have H := Lib.hid (show M.lead8 c = (2, (c : Int) % 16, 128, 191) by rw [M.lead8, if_neg h0, if_neg h1, if_neg h2, if_neg h3, if_neg h4, if_pos h5])
              go_enter Tryz.func181, Tryz.ntmps181
              go_wp2
              refine bodyPost_ret (results_tmp4 rfl _ _ _) rfl ?_
              rw [H.out]
              exact ⟨rfl, rfl⟩
            · skip
              by_cases h6 : c = 240
              · have H := Lib.hid (show M.lead8 c = (3, 0, 144, 191) by rw [M.lead8, if_neg h0, if_neg h1, if_neg h2, if_neg h3, if_neg h4, if_neg h5, if_pos h6])
                have e6 : ((c : Int) == 240) = true := by rw [beq_iff_eq]; omega
                clear h6
                go_enter Tryz.func181, Tryz.ntmps181
                go_wp2
                refine bodyPost_ret (results_tmp4 rfl _ _ _) rfl ?_
                rw [H.out]
                exact ⟨rfl, rfl⟩
              · skip
                have e6 : ((c : Int) == 240) = false := by rw [beq_eq_false_iff_ne]; omega
                by_cases h7 : c = 244
                · have H := Lib.hid (show M.lead8 c = (3, 4, 128, 143) by rw [M.lead8, if_neg h0, if_neg h1, if_neg h2, if_neg h3, if_neg h4, if_neg h5, if_neg h6, if_pos h7])
                  have e7 : ((c : Int) == 244) = true := by rw [beq_iff_eq]; omega
                  clear h7
                  go_enter Tryz.func181, Tryz.ntmps181
                  go_wp2
                  refine bodyPost_ret (results_tmp4 rfl _ _ _) rfl ?_
                  rw [H.out]
                  exact ⟨rfl, rfl⟩
                · skip
                  have e7 : ((c : Int) == 244) = false := by rw [beq_eq_false_iff_ne]; omega
                  have H := Lib.hid (show M.lead8 c = (3, (c : Int) % 8, 128, 191) by rw [M.lead8, if_neg h0, if_neg h1, if_neg h2, if_neg h3, if_neg h4, if_neg h5, if_neg h6, if_neg h7])
                  go_enter Tryz.func181, Tryz.ntmps181
                  go_wp2
                  refine bodyPost_ret (results_tmp4 rfl _ _ _) rfl ?_
                  rw [H.out]
                  exact ⟨rfl, rfl⟩
theorem lead_to (c : Nat) (hc : c < 256) (m n lo hi : Int) (h : M.lead8 c = (m, n, lo, hi)) (w : World) : Calls Tryz.prog 181 #[.int .u8 (c : Int)] w fun e w' => e = .returned (.tuple #[.int .i64 m, .int .i64 n, .int .u8 lo, .int .u8 hi]) ∧ w = w' := by
  have := lead_any c hc w; rw [h] at this; exact this
theorem first_any (s : ByteArray) (hs : 0 < s.size) (hs2 : s.size ≤ 68719476735) (w : World) : Calls Tryz.prog 157 #[.string s] w fun e w' => e = .returned (.tuple #[.int .i64 (M.first8 s.data.toList).1, .int .i64 (M.first8 s.data.toList).2.1, .bool (M.first8 s.data.toList).2.2]) ∧ w = w' := by
  have hz := Lib.hid (Lib.size_eq s)
  obtain ⟨⟨m, n, lo, hi⟩, hl⟩ : ∃ r, M.lead8 s[0].toNat = r := ⟨_, rfl⟩
  have hcons : s.data.toList = s[0] :: s.data.toList.drop 1 := by
    have h0 : 0 < s.data.toList.length := by rw [← Lib.size_eq]; exact hs
    have := List.drop_eq_getElem_cons h0
    rw [List.drop_zero] at this
    exact this
  have hf : M.first8 s.data.toList = if m < 0 then (65533, 1, true) else M.go8 m.toNat (s.data.toList.drop 1) 1 n lo hi := by
    rw [hcons, M.first8, hl]; simp
  have hbd := M.lead8_bounds s[0].toNat
  rw [hl] at hbd
  have Hl := Lib.hid hl
  clear hl hcons
  have hcb : s[0].toNat < 256 := s[0].toNat_lt
  rcases hbd with hm | ⟨hm0, hm3, hn0, hn1, hlo0, hlo1, hhi0, hhi1⟩
  · have hm' : m = -1 := hm
    subst hm'
    have HF := Lib.hid (show M.first8 s.data.toList = (65533, 1, true) by rw [hf, if_pos (by decide)])
    clear hf
    go_enter Tryz.func157, Tryz.ntmps157
    go_wp2_with (go_at_call 181; refine (lead_to _ hcb _ _ _ _ Hl.out _).mono ?_; rintro e w' ⟨rfl, rfl⟩)
    go_ret3
    rw [HF.out]
    exact ⟨rfl, rfl⟩
  · obtain ⟨mm, rfl⟩ := Int.eq_ofNat_of_zero_le hm0
    rw [if_neg (by omega), Int.toNat_natCast] at hf
    have HF := Lib.hid hf
    clear hf
    go_enter Tryz.func157, Tryz.ntmps157
    go_wp2_with (go_at_call 181; refine (lead_to _ hcb _ _ _ _ Hl.out _).mono ?_; rintro e w' ⟨rfl, rfl⟩)
    go_loop [6, 7, 8, 9] (fun vn vlo vhi vi => ∃ (k d : Nat) (n lo hi : Int), 1 ≤ k ∧ k + d = mm + 1 ∧ k ≤ s.size ∧ vi = .int .i64 k ∧ vn = .int .i64 n ∧ vlo = .int .u8 lo ∧ vhi = .int .u8 hi ∧ 0 ≤ n ∧ (n + 1) * 64 ^ d ≤ 33554432 ∧ Hid (M.first8 s.data.toList = M.go8 d (s.data.toList.drop k) k n lo hi)) (fun _ _ _ i => 5 - (intOf i).toNat)
    case atStart =>
      refine ⟨1, mm, n, lo, hi, by omega, by omega, by omega, rfl, rfl, rfl, rfl, hn0, ?_, HF⟩
      have : mm = 0 ∨ mm = 1 ∨ mm = 2 ∨ mm = 3 := by omega
      rcases this with rfl | rfl | rfl | rfl <;> omega
    case round =>
      obtain ⟨k, d, n, lo, hi, hk1, hkd, hks, rfl, rfl, rfl, rfl, hn0, hnd, HG⟩ := hrel
      have hk5 : k ≤ 4 := by omega
      have HZ := hz
      cases d with
      | zero =>
        have hk : mm + 1 = k := by omega
        have g1 : (mm : Int) < (k : Int) := by omega
        have g2 : (mm : Int) + 1 = (k : Int) := by omega
        have G2 := Lib.hid g2
        clear hk g2 hkd
        go_wp2_with fail
        go_ret3
        rw [HG.out, M.go8]
        refine ⟨?_, rfl⟩
        rw [← G2.out]
        rfl
      | succ d =>
        have hkm : (k : Int) ≤ (mm : Int) := by omega
        have hn2 : n ≤ 33554431 := by
          have h1 : 1 ≤ 64 ^ (d + 1) := Nat.pow_pos (by decide)
          have h2 : (n + 1) * 1 ≤ (n + 1) * 64 ^ (d + 1) := Int.mul_le_mul_of_nonneg_left (by exact_mod_cast h1) (by omega)
          omega
        by_cases he : k = s.size
        · have HD := Lib.hid (show M.first8 s.data.toList = (65533, (k : Int), false) by
            rw [HG.out, List.drop_of_length_le (by rw [← Lib.size_eq]; omega), M.go8])
          have e1 : ((k : Int) == (s.size : Int)) = true := by rw [beq_iff_eq]; omega
          clear he hnd hkd
          go_wp2_with fail
          go_ret3
          rw [HD.out]
          exact ⟨rfl, rfl⟩
        · have hlt : k < s.size := by omega
          have e1 : ((k : Int) == (s.size : Int)) = false := by rw [beq_eq_false_iff_ne]; omega
          have hdrop : s.data.toList.drop k = s[k] :: s.data.toList.drop (k + 1) := by
            exact List.drop_eq_getElem_cons (by rw [← Lib.size_eq]; exact hlt)
          by_cases h1 : (s[k].toNat : Int) < lo
          · have HD := Lib.hid (show M.first8 s.data.toList = (65533, (k : Int), true) by
              rw [HG.out, hdrop, M.go8, if_pos (.inl h1)])
            clear he hnd hkd hdrop
            go_wp2_with fail
            go_ret3
            rw [HD.out]
            exact ⟨rfl, rfl⟩
          · by_cases h2 : hi < (s[k].toNat : Int)
            · have HD := Lib.hid (show M.first8 s.data.toList = (65533, (k : Int), true) by
                rw [HG.out, hdrop, M.go8, if_pos (.inr h2)])
              clear he hnd hkd hdrop
              go_wp2_with fail
              go_ret3
              rw [HD.out]
              exact ⟨rfl, rfl⟩
            · have HD := Lib.hid (show M.first8 s.data.toList = M.go8 d (s.data.toList.drop (k + 1)) ((k : Int) + 1) (n * 64 + (s[k].toNat : Int) % 64) 128 191 by
                rw [HG.out, hdrop, M.go8, if_neg (by omega)])
              have HK := Lib.hid (show (n * 64 + (s[k].toNat : Int) % 64 + 1) * 64 ^ d ≤ 33554432 by
                have h3 : (n * 64 + (s[k].toNat : Int) % 64 + 1) ≤ (n + 1) * 64 := by omega
                have h4 : (n * 64 + (s[k].toNat : Int) % 64 + 1) * 64 ^ d ≤ (n + 1) * 64 * 64 ^ d := Int.mul_le_mul_of_nonneg_right h3 (Int.pow_nonneg (by decide))
                have h5 : (n + 1) * 64 * 64 ^ d = (n + 1) * 64 ^ (d + 1) := by rw [Int.pow_succ, Int.mul_assoc, Int.mul_comm (64 : Int)]
                omega)
              have HKD := Lib.hid hkd
              have b0 : (0 : Int) ≤ (s[k].toNat : Int) := by omega
              have b1 : (s[k].toNat : Int) ≤ 255 := by have := s[k].toNat_lt; omega
              have hor := or_64 n ((s[k].toNat : Int) % 64) hn0 hn2 (by omega) (by omega)
              have HN : 0 ≤ n * 64 + (s[k].toNat : Int) % 64 := by omega
              clear he hnd hkd hdrop
              go_wp2_with fail
              go_round
              case rel => exact ⟨k + 1, d, _, _, _, by omega, by have := HKD.out; omega, by omega, by go_num, rfl, rfl, rfl, HN, HK.out, HD⟩
              case measure => simp [intOf]; omega
end Go.Proofs.YteingkjdemlhgaaGreatDoor

/-
  Package utf8: what Told, All, Decode, Split compute.
-/
namespace Go.Proofs.YteingkjdemlhgaaGreatDoor
open Go.RowKit
set_option maxRecDepth 100000
theorem first_to (s : ByteArray) (n k : Int) (b : Bool) (h : M.first8 s.data.toList = (n, k, b)) (hs : 0 < s.size) (hs2 : s.size ≤ 68719476735) (w : World) : Calls Tryz.prog 157 #[.string s] w fun e w' => e = .returned (.tuple #[.int .i64 n, .int .i64 k, .bool b]) ∧ w = w' := by
  have := first_any s hs hs2 w; rw [h] at this; exact this
theorem told8_any (s : ByteArray) (hs : s.size ≤ 68719476735) (w : World) : Calls Tryz.prog 135 #[.string s] w fun e w' => ∃ v, e = .returned (.tuple #[v, .string ⟨(M.told8 s.data.toList).2.toArray⟩]) ∧ Own w.heap.size 3 w' v ((M.told8 s.data.toList).1.map (Value.int .i64)) ∧ Bel w w' := by
  go_enter Tryz.func135, Tryz.ntmps135
  go_wp2_with fail
  go_loopw [0, 4] (fun vs v wr => ∃ (s' : ByteArray) (xs : List Int), vs = .string s' ∧ xs.length + s'.size ≤ s.size ∧ Hid (M.told8 s.data.toList = (xs ++ (M.told8 s'.data.toList).1, (M.told8 s'.data.toList).2)) ∧ Own w.heap.size 3 wr v (xs.map (Value.int .i64)) ∧ Bel w wr) (fun vs _ _ => strLen vs)
  case atStart => exact ⟨s, [], rfl, by simp, Lib.hid (by simp), Own.nil _ _ _, Bel.refl _⟩
  case round =>
    obtain ⟨s', xs, rfl, hle, HT, hown, hb⟩ := hrel
    by_cases he : s'.size = 0
    · have e0 : s'.toList = [] := by rw [Lib.toList_data]; exact List.eq_nil_of_length_eq_zero (by rw [← Lib.size_eq]; exact he)
      have HF := Lib.hid (show M.told8 s.data.toList = (xs, s'.data.toList) by
        rw [HT.out, ← Lib.toList_data, e0]; simp [M.told8_nil])
      have e1 : (!s'.toList.isEmpty) = false := by rw [e0]; rfl
      clear he e0
      go_wp2_with fail
      go_ret2
      rw [HF.out]
      exact ⟨_, by rw [str_eq]; rfl, hown, hb⟩
    · have hpos : 0 < s'.size := by omega
      have e1 : (!s'.toList.isEmpty) = true := by
        rw [Lib.toList_data]
        have : s'.data.toList ≠ [] := fun h => he (by rw [Lib.size_eq, h]; rfl)
        simpa using this
      obtain ⟨c, t, hct⟩ := cons_of_pos s' hpos
      obtain ⟨⟨n, k, b⟩, hf⟩ : ∃ r, M.first8 s'.data.toList = r := ⟨_, rfl⟩
      have hbd : 1 ≤ k ∧ k ≤ (s'.size : Int) := by
        have h2 := M.first8_bounds c t
        rw [← hct, hf, ← Lib.size_eq] at h2
        exact h2
      obtain ⟨kk, rfl⟩ := Int.eq_ofNat_of_zero_le (show 0 ≤ k by omega)
      have Hf := Lib.hid hf
      cases b with
      | false =>
        have HF := Lib.hid (show M.told8 s.data.toList = (xs, s'.data.toList) by
          rw [HT.out, hct, M.told8_no c t (by rw [← hct, hf])]; simp)
        clear he hf hct
        go_wp2_with (go_at_call 157; refine (first_to _ _ _ _ Hf.out hpos (by omega) _).mono ?_; rintro e w' ⟨rfl, rfl⟩)
        go_ret2
        rw [HF.out]
        exact ⟨_, by rw [str_eq]; rfl, hown, hb⟩
      | true =>
        have HF := Lib.hid (show M.told8 s.data.toList = ((xs ++ [n]) ++ (M.told8 (s'.extract kk s'.size).data.toList).1, (M.told8 (s'.extract kk s'.size).data.toList).2) by
          rw [HT.out, drop_str, hct, M.told8_ok c t (by rw [← hct, hf]), ← hct, hf]; simp)
        have HS := Lib.hid (drop_size s' kk)
        have hk1 : 1 ≤ kk := by omega
        have hk2 : kk ≤ s'.size := by omega
        clear he hf hct hbd
        go_wp2_with (first | (go_at_call 157; refine (first_to _ _ _ _ Hf.out hpos (by omega) _).mono ?_; rintro e w' ⟨rfl, rfl⟩) | (at_builtin; refine wpList_app rfl (.tmp 18) (.tmp 20) 30 rfl elemInt (by decide) w.heap.size _ _ _ rfl rfl hown rfl (by simp; omega) (by first | exact Nat.le_refl _ | assumption | (have := hb.size; omega)) ?_; intro v' w1 hown' hb1))
        go_roundw
        case rel => exact ⟨_, xs ++ [n], rfl, by rw [HS.out, List.length_append, List.length_singleton]; omega, HF, by rw [List.map_append]; exact hown', hb.upto hb1 (Nat.le_refl _)⟩
        case measure => simp only [strLen, HS.out]; omega
theorem told8_to (s : ByteArray) (xs : List Int) (l : List UInt8) (h : M.told8 s.data.toList = (xs, l)) (hs : s.size ≤ 68719476735) (w : World) : Calls Tryz.prog 135 #[.string s] w fun e w' => ∃ v, e = .returned (.tuple #[v, .string ⟨l.toArray⟩]) ∧ Own w.heap.size 3 w' v (xs.map (Value.int .i64)) ∧ Bel w w' := by
  have := told8_any s hs w; rw [h] at this; exact this
theorem all8_any (s : ByteArray) (hs : s.size ≤ 68719476734) (w : World) : Calls Tryz.prog 92 #[.string s] w fun e w' => ∃ v, e = .returned v ∧ Own w.heap.size 3 w' v ((M.all8 s.data.toList).map (Value.int .i64)) ∧ Bel w w' := by
  obtain ⟨⟨xs, l⟩, ht⟩ : ∃ r, M.told8 s.data.toList = r := ⟨_, rfl⟩
  have hlen := M.told8_len s.data.toList
  rw [ht, ← Lib.size_eq] at hlen
  have Ht := Lib.hid ht
  by_cases he : l = []
  · subst he
    have HA := Lib.hid (show M.all8 s.data.toList = xs by rw [M.all8, ht, if_pos rfl])
    clear ht hlen
    go_enter Tryz.func92, Tryz.ntmps92
    go_wp2_with (go_at_call 135; refine (told8_to _ _ _ Ht.out (by omega) _).mono ?_; rintro e w' ⟨v, rfl, ho, hb⟩)
    go_ret
    rw [HA.out]
    exact ⟨_, rfl, by assumption, by assumption⟩
  · have HA := Lib.hid (show M.all8 s.data.toList = xs ++ [65533] by rw [M.all8, ht, if_neg he])
    have e1 : (!l.isEmpty) = true := by simpa using he
    have hl2 : xs.length ≤ s.size := by simp only at hlen; omega
    clear ht hlen he
    go_enter Tryz.func92, Tryz.ntmps92
    go_wp2_with (first | (go_at_call 135; refine (told8_to _ _ _ Ht.out (by omega) _).mono ?_; rintro e w' ⟨v, rfl, ho, hb⟩; have hB := hb.size) | (at_builtin; refine wpList_app rfl (.tmp 12) (.tmp 13) 30 rfl elemInt (by decide) w.heap.size _ _ _ rfl rfl ho rfl (by simp; omega) (by first | exact Nat.le_refl _ | assumption | (have := hb.size; omega)) ?_; intro v' w1 hown' hb1))
    go_ret
    rw [HA.out]
    exact ⟨_, rfl, by rw [List.map_append]; exact hown', hb.upto hb1 (Nat.le_refl _)⟩
end Go.Proofs.YteingkjdemlhgaaGreatDoor

/-
  Package utf16: what unit, high, low, Told compute.
-/
namespace Go.Proofs.YteingkjdemlhgaaGreatDoor
open Go.RowKit
set_option maxRecDepth 1000000
theorem unit_any (big : Bool) (a b : UInt8) (w : World) : Calls Tryz.prog 182 #[.bool big, .int .u8 (a.toNat : Int), .int .u8 (b.toNat : Int)] w fun e w' => e = .returned (.int .i64 (M.unit16 big a b)) ∧ w = w' := by
  have ha := a.toNat_lt
  have hb := b.toNat_lt
  cases big
  · have H := Lib.hid (show M.unit16 false a b = (b.toNat : Int) * 256 + (a.toNat : Int) by simp only [M.unit16, Bool.false_eq_true, if_false]; omega)
    have o1 := or_256 (b.toNat : Int) (a.toNat : Int) (by omega) (by omega) (by omega) (by omega)
    generalize a.toNat = x at ha o1 H
    generalize b.toNat = y at hb o1 H
    go_enter Tryz.func182, Tryz.ntmps182
    go_wp2_with fail
    go_ret
    rw [H.out]
    exact ⟨rfl, rfl⟩
  · have H := Lib.hid (show M.unit16 true a b = (a.toNat : Int) * 256 + (b.toNat : Int) by simp only [M.unit16, if_true]; omega)
    have o1 := or_256 (a.toNat : Int) (b.toNat : Int) (by omega) (by omega) (by omega) (by omega)
    generalize a.toNat = x at ha o1 H
    generalize b.toNat = y at hb o1 H
    go_enter Tryz.func182, Tryz.ntmps182
    go_wp2_with fail
    go_ret
    rw [H.out]
    exact ⟨rfl, rfl⟩
theorem quietL {P : Program} {f : FuncId} {args : Array Value} {w : World} {n : Nat} {v : Value} (h : Calls P f args (w.drewN n) fun e w' => e = .returned v ∧ w.drewN n = w') : Calls P f args (w.drewN n) fun e w'' => e = .returned v ∧ ∃ m, w'' = w.drewN m :=
  h.mono fun _ _ ⟨he, hm⟩ => ⟨he, n, hm.symm⟩
theorem head_at (s : ByteArray) (k : Nat) (c : UInt8) (h : s.data.toList[k]? = some c) : ∃ hk : k < s.size, s[k] = c := by
  have hk : k < s.size := by rw [Lib.size_eq]; exact (List.getElem?_eq_some_iff.1 h).1
  refine ⟨hk, ?_⟩
  have := byte_at s k hk
  rw [h] at this
  injection this with this
  exact this.symm
theorem runit0_any (g : Nat) (big : Bool) (s : ByteArray) (a b : UInt8) (t : List UInt8) (w : World) (hB : Box w g 184 [.bool big, .string s]) (hs : s.data.toList = a :: b :: t) (hsz : s.size ≤ 68719476735) : Calls Tryz.prog 158 #[.pointer (some ⟨g, 0, none⟩), .int .i64 0] w fun e w' => e = .returned (.int .i64 (M.unit16 big a b)) ∧ ∃ q, w.drewN q = w' := by
  have c0 := hB.cell 0 _ rfl
  have c1 := hB.cell 1 _ rfl
  obtain ⟨k0, h0⟩ := head_at s 0 a (by rw [hs]; rfl)
  obtain ⟨k1, h1⟩ := head_at s 1 b (by rw [hs]; rfl)
  clear hs
  go_enter Tryz.func158, Tryz.ntmps158
  go_wp2_with fail
  go_quiet ((go_at_call 182; exact quietL (unit_any _ _ _ _)))
  go_wp2_with fail
  go_ret
  exact ⟨rfl, _, rfl⟩
theorem high_any16 (n : Int) (h0 : 0 ≤ n) (h1 : n ≤ 65535) (w : World) : Calls Tryz.prog 159 #[.int .i64 n] w fun e w' => e = .returned (.bool (M.isHi n)) ∧ w = w' := by
  have H := Lib.hid (show M.isHi n = (n / 1024 == 54) by rw [M.isHi, Bool.eq_iff_iff, decide_eq_true_eq, beq_iff_eq]; omega)
  go_enter Tryz.func159, Tryz.ntmps159
  go_wp2_with fail
  go_ret
  rw [H.out]
  exact ⟨rfl, rfl⟩
theorem low_any16 (n : Int) (h0 : 0 ≤ n) (h1 : n ≤ 65535) (w : World) : Calls Tryz.prog 160 #[.int .i64 n] w fun e w' => e = .returned (.bool (M.isLo n)) ∧ w = w' := by
  have H := Lib.hid (show M.isLo n = (n / 1024 == 55) by rw [M.isLo, Bool.eq_iff_iff, decide_eq_true_eq, beq_iff_eq]; omega)
  go_enter Tryz.func160, Tryz.ntmps160
  go_wp2_with fail
  go_ret
  rw [H.out]
  exact ⟨rfl, rfl⟩
theorem runit2_any (g : Nat) (big : Bool) (s : ByteArray) (x y a b : UInt8) (t : List UInt8) (w : World) (hB : Box w g 184 [.bool big, .string s]) (hs : s.data.toList = x :: y :: a :: b :: t) (hsz : s.size ≤ 68719476735) : Calls Tryz.prog 158 #[.pointer (some ⟨g, 0, none⟩), .int .i64 2] w fun e w' => e = .returned (.int .i64 (M.unit16 big a b)) ∧ ∃ q, w.drewN q = w' := by
  have c0 := hB.cell 0 _ rfl
  have c1 := hB.cell 1 _ rfl
  obtain ⟨k0, h0⟩ := head_at s 2 a (by rw [hs]; rfl)
  obtain ⟨k1, h1⟩ := head_at s 3 b (by rw [hs]; rfl)
  clear hs
  go_enter Tryz.func158, Tryz.ntmps158
  go_wp2_with fail
  go_quiet ((go_at_call 182; exact quietL (unit_any _ _ _ _)))
  go_wp2_with fail
  go_ret
  exact ⟨rfl, _, rfl⟩
theorem runit0_to (g : Nat) (big : Bool) (s : ByteArray) (a b : UInt8) (t : List UInt8) (n : Int) (w : World) (hB : Box w g 184 [.bool big, .string s]) (hs : s.data.toList = a :: b :: t) (hn : M.unit16 big a b = n) (hsz : s.size ≤ 68719476735) : Calls Tryz.prog 158 #[.pointer (some ⟨g, 0, none⟩), .int .i64 0] w fun e w' => e = .returned (.int .i64 n) ∧ ∃ q, w.drewN q = w' := by
  have := runit0_any g big s a b t w hB hs hsz; rw [hn] at this; exact this
theorem runit2_to (g : Nat) (big : Bool) (s : ByteArray) (x y a b : UInt8) (t : List UInt8) (n : Int) (w : World) (hB : Box w g 184 [.bool big, .string s]) (hs : s.data.toList = x :: y :: a :: b :: t) (hn : M.unit16 big a b = n) (hsz : s.size ≤ 68719476735) : Calls Tryz.prog 158 #[.pointer (some ⟨g, 0, none⟩), .int .i64 2] w fun e w' => e = .returned (.int .i64 n) ∧ ∃ q, w.drewN q = w' := by
  have := runit2_any g big s x y a b t w hB hs hsz; rw [hn] at this; exact this
theorem high_to (n : Int) (b : Bool) (h : M.isHi n = b) (h0 : 0 ≤ n) (h1 : n ≤ 65535) (w : World) : Calls Tryz.prog 159 #[.int .i64 n] w fun e w' => e = .returned (.bool b) ∧ w = w' := by
  have := high_any16 n h0 h1 w; rw [h] at this; exact this
theorem low_to (n : Int) (b : Bool) (h : M.isLo n = b) (h0 : 0 ≤ n) (h1 : n ≤ 65535) (w : World) : Calls Tryz.prog 160 #[.int .i64 n] w fun e w' => e = .returned (.bool b) ∧ w = w' := by
  have := low_any16 n h0 h1 w; rw [h] at this; exact this
def cellLen (w : World) (a : Addr) : Nat := match w.cell? a with | some (.string s) => s.size | _ => 0
theorem cellLen_of {w : World} {a : Addr} {s : ByteArray} (h : w.cell? a = some (.string s)) : cellLen w a = s.size := by unfold cellLen; rw [h]
theorem told16_any (big : Bool) (s : ByteArray) (hs : s.size ≤ 68719476735) (w : World) : Calls Tryz.prog 136 #[.bool big, .string s] w fun e w' => ∃ v, e = .returned (.tuple #[v, .string ⟨(M.told16 big s.data.toList).2.toArray⟩]) ∧ Own w.heap.size 3 w' v ((M.told16 big s.data.toList).1.map (Value.int .i64)) ∧ Bel w w' := by
  go_enter Tryz.func136, Tryz.ntmps136
  go_wp2_with fail
  go_loopw [7] (fun v wr => ∃ (s' : ByteArray) (xs : List Int), Box wr w.heap.size 184 [.bool big, .string s'] ∧ xs.length + s'.size ≤ s.size ∧ Hid (M.told16 big s.data.toList = (xs ++ (M.told16 big s'.data.toList).1, (M.told16 big s'.data.toList).2)) ∧ Own (w.heap.size + 1) 3 wr v (xs.map (Value.int .i64)) ∧ Below w.heap.size w wr) (fun _ wr => cellLen wr ⟨w.heap.size, 1, none⟩)
  case atStart => exact ⟨s, [], Box.new _ _ _, by simp, Lib.hid (by simp), Own.nil _ _ _, (Below.refl _ _).alloc (Nat.le_refl _) _⟩
  case round =>
    obtain ⟨s', xs, hB, hle, HT, hown, hb⟩ := hrel
    have c0 := hB.cell 0 _ rfl
    have c1 := hB.cell 1 _ rfl
    have f1 := hB.frozen 1
    by_cases h2 : 2 ≤ s'.size
    · have hz : s'.data.toList.length = s'.size := (Lib.size_eq s').symm
      obtain ⟨a, b, t, hab⟩ : ∃ a b t, s'.data.toList = a :: b :: t := by
        match hq : s'.data.toList with
        | [] => rw [hq] at hz; simp at hz; omega
        | [a] => rw [hq] at hz; simp at hz; omega
        | a :: b :: t => exact ⟨a, b, t, rfl⟩
      have htl : s'.size = t.length + 2 := by rw [← hz, hab]; rfl
      obtain ⟨u0, u1⟩ := M.unit16_le big a b
      have HAB := Lib.hid hab
      rcases M.say16 big a b t with ⟨g1, e1⟩ | ⟨g1, g2, e1⟩ | ⟨c, d, u, rfl, g1, g2, e1⟩ | ⟨c, d, u, rfl, g1, g2, e1⟩
      · -- a unit by itself
        have HF := Lib.hid (show M.told16 big s.data.toList = ((xs ++ [M.one16 (M.unit16 big a b)]) ++ (M.told16 big (s'.extract 2 s'.size).data.toList).1, (M.told16 big (s'.extract 2 s'.size).data.toList).2) by
          rw [HT.out, drop_str, hab, e1]; simp)
        have HS := Lib.hid (drop_size s' 2)
        obtain ⟨n, hn⟩ : ∃ n, M.unit16 big a b = n := ⟨_, rfl⟩
        rw [hn] at g1 u0 u1 HF
        have HN := Lib.hid hn
        have HG := Lib.hid g1
        clear hz hab e1 g1 htl hn
        cases hlo : M.isLo n with
        | true =>
          have HL := Lib.hid hlo
          have HO := Lib.hid (show M.one16 n = 65533 by rw [M.one16, if_pos hlo])
          clear hlo
          rw [HO.out] at HF
          go_wp2_with fail
          refine (runit0_to _ big s' a b t n _ hB HAB.out HN.out (by omega)).mono ?_
          rintro e w1 ⟨rfl, q, rfl⟩
          have hsz : w.heap.size + 1 ≤ (wr.drewN q).heap.size := hB.lt
          go_wp2_with (first | (go_at_call 159; refine (high_to n false HG.out u0 u1 _).mono ?_; rintro e w' ⟨rfl, rfl⟩) | (go_at_call 160; refine (low_to n true HL.out u0 u1 _).mono ?_; rintro e w' ⟨rfl, rfl⟩) | ((at_builtin; refine wpList_app rfl (.tmp 61) (.tmp 63) 30 rfl elemInt (by decide) (w.heap.size + 1) _ _ _ rfl rfl (hown.drewN q) rfl (by simp; omega) (by first | exact Nat.le_refl _ | assumption | (have := hb.size; omega)) ?_; intro v' w1 hown' hb1); have hB1 := (hB.drewN q).upto hb1 (Nat.lt_succ_self _); have d1 := hB1.cell 1 _ rfl; have d2 := hB1.frozen 1))
          go_roundw
          case rel => exact ⟨_, xs ++ [65533], hB1.set 1 _, by rw [HS.out, List.length_append, List.length_singleton]; omega, HF, by rw [List.map_append]; exact hown'.setCell (by simp) _, bel_store (Bel.drewN hb q) hb1 (Nat.le_succ _) (Nat.le_refl _) _⟩
          case measure => rw [cellLen_of c1, cellLen_of ((hB1.set 1 _).cell 1 _ rfl), HS.out]; omega
        | false =>
          have HL := Lib.hid hlo
          have HO := Lib.hid (show M.one16 n = n by rw [M.one16, if_neg (by rw [hlo]; decide)])
          clear hlo
          rw [HO.out] at HF
          go_wp2_with fail
          refine (runit0_to _ big s' a b t n _ hB HAB.out HN.out (by omega)).mono ?_
          rintro e w1 ⟨rfl, q, rfl⟩
          have hsz : w.heap.size + 1 ≤ (wr.drewN q).heap.size := hB.lt
          go_wp2_with (first | (go_at_call 159; refine (high_to n false HG.out u0 u1 _).mono ?_; rintro e w' ⟨rfl, rfl⟩) | (go_at_call 160; refine (low_to n false HL.out u0 u1 _).mono ?_; rintro e w' ⟨rfl, rfl⟩) | ((at_builtin; refine wpList_app rfl (.tmp 61) (.tmp 63) 30 rfl elemInt (by decide) (w.heap.size + 1) _ _ _ rfl rfl (hown.drewN q) rfl (by simp; omega) (by first | exact Nat.le_refl _ | assumption | (have := hb.size; omega)) ?_; intro v' w1 hown' hb1); have hB1 := (hB.drewN q).upto hb1 (Nat.lt_succ_self _); have d1 := hB1.cell 1 _ rfl; have d2 := hB1.frozen 1))
          go_roundw
          case rel => exact ⟨_, xs ++ [n], hB1.set 1 _, by rw [HS.out, List.length_append, List.length_singleton]; omega, HF, by rw [List.map_append]; exact hown'.setCell (by simp) _, bel_store (Bel.drewN hb q) hb1 (Nat.le_succ _) (Nat.le_refl _) _⟩
          case measure => rw [cellLen_of c1, cellLen_of ((hB1.set 1 _).cell 1 _ rfl), HS.out]; omega
      · -- more must come
        have HF := Lib.hid (show M.told16 big s.data.toList = (xs, s'.data.toList) by
          rw [HT.out, hab, e1]; simp)
        obtain ⟨n, hn⟩ : ∃ n, M.unit16 big a b = n := ⟨_, rfl⟩
        rw [hn] at g1 u0 u1
        have HN := Lib.hid hn
        have HG := Lib.hid g1
        have h4 : s'.size < 4 := by omega
        clear hz hab e1 g1 htl hn
        go_wp2_with fail
        refine (runit0_to _ big s' a b t n _ hB HAB.out HN.out (by omega)).mono ?_
        rintro e w1 ⟨rfl, q, rfl⟩
        go_wp2_with (first | (go_at_call 159; refine (high_to n true HG.out u0 u1 _).mono ?_; rintro e w' ⟨rfl, rfl⟩))
        go_quiet (fail)
        go_wp2_with fail
        go_ret2
        rw [HF.out]
        exact ⟨_, by rw [str_eq]; rfl, ((hown.mono (by omega)).drewN _).drewN _, Bel.drewN (Bel.drewN hb _) _⟩
      · -- two units
        have HF := Lib.hid (show M.told16 big s.data.toList = ((xs ++ [M.pair16 (M.unit16 big a b) (M.unit16 big c d)]) ++ (M.told16 big (s'.extract 4 s'.size).data.toList).1, (M.told16 big (s'.extract 4 s'.size).data.toList).2) by
          rw [HT.out, drop_str, hab, e1]; simp)
        have HS := Lib.hid (drop_size s' 4)
        obtain ⟨v0, v1⟩ := M.unit16_le big c d
        obtain ⟨n, hn⟩ : ∃ n, M.unit16 big a b = n := ⟨_, rfl⟩
        obtain ⟨m, hm⟩ : ∃ m, M.unit16 big c d = m := ⟨_, rfl⟩
        rw [hn] at g1 u0 u1 HF
        rw [hm] at g2 v0 v1 HF
        have g1' := g1
        have g2' := g2
        simp only [M.isHi, decide_eq_true_eq] at g1'
        simp only [M.isLo, decide_eq_true_eq] at g2'
        have HN := Lib.hid hn
        have HM := Lib.hid hm
        have HG := Lib.hid g1
        have HL := Lib.hid g2
        have HP := Lib.hid (show M.pair16 n m = 65536 + (n - 55296) * 1024 + m - 56320 by rw [M.pair16]; omega)
        have h4 : 4 ≤ s'.size := by simp only [List.length_cons] at htl; omega
        clear hz hab e1 g1 g2 htl hn hm
        rw [HP.out] at HF
        go_wp2_with fail
        refine (runit0_to _ big s' a b (c :: d :: u) n _ hB HAB.out HN.out (by omega)).mono ?_
        rintro e w1 ⟨rfl, q, rfl⟩
        go_wp2_with (first | (go_at_call 159; refine (high_to n true HG.out u0 u1 _).mono ?_; rintro e w' ⟨rfl, rfl⟩))
        refine (runit2_to _ big s' a b c d u m _ (hB.drewN q) HAB.out HM.out (by omega)).mono ?_
        rintro e w1 ⟨rfl, q2, rfl⟩
        go_wp2_with (first | (go_at_call 160; refine (low_to m true HL.out v0 v1 _).mono ?_; rintro e w' ⟨rfl, rfl⟩))
        refine (runit2_to _ big s' a b c d u m _ (hB.drewN _) HAB.out HM.out (by omega)).mono ?_
        rintro e w1 ⟨rfl, q3, rfl⟩
        have hsz : ∀ k, w.heap.size + 1 ≤ (wr.drewN k).heap.size := fun _ => hB.lt
        go_wp2_with (first | fail | (at_builtin; refine wpList_app rfl (.tmp 61) (.tmp 63) 30 rfl elemInt (by decide) (w.heap.size + 1) _ _ _ rfl rfl (hown.drewN _) rfl (by simp; omega) (hsz _) ?_; intro v' w1 hown' hb1; have hB1 := (hB.drewN _).upto hb1 (Nat.lt_succ_self _); have d1 := hB1.cell 1 _ rfl; have d2 := hB1.frozen 1))
        go_roundw
        case rel => exact ⟨_, xs ++ [65536 + (n - 55296) * 1024 + m - 56320], hB1.set 1 _, by rw [HS.out, List.length_append, List.length_singleton]; omega, HF, by rw [List.map_append]; exact hown'.setCell (by simp) _, bel_store (Bel.drewN hb _) hb1 (Nat.le_succ _) (Nat.le_refl _) _⟩
        case measure => rw [cellLen_of c1, cellLen_of ((hB1.set 1 _).cell 1 _ rfl), HS.out]; omega
      · -- the first one alone
        have HF := Lib.hid (show M.told16 big s.data.toList = ((xs ++ [65533]) ++ (M.told16 big (s'.extract 2 s'.size).data.toList).1, (M.told16 big (s'.extract 2 s'.size).data.toList).2) by
          rw [HT.out, drop_str, hab, e1]; simp)
        have HS := Lib.hid (drop_size s' 2)
        obtain ⟨v0, v1⟩ := M.unit16_le big c d
        obtain ⟨n, hn⟩ : ∃ n, M.unit16 big a b = n := ⟨_, rfl⟩
        obtain ⟨m, hm⟩ : ∃ m, M.unit16 big c d = m := ⟨_, rfl⟩
        rw [hn] at g1 u0 u1
        rw [hm] at g2 v0 v1
        have HN := Lib.hid hn
        have HM := Lib.hid hm
        have HG := Lib.hid g1
        have HL := Lib.hid g2
        have h4 : 4 ≤ s'.size := by simp only [List.length_cons] at htl; omega
        clear hz hab e1 g1 g2 htl hn hm
        go_wp2_with fail
        refine (runit0_to _ big s' a b (c :: d :: u) n _ hB HAB.out HN.out (by omega)).mono ?_
        rintro e w1 ⟨rfl, q, rfl⟩
        go_wp2_with (first | (go_at_call 159; refine (high_to n true HG.out u0 u1 _).mono ?_; rintro e w' ⟨rfl, rfl⟩))
        refine (runit2_to _ big s' a b c d u m _ (hB.drewN q) HAB.out HM.out (by omega)).mono ?_
        rintro e w1 ⟨rfl, q2, rfl⟩
        have hsz : ∀ k, w.heap.size + 1 ≤ (wr.drewN k).heap.size := fun _ => hB.lt
        go_wp2_with (first | (go_at_call_of 160 (Value.int .i64 m); refine (low_to m false HL.out v0 v1 _).mono ?_; rintro e w' ⟨rfl, rfl⟩) | (go_at_call 159; refine (high_to n true HG.out u0 u1 _).mono ?_; rintro e w' ⟨rfl, rfl⟩) | (at_builtin; refine wpList_app rfl (.tmp 61) (.tmp 63) 30 rfl elemInt (by decide) (w.heap.size + 1) _ _ _ rfl rfl (hown.drewN _) rfl (by simp; omega) (hsz _) ?_; intro v' w1 hown' hb1; have hB1 := (hB.drewN _).upto hb1 (Nat.lt_succ_self _); have d1 := hB1.cell 1 _ rfl; have d2 := hB1.frozen 1))
        go_roundw
        case rel => exact ⟨_, xs ++ [65533], hB1.set 1 _, by rw [HS.out, List.length_append, List.length_singleton]; omega, HF, by rw [List.map_append]; exact hown'.setCell (by simp) _, bel_store (Bel.drewN hb _) hb1 (Nat.le_succ _) (Nat.le_refl _) _⟩
        case measure => rw [cellLen_of c1, cellLen_of ((hB1.set 1 _).cell 1 _ rfl), HS.out]; omega
    · have HF := Lib.hid (show M.told16 big s.data.toList = (xs, s'.data.toList) by
        have hl : s'.data.toList.length ≤ 1 := by rw [← Lib.size_eq]; omega
        rw [HT.out]
        match hq : s'.data.toList, hl with
        | [], _ => rw [M.told16_nil]; simp
        | [a], _ => rw [M.told16_one]; simp
        | _ :: _ :: _, hl => simp at hl)
      go_wp2_with fail
      go_quiet (fail)
      go_wp2_with fail
      go_ret2
      rw [HF.out]
      exact ⟨_, by rw [str_eq]; rfl, (hown.mono (by omega)).drewN _, Bel.drewN hb _⟩
end Go.Proofs.YteingkjdemlhgaaGreatDoor

/-
  Package utf8: what Scalar, Points, Bytes, Encode compute.
-/
namespace Go.Proofs.YteingkjdemlhgaaGreatDoor
open Go.RowKit
set_option maxRecDepth 1000000
theorem scalar_any (n : Int) (w : World) : Calls Tryz.prog 66 #[.int .i64 n] w fun e w' => e = .returned (.bool (M.scalar n)) ∧ w = w' := by
  by_cases h0 : 0 ≤ n <;> by_cases h1 : n ≤ 1114111 <;> by_cases h2 : n < 55296 <;> by_cases h3 : 57343 < n
  all_goals
    first
    | (exfalso; omega)
    | (go_enter Tryz.func66, Tryz.ntmps66
       go_wp2
       go_ret
       refine ⟨?_, rfl⟩
       simp [M.scalar]
       omega)
theorem points1_any (n : Int) (w : World) : Calls Tryz.prog 86 #[.int .i64 n] w fun e w' => e = .returned (.bool (!M.scalar n)) ∧ w = w' := by
  go_enter Tryz.func86, Tryz.ntmps86
  go_wp2_with (go_at_call 66; refine (scalar_any _ _).mono ?_; rintro e w' ⟨rfl, rfl⟩)
  go_ret
  exact ⟨rfl, rfl⟩
def IdxSays (xs : List Int) (n : Int) : Prop := 0 ≤ n ↔ xs.all M.scalar = false
theorem indexFunc_any (v : Value) (xs : List Int) (w : World) (hv : IntSl w v xs) : Calls Tryz.prog 130 #[v, .func (.func 86) #[] #[]] w fun e w' => (∃ n : Int, e = .returned (.int .i64 n) ∧ IdxSays xs n) ∧ w = w' := by
  obtain ⟨a, c, rfl, hc1, hc2, hn, hx⟩ := hv
  unfold maxLen at hc2
  go_enter Tryz.func130, Tryz.ntmps130
  go_wp2_with fail
  go_loop [8] (fun i => ∃ k : Nat, k ≤ xs.length ∧ i = .int .i64 k ∧ Hid ((xs.take k).all M.scalar = true)) (fun i => xs.length - (intOf i).toNat)
  case atStart => exact ⟨0, by omega, rfl, Lib.hid rfl⟩
  case round =>
    obtain ⟨k, hk, rfl, hno⟩ := hrel
    by_cases hlt : k < xs.length
    · obtain ⟨y, hy⟩ : ∃ y, xs[k]? = some y := ⟨_, List.getElem?_eq_getElem hlt⟩
      cases a with
      | none => exfalso; have h3 := hlt; rw [hn rfl, List.length_nil] at h3; omega
      | some x =>
        have hcell := hx x rfl k y hy
        cases hsc : M.scalar y with
        | false =>
          have e1 : (!M.scalar y) = true := by rw [hsc]; rfl
          have HF : IdxSays xs (k : Int) := (show (0 : Int) ≤ (k : Int) ↔ xs.all M.scalar = false from ⟨fun _ => by
            rw [List.all_eq_false]
            exact ⟨y, List.mem_of_getElem? hy, by rw [hsc]; decide⟩, fun _ => by omega⟩)
          clear hx hn hsc hy
          go_wp2_with (go_at_call 86; refine (points1_any _ _).mono ?_; rintro e w' ⟨rfl, rfl⟩)
          go_ret
          exact ⟨⟨_, rfl, HF⟩, rfl⟩
        | true =>
          have e1 : (!M.scalar y) = false := by rw [hsc]; rfl
          have HF := Lib.hid (show (xs.take (k + 1)).all M.scalar = true by
            rw [List.take_add_one, hy, List.all_append, hno.out]; simp [hsc])
          clear hx hn hsc hy
          go_wp2_with (go_at_call 86; refine (points1_any _ _).mono ?_; rintro e w' ⟨rfl, rfl⟩)
          go_round
          case rel => exact ⟨k + 1, by omega, by go_num, HF⟩
          case measure => simp [intOf]; omega
    · obtain rfl : k = xs.length := by omega
      have HF : IdxSays xs (-1) := (show (0 : Int) ≤ -1 ↔ xs.all M.scalar = false from ⟨fun h => absurd h (by decide), fun h => by
        have := hno.out
        rw [List.take_length, h] at this
        cases this⟩)
      go_wp2_with fail
      go_ret
      exact ⟨⟨_, rfl, HF⟩, rfl⟩
theorem containsFunc_any (v : Value) (xs : List Int) (w : World) (hv : IntSl w v xs) : Calls Tryz.prog 85 #[v, .func (.func 86) #[] #[]] w fun e w' => e = .returned (.bool (!xs.all M.scalar)) ∧ w = w' := by
  have c1 := Lib.hid (indexFunc_any v xs w hv)
  obtain ⟨a, c, rfl, _⟩ := hv
  go_enter Tryz.func85, Tryz.ntmps85
  go_wp2_with fail
  refine c1.out.mono ?_
  rintro e w' ⟨⟨n, rfl, hn⟩, rfl⟩
  cases hall : xs.all M.scalar with
  | true =>
    have : ¬ 0 ≤ n := fun h => by have := hn.1 h; rw [hall] at this; cases this
    have hneg : n < 0 := by omega
    clear this
    go_wp2_with fail
    go_ret
    refine ⟨ret_bool ?_, rfl⟩
    rw [hall]
    simp
    omega
  | false =>
    have hpos : 0 ≤ n := hn.2 hall
    go_wp2_with fail
    go_ret
    refine ⟨ret_bool ?_, rfl⟩
    rw [hall]
    rfl
theorem points_any (v : Value) (xs : List Int) (w : World) (hv : IntSl w v xs) : Calls Tryz.prog 55 #[v] w fun e w' => e = .returned (.int .i64 (M.points xs)) ∧ w = w' := by
  have c1 := Lib.hid (containsFunc_any v xs w hv)
  obtain ⟨a, c, rfl, hc1, hc2, _⟩ := hv
  unfold maxLen at hc2
  by_cases h : 3000 < xs.length
  · have H := Lib.hid (show M.points xs = 2 by rw [M.points, if_pos h])
    go_enter Tryz.func55, Tryz.ntmps55
    go_wp2_with fail
    go_ret
    rw [H.out]
    exact ⟨rfl, rfl⟩
  · cases hall : xs.all M.scalar with
    | true =>
      have H := Lib.hid (show M.points xs = 0 by rw [M.points, if_neg h, hall]; rfl)
      rw [hall] at c1
      go_enter Tryz.func55, Tryz.ntmps55
      go_wp2_with (go_at_call 85; refine (c1.out).mono ?_; rintro e w' ⟨rfl, rfl⟩)
      go_ret
      rw [H.out]
      exact ⟨rfl, rfl⟩
    | false =>
      have H := Lib.hid (show M.points xs = 3 by rw [M.points, if_neg h, hall]; rfl)
      rw [hall] at c1
      go_enter Tryz.func55, Tryz.ntmps55
      go_wp2_with (go_at_call 85; refine (c1.out).mono ?_; rintro e w' ⟨rfl, rfl⟩)
      go_ret
      rw [H.out]
      exact ⟨rfl, rfl⟩
set_option maxHeartbeats 2000000 in
theorem bytes8_any (v : Value) (xs : List Int) (w : World) (hv : IntSl w v xs) (hlen : xs.length ≤ 1000000) (hsc : ∀ n ∈ xs, 0 ≤ n ∧ n ≤ 1114111) : Calls Tryz.prog 91 #[v] w fun e w' => e = .returned (.string ⟨(M.bytes8 xs).toArray⟩) ∧ Bel w w' := by
  obtain ⟨a, c, rfl, hc1, hc2, hn, hx⟩ := hv
  unfold maxLen at hc2
  go_enter Tryz.func91, Tryz.ntmps91
  go_wp2_with fail
  go_loopw [3, 8] (fun v i wr => ∃ k : Nat, k ≤ xs.length ∧ i = .int .i64 k ∧ (M.bytes8 (xs.take k)).length ≤ 4 * k ∧ Own w.heap.size 5 wr v ((M.bytes8 (xs.take k)).map byteVal) ∧ Bel w wr) (fun _ i _ => xs.length - (intOf i).toNat)
  case atStart => exact ⟨0, by omega, rfl, by simp [M.bytes8], Own.nil _ _ _, Bel.refl _⟩
  case round =>
    obtain ⟨k, hk, rfl, hbl, hown, hb⟩ := hrel
    by_cases hlt : k < xs.length
    · obtain ⟨n, hy⟩ : ∃ n, xs[k]? = some n := ⟨_, List.getElem?_eq_getElem hlt⟩
      cases a with
      | none => exfalso; have h3 := hlt; rw [hn rfl, List.length_nil] at h3; omega
      | some x =>
        have hcw := hx x rfl k n hy
        have hcell : wr.cell? (x.add k) = some (.int .i64 n) := (hb.cell (World.block_lt_of_cell? w _ hcw)).trans hcw
        obtain ⟨hn0, hn1⟩ := hsc n (List.mem_of_getElem? hy)
        have HT := Lib.hid (show M.bytes8 (xs.take (k + 1)) = M.bytes8 (xs.take k) ++ M.row8 n by
          rw [List.take_add_one, hy]; simp [M.bytes8])
        obtain ⟨m, rfl⟩ := Int.eq_ofNat_of_zero_le hn0
        clear hx hn hy hcw hsc
        by_cases h1 : m < 128
        · have HR := Lib.hid (show (M.row8 (m : Int)).map byteVal = [.int .u8 (m : Int)] by
            rw [M.row8, if_pos (by omega)]; simp [byteVal]; omega)
          have HL := Lib.hid (show (M.row8 (m : Int)).length = 1 by rw [M.row8, if_pos (by omega)]; rfl)
          go_wp2_with (first | (at_builtin; refine wpList_apps (.tmp 36) (.tmp 39) 120 rfl elemByte (by decide) w.heap.size _ _ _ hown (by simp [Value.oneCell']) (by simp; omega) (by first | exact Nat.le_refl _ | assumption | (have := hb.size; omega)) rfl rfl rfl ?_; intro v' w1 hown' hb1))
          go_roundw
          case rel =>
            have HO : Own w.heap.size 5 w1 v' ((M.bytes8 (xs.take (k + 1))).map byteVal) := by rw [HT.out, List.map_append, HR.out]; exact hown'
            have HB : (M.bytes8 (xs.take (k + 1))).length ≤ 4 * (k + 1) := by rw [HT.out, List.length_append, HL.out]; omega
            exact ⟨k + 1, by omega, by go_num, HB, HO, hb.upto hb1 (Nat.le_refl _)⟩
          case measure => simp [intOf]; omega
        · by_cases h2 : m < 2048
          · have HR := Lib.hid (show (M.row8 (m : Int)).map byteVal = [.int .u8 (192 + (m : Int) / 64), .int .u8 (128 + (m : Int) % 64)] by
              rw [M.row8, if_neg (by omega), if_pos (by omega)]; simp [byteVal]; omega)
            have HL := Lib.hid (show (M.row8 (m : Int)).length = 2 by rw [M.row8, if_neg (by omega), if_pos (by omega)]; rfl)
            have o1 := or_192 ((m : Int) / 64) (by omega) (by omega)
            have o2 := or_128 ((m : Int) % 64) (by omega) (by omega)
            have a1 := and_63 (m : Int) (by omega) (by omega)
            go_wp2_with (first | (at_builtin; refine wpList_apps (.tmp 44) (.tmp 53) 120 rfl elemByte (by decide) w.heap.size _ _ _ hown (by simp [Value.oneCell']) (by simp; omega) (by first | exact Nat.le_refl _ | assumption | (have := hb.size; omega)) rfl rfl rfl ?_; intro v' w1 hown' hb1))
            go_roundw
            case rel =>
              have HO : Own w.heap.size 5 w1 v' ((M.bytes8 (xs.take (k + 1))).map byteVal) := by rw [HT.out, List.map_append, HR.out]; exact hown'
              have HB : (M.bytes8 (xs.take (k + 1))).length ≤ 4 * (k + 1) := by rw [HT.out, List.length_append, HL.out]; omega
              exact ⟨k + 1, by omega, by go_num, HB, HO, hb.upto hb1 (Nat.le_refl _)⟩
            case measure => simp [intOf]; omega
          · by_cases h3 : m < 65536
            · obtain ⟨q, hq, hq1⟩ : ∃ q : Nat, (m : Int) / 4096 = (q : Int) ∧ q < 16 := ⟨m / 4096, by omega, by omega⟩
              obtain ⟨r, hr, hr1⟩ : ∃ r : Nat, (m : Int) / 64 = (r : Int) ∧ r < 1024 := ⟨m / 64, by omega, by omega⟩
              obtain ⟨s, hs, hs1⟩ : ∃ s : Nat, (r : Int) % 64 = (s : Int) ∧ s < 64 := ⟨r % 64, by omega, by omega⟩
              obtain ⟨c', hc, hc1'⟩ : ∃ c' : Nat, (m : Int) % 64 = (c' : Int) ∧ c' < 64 := ⟨m % 64, by omega, by omega⟩
              have HR := Lib.hid (show (M.row8 (m : Int)).map byteVal = [.int .u8 (224 + (q : Int)), .int .u8 (128 + (s : Int)), .int .u8 (128 + (c' : Int))] by
                rw [M.row8, if_neg (by omega), if_neg (by omega), if_pos (by omega)]; simp [byteVal]; omega)
              have HL := Lib.hid (show (M.row8 (m : Int)).length = 3 by rw [M.row8, if_neg (by omega), if_neg (by omega), if_pos (by omega)]; rfl)
              have o1 := or_224 (q : Int) (by omega) (by omega)
              have o2 := or_128 (c' : Int) (by omega) (by omega)
              have o3 := or_128 (s : Int) (by omega) (by omega)
              have a1 : bits .and .i64 (m : Int) 63 = (c' : Int) := by rw [and_63 (m : Int) (by omega) (by omega), hc]
              have a2 := and_63 (r : Int) (by omega) (by omega)
              rw [hs] at a2
              clear hc hs
              go_wp2_with (first | (at_builtin; refine wpList_apps (.tmp 58) (.tmp 72) 120 rfl elemByte (by decide) w.heap.size _ _ _ hown (by simp [Value.oneCell']) (by simp; omega) (by first | exact Nat.le_refl _ | assumption | (have := hb.size; omega)) rfl rfl rfl ?_; intro v' w1 hown' hb1))
              go_roundw
              case rel =>
                have HO : Own w.heap.size 5 w1 v' ((M.bytes8 (xs.take (k + 1))).map byteVal) := by rw [HT.out, List.map_append, HR.out]; exact hown'
                have HB : (M.bytes8 (xs.take (k + 1))).length ≤ 4 * (k + 1) := by rw [HT.out, List.length_append, HL.out]; omega
                exact ⟨k + 1, by omega, by go_num, HB, HO, hb.upto hb1 (Nat.le_refl _)⟩
              case measure => simp [intOf]; omega
            · obtain ⟨p, hp, hp1⟩ : ∃ p : Nat, (m : Int) / 262144 = (p : Int) ∧ p < 8 := ⟨m / 262144, by omega, by omega⟩
              obtain ⟨q, hq, hq1⟩ : ∃ q : Nat, (m : Int) / 4096 = (q : Int) ∧ q < 512 := ⟨m / 4096, by omega, by omega⟩
              obtain ⟨q2, hq2, hq21⟩ : ∃ q2 : Nat, (q : Int) % 64 = (q2 : Int) ∧ q2 < 64 := ⟨q % 64, by omega, by omega⟩
              obtain ⟨r, hr, hr1⟩ : ∃ r : Nat, (m : Int) / 64 = (r : Int) ∧ r < 32768 := ⟨m / 64, by omega, by omega⟩
              obtain ⟨s, hs, hs1⟩ : ∃ s : Nat, (r : Int) % 64 = (s : Int) ∧ s < 64 := ⟨r % 64, by omega, by omega⟩
              obtain ⟨c', hc, hc1'⟩ : ∃ c' : Nat, (m : Int) % 64 = (c' : Int) ∧ c' < 64 := ⟨m % 64, by omega, by omega⟩
              have HR := Lib.hid (show (M.row8 (m : Int)).map byteVal = [.int .u8 (240 + (p : Int)), .int .u8 (128 + (q2 : Int)), .int .u8 (128 + (s : Int)), .int .u8 (128 + (c' : Int))] by
                rw [M.row8, if_neg (by omega), if_neg (by omega), if_neg (by omega)]; simp [byteVal]; omega)
              have HL := Lib.hid (show (M.row8 (m : Int)).length = 4 by rw [M.row8, if_neg (by omega), if_neg (by omega), if_neg (by omega)]; rfl)
              have o1 := or_240 (p : Int) (by omega) (by omega)
              have o2 := or_128 (c' : Int) (by omega) (by omega)
              have o3 := or_128 (s : Int) (by omega) (by omega)
              have o4 := or_128 (q2 : Int) (by omega) (by omega)
              have a1 : bits .and .i64 (m : Int) 63 = (c' : Int) := by rw [and_63 (m : Int) (by omega) (by omega), hc]
              have a2 := and_63 (r : Int) (by omega) (by omega)
              rw [hs] at a2
              have a3 := and_63 (q : Int) (by omega) (by omega)
              rw [hq2] at a3
              clear hc hs hq2
              go_wp2_with (first | (at_builtin; refine wpList_apps (.tmp 12) (.tmp 31) 120 rfl elemByte (by decide) w.heap.size _ _ _ hown (by simp [Value.oneCell']) (by simp; omega) (by first | exact Nat.le_refl _ | assumption | (have := hb.size; omega)) rfl rfl rfl ?_; intro v' w1 hown' hb1))
              go_roundw
              case rel =>
                have HO : Own w.heap.size 5 w1 v' ((M.bytes8 (xs.take (k + 1))).map byteVal) := by rw [HT.out, List.map_append, HR.out]; exact hown'
                have HB : (M.bytes8 (xs.take (k + 1))).length ≤ 4 * (k + 1) := by rw [HT.out, List.length_append, HL.out]; omega
                exact ⟨k + 1, by omega, by go_num, HB, HO, hb.upto hb1 (Nat.le_refl _)⟩
              case measure => simp [intOf]; omega
    · obtain rfl : k = xs.length := by omega
      have HT := Lib.hid (show xs.take xs.length = xs from List.take_length)
      rw [HT.out] at hown
      go_wp2_with (first | ((with_reducible show wpList _ _ _ _ _ _); refine wpList_toString rfl (.tmp 75) _ _ 5 rfl Tryz.underlying120 Tryz.underlying5 Tryz.underlying9 w.heap.size _ (M.bytes8 xs) rfl hown ?_))
      go_ret
      exact ⟨rfl, hb⟩
theorem points_scalars (xs : List Int) (h : M.points xs = 0) : xs.length ≤ 3000 ∧ ∀ n ∈ xs, M.scalar n = true := by
  unfold M.points at h
  split at h
  · cases h
  · split at h
    · rename_i hs
      exact ⟨by omega, List.all_eq_true.1 hs⟩
    · cases h
theorem scalar_bounds (n : Int) (h : M.scalar n = true) : 0 ≤ n ∧ n ≤ 1114111 ∧ (n < 55296 ∨ 57343 < n) := by simpa [M.scalar] using h
end Go.Proofs.YteingkjdemlhgaaGreatDoor

/-
  Package utf16: what All, Decode, Encode compute.
-/
namespace Go.Proofs.YteingkjdemlhgaaGreatDoor
open Go.RowKit
set_option maxRecDepth 1000000
theorem told16_to (big : Bool) (s : ByteArray) (xs : List Int) (l : List UInt8) (h : M.told16 big s.data.toList = (xs, l)) (hs : s.size ≤ 68719476735) (w : World) : Calls Tryz.prog 136 #[.bool big, .string s] w fun e w' => ∃ v, e = .returned (.tuple #[v, .string ⟨l.toArray⟩]) ∧ Own w.heap.size 3 w' v (xs.map (Value.int .i64)) ∧ Bel w w' := by
  have := told16_any big s hs w; rw [h] at this; exact this
theorem all16_any (big : Bool) (s : ByteArray) (hs : s.size ≤ 68719476734) (w : World) : Calls Tryz.prog 93 #[.bool big, .string s] w fun e w' => ∃ v, e = .returned v ∧ Own w.heap.size 3 w' v ((M.all16 big s.data.toList).map (Value.int .i64)) ∧ Bel w w' := by
  obtain ⟨⟨xs, l⟩, ht⟩ : ∃ r, M.told16 big s.data.toList = r := ⟨_, rfl⟩
  have hlen := (M.told16_len big _ s.data.toList (Nat.le_refl _)).1
  rw [ht, ← Lib.size_eq] at hlen
  have Ht := Lib.hid ht
  by_cases he : l = []
  · subst he
    have HA := Lib.hid (show M.all16 big s.data.toList = xs by rw [M.all16, ht, if_pos rfl])
    clear ht hlen
    go_enter Tryz.func93, Tryz.ntmps93
    go_wp2_with (go_at_call 136; refine (told16_to _ _ _ _ Ht.out (by omega) _).mono ?_; rintro e w' ⟨v, rfl, ho, hb⟩)
    go_ret
    rw [HA.out]
    exact ⟨_, rfl, by assumption, by assumption⟩
  · have HA := Lib.hid (show M.all16 big s.data.toList = xs ++ [65533] by rw [M.all16, ht, if_neg he])
    have e1 : (!l.isEmpty) = true := by simpa using he
    have hl2 : xs.length ≤ s.size := by simp only at hlen; omega
    clear ht hlen he
    go_enter Tryz.func93, Tryz.ntmps93
    go_wp2_with (first | (go_at_call 136; refine (told16_to _ _ _ _ Ht.out (by omega) _).mono ?_; rintro e w' ⟨v, rfl, ho, hb⟩; have hB := hb.size) | (at_builtin; refine wpList_app rfl (.tmp 15) (.tmp 16) 30 rfl elemInt (by decide) w.heap.size _ _ _ rfl rfl ho rfl (by simp; omega) (by first | exact Nat.le_refl _ | assumption | (have := hb.size; omega)) ?_; intro v' w1 hown' hb1))
    go_ret
    rw [HA.out]
    exact ⟨_, rfl, by rw [List.map_append]; exact hown', hb.upto hb1 (Nat.le_refl _)⟩
end Go.Proofs.YteingkjdemlhgaaGreatDoor

/-
  Package single: what table, All, Decode, Tells, Raw, Encode compute.
-/
namespace Go.Proofs.YteingkjdemlhgaaGreatDoor
open Go.RowKit
theorem high_any (w : World) : Calls Tryz.prog 149 #[] w fun e w' => e = .returned (.slice (some ⟨w.heap.size, 0, none⟩) 32 32) ∧ (∀ j, j < 32 → w'.cell? ⟨w.heap.size, j, none⟩ = some (.int .i64 (M.high[j]?.getD 0))) ∧ Bel w w' := by
  go_enter Tryz.func149, Tryz.ntmps149
  go_wp2
  go_ret
  refine ⟨rfl, fun j hj => ?_, (by repeat (first | exact Bel.refl _ | refine Bel.drewN ?_ _ | refine Bel.drew ?_ | refine Bel.alloc ?_ _ | refine Bel.trans ?_ (by assumption) | refine Bel.setCell ?_ (by simp; omega) _))⟩
  rw [World.cell?_alloc_new]
  have h2 : j < M.high.length := hj
  show (M.high.map (Value.int .i64)).toArray[j]? = _
  rw [List.getElem?_toArray, List.getElem?_map, List.getElem?_eq_getElem h2]
  rfl
theorem table_len (user : Bool) : (M.tableOf user).length = 256 := by simp [M.tableOf]
theorem table_at (user : Bool) (k : Nat) (hk : k < 256) : (M.tableOf user)[k]? = some (M.pointOf user k) := by simp [M.tableOf, hk]
set_option maxRecDepth 100000 in
theorem table_any (user : Bool) (w : World) : Calls Tryz.prog 132 #[.bool user] w fun e w' => ∃ v, e = .returned v ∧ Own w.heap.size 3 w' v ((M.tableOf user).map (Value.int .i64)) ∧ Bel w w' := by
  go_enter Tryz.func132, Tryz.ntmps132
  go_wp2_with fail
  go_loopw [3, 5] (fun v i wr => ∃ k : Nat, k ≤ 256 ∧ i = .int .i64 k ∧ Own w.heap.size 3 wr v (((M.tableOf user).take k).map (Value.int .i64)) ∧ Bel w wr) (fun _ i _ => 256 - (intOf i).toNat)
  case atStart => exact ⟨0, by omega, rfl, Own.nil _ _ _, Bel.refl _⟩
  case round =>
    obtain ⟨k, hk, rfl, hown, hb⟩ := hrel
    by_cases hlt : k < 256
    · have HT := Lib.hid (take_snoc (Value.int .i64) _ _ _ (table_at user k hlt))
      by_cases h1 : k < 128
      · have HP := Lib.hid (show M.pointOf user k = (k : Int) by rw [M.pointOf, if_pos h1])
        go_wp2_with (first | (at_builtin; refine wpList_app rfl (.tmp 8) (.tmp 10) 30 rfl elemInt (by decide) w.heap.size _ _ _ rfl rfl hown rfl (by simp; omega) (by first | exact Nat.le_refl _ | assumption | (have := hb.size; omega)) ?_; intro v' w1 hown' hb1))
        go_roundw
        case rel => exact ⟨k + 1, by omega, by go_num, by rw [HT.out, HP.out]; exact hown', hb.upto hb1 (Nat.le_refl _)⟩
        case measure => simp [intOf]; omega
      · cases user
        · by_cases h2 : k < 160
          · have HP := Lib.hid (show M.pointOf false k = M.high[k - 128]?.getD 0 by rw [M.pointOf, if_neg h1, if_neg (by simp), if_pos h2])
            go_wp2_with (first | (go_at_call 149; refine (high_any _).mono ?_; rintro e w' ⟨rfl, hc, hb2⟩; have hc' := hc (k - 128) (by omega); have hown2 := hown.bel hb2; have hb3 := hb.trans hb2) | (at_builtin; refine wpList_app rfl (.tmp 31) (.tmp 37) 30 rfl elemInt (by decide) w.heap.size _ _ _ rfl rfl hown2 rfl (by simp; omega) (by have := hb3.size; omega) ?_; intro v' w1 hown' hb1))
            go_roundw
            case rel => exact ⟨k + 1, by omega, by go_num, by rw [HT.out, HP.out]; exact hown', hb3.upto hb1 (Nat.le_refl _)⟩
            case measure => simp [intOf]; omega
          · have HP := Lib.hid (show M.pointOf false k = (k : Int) by rw [M.pointOf, if_neg h1, if_neg (by simp), if_neg h2])
            go_wp2_with (first | (at_builtin; refine wpList_app rfl (.tmp 8) (.tmp 10) 30 rfl elemInt (by decide) w.heap.size _ _ _ rfl rfl hown rfl (by simp; omega) (by first | exact Nat.le_refl _ | assumption | (have := hb.size; omega)) ?_; intro v' w1 hown' hb1))
            go_roundw
            case rel => exact ⟨k + 1, by omega, by go_num, by rw [HT.out, HP.out]; exact hown', hb.upto hb1 (Nat.le_refl _)⟩
            case measure => simp [intOf]; omega
        · have HP := Lib.hid (show M.pointOf true k = 63232 + (k : Int) by rw [M.pointOf, if_neg h1, if_pos rfl])
          have e1 : (63360 : Int) + (k : Int) - 128 = 63232 + (k : Int) := by omega
          have E1 := Lib.hid e1
          clear e1
          go_wp2_with (first | (at_builtin; refine wpList_app rfl (.tmp 18) (.tmp 22) 30 rfl elemInt (by decide) w.heap.size _ _ _ rfl rfl hown rfl (by simp; omega) (by first | exact Nat.le_refl _ | assumption | (have := hb.size; omega)) ?_; intro v' w1 hown' hb1))
          go_roundw
          case rel => exact ⟨k + 1, by omega, by go_num, by rw [HT.out, HP.out, ← E1.out]; exact hown', hb.upto hb1 (Nat.le_refl _)⟩
          case measure => simp [intOf]; omega
    · obtain rfl : k = 256 := by omega
      have HT := Lib.hid (show (M.tableOf user).take 256 = M.tableOf user by rw [List.take_of_length_le (by rw [table_len]; exact Nat.le_refl _)])
      go_wp2_with fail
      go_ret
      exact ⟨_, rfl, by rw [← HT.out]; exact hown, hb⟩
theorem index_any (v : Value) (xs : List Int) (n : Int) (w : World) (hv : IntSl w v xs) (hl : xs.length ≤ 68719476736) : Calls Tryz.prog 138 #[v, .int .i64 n] w fun e w' => e = .returned (.int .i64 (M.idx xs n)) ∧ w = w' := by
  obtain ⟨a, c, rfl, hc1, hc2, hn, hx⟩ := hv
  unfold maxLen at hc2
  go_enter Tryz.func138, Tryz.ntmps138
  go_wp2_with fail
  go_loop [8] (fun i => ∃ k : Nat, k ≤ xs.length ∧ i = .int .i64 k ∧ ∀ j, j < k → xs[j]? ≠ some n) (fun i => xs.length - (intOf i).toNat)
  case atStart => exact ⟨0, by omega, rfl, fun j hj => by omega⟩
  case round =>
    obtain ⟨k, hk, rfl, hno⟩ := hrel
    have Hno := Lib.hid hno
    clear hno
    by_cases hlt : k < xs.length
    · obtain ⟨y, hy⟩ : ∃ y, xs[k]? = some y := ⟨_, List.getElem?_eq_getElem hlt⟩
      cases a with
      | none => rw [hn rfl] at hlt; simp at hlt
      | some x =>
        have hcell := hx x rfl k y hy
        by_cases he : n = y
        · subst he
          have HF := Lib.hid (M.idx_found xs n k hy Hno.out)
          clear hy hx hn
          go_wp2_with fail
          go_ret
          exact ⟨by rw [HF.out]; rfl, rfl⟩
        · have hne : (n == y) = false := by simpa using he
          have HF := Lib.hid (show ∀ j, j < k + 1 → xs[j]? ≠ some n by
            intro j hj hh
            by_cases hjk : j < k
            · exact Hno.out j hjk hh
            · obtain rfl : j = k := by omega
              rw [hy] at hh; injection hh with hh; exact he hh.symm)
          clear hy hx hn he
          go_wp2_with fail
          go_round
          case rel => exact ⟨k + 1, by omega, by go_num, HF.out⟩
          case measure => simp [intOf]; omega
    · obtain rfl : k = xs.length := by omega
      have HF := Lib.hid (M.idx_none xs n Hno.out)
      go_wp2_with fail
      go_ret
      exact ⟨by rw [HF.out]; rfl, rfl⟩
theorem table_row (user : Bool) (w : World) : Calls Tryz.prog 132 #[.bool user] w fun e w' => ∃ g c, e = .returned (.slice (some ⟨g, 0, none⟩) 256 c) ∧ 256 ≤ c ∧ c ≤ 9223372036854775807 ∧ w.heap.size ≤ g ∧ g < w'.heap.size ∧ (∀ k, k < 256 → w'.cell? ⟨g, k, none⟩ = some (.int .i64 (M.pointOf user k))) ∧ IntSl w' (.slice (some ⟨g, 0, none⟩) 256 c) (M.tableOf user) ∧ Bel w w' := by
  refine (table_any user w).mono ?_
  rintro e w' ⟨v, rfl, hown, hb⟩
  have hi := hown.ints
  obtain ⟨A, c, hv, h1, h2, h3, h4⟩ := hown.form
  rw [List.length_map, table_len] at hv h1
  cases A with
  | none =>
    have h5 := congrArg List.length (h3 rfl)
    rw [List.length_map, table_len] at h5
    cases h5
  | some x =>
    obtain ⟨g, o, p⟩ := x
    obtain ⟨rfl, rfl, h5, h6, _, h7⟩ := h4 g o p rfl
    subst hv
    refine ⟨g, c, rfl, h1, h2, h5, h6, fun k hk => h7 k _ (by rw [List.getElem?_map, table_at user k hk]; rfl), hi, hb⟩
set_option maxRecDepth 100000 in
theorem all_any (user : Bool) (s : ByteArray) (w : World) (hs : s.size ≤ 68719476735) : Calls Tryz.prog 94 #[.bool user, .string s] w fun e w' => ∃ v, e = .returned v ∧ Own w.heap.size 3 w' v ((M.decodeS user s.data.toList).map (Value.int .i64)) ∧ Bel w w' := by
  have HS := Lib.hid (Lib.size_eq s)
  go_enter Tryz.func94, Tryz.ntmps94
  go_wp2_with (first | (go_at_call 132; refine (table_row _ _).mono ?_; rintro e w' ⟨g, c, rfl, hc1, hc2, hg0, hg, hcell, _, hb⟩) | ((with_reducible show wpList _ _ _ _ _ _); refine wpList_toBytes rfl (.tmp 11) _ _ 5 rfl Tryz.underlying9 Tryz.underlying120 Tryz.underlying5 s rfl (by omega) ?_; intro cb w2 hb2 hg2 hcb1 hcb2 hcellb _))
  have hgl : g < w2.heap.size := hb2.lt hg
  go_loopw [6, 14] (fun v i wr => ∃ k : Nat, k ≤ s.size ∧ i = .int .i64 k ∧ Own w2.heap.size 3 wr v (((M.decodeS user s.data.toList).take k).map (Value.int .i64)) ∧ Below w2.heap.size w2 wr) (fun _ i _ => s.size - (intOf i).toNat)
  case atStart => exact ⟨0, by omega, rfl, Own.nil _ _ _, Below.refl _ _⟩
  case round =>
    obtain ⟨k, hk, rfl, hown, hb⟩ := hrel
    by_cases hlt : k < s.size
    · obtain ⟨c, hc⟩ : ∃ c, s.data.toList[k]? = some c := ⟨_, List.getElem?_eq_getElem (by rw [← Lib.size_eq]; exact hlt)⟩
      have hcl : c.toNat < 256 := c.toNat_lt
      have h1 : wr.cell? ⟨w'.heap.size, k, none⟩ = some (.int .u8 (c.toNat : Int)) := (hb.cell (p := ⟨_, k, none⟩) hg2).trans (hcellb k c hc)
      have h2 : wr.cell? ⟨g, c.toNat, none⟩ = some (.int .i64 (M.pointOf user c.toNat)) := (hb.cell (p := ⟨g, _, none⟩) hgl).trans ((hb2.cell (p := ⟨g, _, none⟩) hg).trans (hcell _ hcl))
      have HT := Lib.hid (take_snoc (Value.int .i64) (M.decodeS user s.data.toList) k (M.pointOf user c.toNat) (by rw [M.decodeS, List.getElem?_map, hc]; rfl))
      have hlen : ((M.decodeS user s.data.toList).take k).length ≤ k := List.length_take_le _ _
      clear hcellb hcell hc
      go_wp2_with (first | (at_builtin; refine wpList_app rfl (.tmp 18) (.tmp 23) 30 rfl elemInt (by decide) w2.heap.size _ _ _ rfl rfl hown rfl (by simp; omega) (by first | exact Nat.le_refl _ | assumption | (have := hb.size; omega)) ?_; intro v' w1 hown' hb1))
      go_roundw
      case rel => exact ⟨k + 1, by omega, by go_num, by rw [HT.out]; exact hown', hb.trans hb1⟩
      case measure => simp [intOf]; omega
    · obtain rfl : k = s.size := by omega
      have HT := Lib.hid (show (M.decodeS user s.data.toList).take s.size = M.decodeS user s.data.toList by rw [List.take_of_length_le (by rw [M.decodeS, List.length_map, ← Lib.size_eq]; exact Nat.le_refl _)])
      go_wp2_with fail
      go_ret
      exact ⟨_, rfl, by rw [← HT.out]; exact hown.mono (Nat.le_trans (by assumption : Bel w w').size hb2.size), Bel.upto (Bel.trans (by assumption : Bel w w') hb2) hb (Nat.le_trans (by assumption : Bel w w').size hb2.size)⟩
theorem tells_any (user : Bool) (n : Int) (w : World) : Calls Tryz.prog 98 #[.bool user, .int .i64 n] w fun e w' => e = .returned (.tuple #[.int .i64 (M.tellsS user n).1, .int .i64 (M.tellsS user n).2]) ∧ Bel w w' := by
  have HE := Lib.hid (show M.idx (M.tableOf user) n = M.byteOf user n from rfl)
  by_cases h : M.byteOf user n < 0
  · have H := Lib.hid (show M.tellsS user n = (0, 5) by rw [M.tellsS, if_pos h])
    go_enter Tryz.func98, Tryz.ntmps98
    go_wp2_with (first | (go_at_call 132; refine (table_row _ _).mono ?_; rintro e w' ⟨g, c, rfl, hc1, hc2, hg0, hg, hcell, hi, hb⟩) | (go_at_call 138; refine (index_any _ _ _ _ hi (by rw [table_len]; omega)).mono ?_; rintro e w' ⟨rfl, rfl⟩; rw [HE.out]))
    go_ret2
    rw [H.out]
    exact ⟨rfl, (by repeat (first | exact Bel.refl _ | refine Bel.drewN ?_ _ | refine Bel.drew ?_ | refine Bel.alloc ?_ _ | refine Bel.trans ?_ (by assumption) | refine Bel.setCell ?_ (by simp; omega) _))⟩
  · have H := Lib.hid (show M.tellsS user n = (M.byteOf user n, 0) by rw [M.tellsS, if_neg h])
    go_enter Tryz.func98, Tryz.ntmps98
    go_wp2_with (first | (go_at_call 132; refine (table_row _ _).mono ?_; rintro e w' ⟨g, c, rfl, hc1, hc2, hg0, hg, hcell, hi, hb⟩) | (go_at_call 138; refine (index_any _ _ _ _ hi (by rw [table_len]; omega)).mono ?_; rintro e w' ⟨rfl, rfl⟩; rw [HE.out]))
    go_ret2
    rw [H.out]
    exact ⟨rfl, (by repeat (first | exact Bel.refl _ | refine Bel.drewN ?_ _ | refine Bel.drew ?_ | refine Bel.alloc ?_ _ | refine Bel.trans ?_ (by assumption) | refine Bel.setCell ?_ (by simp; omega) _))⟩
end Go.Proofs.YteingkjdemlhgaaGreatDoor

/-
  Package kana: plain, sign, shifts, the teller's two methods.
-/
namespace Go.Proofs.YteingkjdemlhgaaGreatDoor
open Go.RowKit
set_option maxRecDepth 1000000
def plainN (c : Nat) : Bool := decide (c < 128 ∧ c ≠ 14 ∧ c ≠ 15 ∧ c ≠ 27)
theorem plainK_any (c : Nat) (hc : c < 256) (w : World) : Calls Tryz.prog 183 #[.int .u8 (c : Int)] w fun e w' => e = .returned (.bool (plainN c)) ∧ w = w' := by
  by_cases h0 : c < 128
  · by_cases h1 : c = 14
    · subst h1
      go_enter Tryz.func183, Tryz.ntmps183
      go_wp2
      go_ret
      exact ⟨rfl, rfl⟩
    · by_cases h2 : c = 15
      · subst h2
        go_enter Tryz.func183, Tryz.ntmps183
        go_wp2
        go_ret
        exact ⟨rfl, rfl⟩
      · by_cases h3 : c = 27
        · subst h3
          go_enter Tryz.func183, Tryz.ntmps183
          go_wp2
          go_ret
          exact ⟨rfl, rfl⟩
        · have e1 : ((c : Int) != 14) = true := by rw [bne_iff_ne]; omega
          have e2 : ((c : Int) != 15) = true := by rw [bne_iff_ne]; omega
          have e3 : ((c : Int) != 27) = true := by rw [bne_iff_ne]; omega
          have H := Lib.hid (show plainN c = true by rw [plainN, decide_eq_true_eq]; omega)
          clear h1 h2 h3
          go_enter Tryz.func183, Tryz.ntmps183
          go_wp2
          go_ret
          rw [H.out]
          exact ⟨rfl, rfl⟩
  · have H := Lib.hid (show plainN c = false by rw [plainN, decide_eq_false_iff_not]; omega)
    have h1 : (128 : Int) ≤ (c : Int) := by omega
    go_enter Tryz.func183, Tryz.ntmps183
    go_wp2
    go_ret
    rw [H.out]
    exact ⟨rfl, rfl⟩
theorem plainK_to (c : Nat) (hc : c < 256) (b : Bool) (h : plainN c = b) (w : World) : Calls Tryz.prog 183 #[.int .u8 (c : Int)] w fun e w' => e = .returned (.bool b) ∧ w = w' := by
  have := plainK_any c hc w; rw [h] at this; exact this
theorem sign_any (g : Int) (c : Nat) (hc : c < 256) (w : World) : Calls Tryz.prog 162 #[.int .i64 g, .int .u8 (c : Int)] w fun e w' => e = .returned (.int .i64 (M.signK g c)) ∧ w = w' := by
  have HP := Lib.hid (show plainN c = plainN c from rfl)
  by_cases hA : g = 2
  · subst hA
    by_cases h1 : 33 ≤ c
    · by_cases h2 : c ≤ 95
      · have E1 := Lib.hid (show (65377 : Int) + (c : Int) - 33 = 65344 + (c : Int) by omega)
        have H := Lib.hid (show M.signK 2 c = 65377 + (c : Int) - 33 by rw [E1.out, M.signK, if_pos ⟨rfl, h1, h2⟩])
        clear HP
        go_enter Tryz.func162, Tryz.ntmps162
        go_wp2
        go_ret
        rw [H.out]
        exact ⟨rfl, rfl⟩
      · have H := Lib.hid (show M.signK 2 c = 65533 by rw [M.signK, if_neg (by omega), if_pos (.inl rfl)])
        have h3 : (95 : Int) < (c : Int) := by omega
        clear HP
        go_enter Tryz.func162, Tryz.ntmps162
        go_wp2
        go_ret
        rw [H.out]
        exact ⟨rfl, rfl⟩
    · have H := Lib.hid (show M.signK 2 c = 65533 by rw [M.signK, if_neg (by omega), if_pos (.inl rfl)])
      have h3 : (c : Int) < 33 := by omega
      clear HP
      go_enter Tryz.func162, Tryz.ntmps162
      go_wp2
      go_ret
      rw [H.out]
      exact ⟨rfl, rfl⟩
  · have e2 : (g == 2) = false := by simpa using hA
    cases hp : plainN c with
    | false =>
      have HP := Lib.hid hp
      have H := Lib.hid (show M.signK g c = 65533 by
        rw [plainN, decide_eq_false_iff_not] at hp
        rw [M.signK, if_neg (by omega), if_pos (by omega)])
      clear hp hA
      go_enter Tryz.func162, Tryz.ntmps162
      go_wp2_with (first | (go_at_call 183; refine (plainK_to _ hc _ HP.out _).mono ?_; rintro e w' ⟨rfl, rfl⟩))
      go_ret
      rw [H.out]
      exact ⟨rfl, rfl⟩
    | true =>
      have HP := Lib.hid hp
      rw [plainN, decide_eq_true_eq] at hp
      have hs : M.signK g c = if g = 1 ∧ c = 92 then 165 else if g = 1 ∧ c = 126 then 8254 else (c : Int) := by
        rw [M.signK, if_neg (by omega), if_neg (by omega)]
      by_cases hB : g = 1
      · subst hB
        by_cases h1 : c = 92
        · subst h1
          have H := Lib.hid hs
          clear hs hp
          go_enter Tryz.func162, Tryz.ntmps162
          go_wp2_with (first | (go_at_call 183; refine (plainK_to _ hc _ HP.out _).mono ?_; rintro e w' ⟨rfl, rfl⟩))
          go_ret
          rw [H.out]
          exact ⟨rfl, rfl⟩
        · by_cases h2 : c = 126
          · subst h2
            have H := Lib.hid hs
            clear hs hp
            go_enter Tryz.func162, Tryz.ntmps162
            go_wp2_with (first | (go_at_call 183; refine (plainK_to _ hc _ HP.out _).mono ?_; rintro e w' ⟨rfl, rfl⟩))
            go_ret
            rw [H.out]
            exact ⟨rfl, rfl⟩
          · have H := Lib.hid (show M.signK 1 c = (c : Int) by rw [hs, if_neg (by omega), if_neg (by omega)])
            have e3 : ((c : Int) == 92) = false := by rw [beq_eq_false_iff_ne]; omega
            have e4 : ((c : Int) == 126) = false := by rw [beq_eq_false_iff_ne]; omega
            clear hs hp h1 h2
            go_enter Tryz.func162, Tryz.ntmps162
            go_wp2_with (first | (go_at_call 183; refine (plainK_to _ hc _ HP.out _).mono ?_; rintro e w' ⟨rfl, rfl⟩))
            go_ret
            rw [H.out]
            exact ⟨rfl, rfl⟩
      · have e1 : (g == 1) = false := by simpa using hB
        have H := Lib.hid (show M.signK g c = (c : Int) by rw [hs, if_neg (by omega), if_neg (by omega)])
        clear hs hp hA hB
        go_enter Tryz.func162, Tryz.ntmps162
        go_wp2_with (first | (go_at_call 183; refine (plainK_to _ hc _ HP.out _).mono ?_; rintro e w' ⟨rfl, rfl⟩))
        go_ret
        rw [H.out]
        exact ⟨rfl, rfl⟩
theorem esc_at (x : UInt8) : M.escK x = if (66 : Int) = (x.toNat : Int) then some 0 else if (74 : Int) = (x.toNat : Int) then some 1 else if (73 : Int) = (x.toNat : Int) then some 2 else none := by
  have key : ∀ n : Nat, n < 256 → (x = UInt8.ofNat n ↔ (n : Int) = (x.toNat : Int)) := fun n hn => by
    constructor
    · rintro rfl; rw [UInt8.toNat_ofNat_of_lt' hn]
    · intro h; apply UInt8.toNat_inj.1; rw [UInt8.toNat_ofNat_of_lt' hn]; omega
  unfold M.escK
  have k1 := key 66 (by decide)
  have k2 := key 74 (by decide)
  have k3 := key 73 (by decide)
  simp only [show (UInt8.ofNat 66) = 66 from rfl, show (UInt8.ofNat 74) = 74 from rfl, show (UInt8.ofNat 73) = 73 from rfl] at k1 k2 k3
  simp only [k1, k2, k3]
  rfl
def shiftsM (t : List UInt8) : Int × Bool := match M.headK t with | some k => (k, true) | none => (-1, !M.waitK t)
theorem shifts_any (s : ByteArray) (c : UInt8) (t : List UInt8) (hs : s.data.toList = c :: t) (hsz : s.size ≤ 68719476735) (w : World) : Calls Tryz.prog 163 #[.string s] w fun e w' => e = .returned (.tuple #[.int .i64 (shiftsM t).1, .bool (shiftsM t).2]) ∧ ∃ q, w.drewN q = w' := by
  have hl : s.size = t.length + 1 := by rw [Lib.size_eq, hs]; rfl
  have c66 : (⟨#[66, 74, 73]⟩ : ByteArray)[0].toNat = 66 := rfl
  have c74 : (⟨#[66, 74, 73]⟩ : ByteArray)[1].toNat = 74 := rfl
  have c73 : (⟨#[66, 74, 73]⟩ : ByteArray)[2].toNat = 73 := rfl
  rcases t with _ | ⟨d, _ | ⟨x, u⟩⟩
  · have h1 : s.size ≤ 1 := by rw [hl]; simp
    have H := Lib.hid (show shiftsM [] = (-1, false) from rfl)
    clear hs hl
    go_enter Tryz.func163, Tryz.ntmps163
    go_wp2_with fail
    go_ret2
    rw [H.out]
    exact ⟨rfl, 0, rfl⟩
  · obtain ⟨k1, h1⟩ := head_at s 1 d (by rw [hs]; rfl)
    have hle : s.size ≤ 2 := by rw [hl]; simp
    clear hs hl
    by_cases hd : d = 40
    · subst hd
      have H := Lib.hid (show shiftsM [40] = (-1, false) from rfl)
      go_enter Tryz.func163, Tryz.ntmps163
      go_wp2_with fail
      go_ret2
      rw [H.out]
      exact ⟨rfl, 0, rfl⟩
    · have e1 : ((d.toNat : Int) != 40) = true := by
        rw [bne_iff_ne]; intro hh; apply hd; apply UInt8.toNat_inj.1; show d.toNat = 40; omega
      have H := Lib.hid (show shiftsM [d] = (-1, true) by simp [shiftsM, M.headK, M.waitK, hd])
      clear hd
      go_enter Tryz.func163, Tryz.ntmps163
      go_wp2_with fail
      go_ret2
      rw [H.out]
      exact ⟨rfl, 0, rfl⟩
  · obtain ⟨k1, h1⟩ := head_at s 1 d (by rw [hs]; rfl)
    obtain ⟨k2, h2⟩ := head_at s 2 x (by rw [hs]; rfl)
    have hge : 3 ≤ s.size := by simp only [List.length_cons] at hl; omega
    clear hs hl
    by_cases hd : d = 40
    · subst hd
      have hM : shiftsM (40 :: x :: u) = match M.escK x with | some k => (k, true) | none => (-1, true) := by
        simp only [shiftsM, M.headK, if_true, M.waitK]
        cases M.escK x <;> simp
      rw [esc_at] at hM
      have hxl := x.toNat_lt
      by_cases g1 : (66 : Int) = (x.toNat : Int)
      · have H := Lib.hid (show shiftsM (40 :: x :: u) = (0, true) by rw [hM, if_pos g1])
        have e1 : ((66 : Int) == (x.toNat : Int)) = true := by simpa using g1
        clear hM g1
        go_enter Tryz.func163, Tryz.ntmps163
        go_wp2_with fail
        refine wp_loop_rounds 4 ?_
        rw [rounds_succ]
        go_wp2_with fail
        all_goals try (go_quiet (fail); go_wp2_with fail)
        all_goals try (rw [rounds_succ]; go_wp2_with fail)
        all_goals try (go_quiet (fail); go_wp2_with fail)
        all_goals try (rw [rounds_succ]; go_wp2_with fail)
        all_goals try (go_quiet (fail); go_wp2_with fail)
        all_goals try (rw [rounds_succ]; go_wp2_with fail)
        go_ret2
        rw [H.out]
        refine ⟨rfl, ?_⟩
        try simp only [World.drewN_drewN]
        exact ⟨_, rfl⟩
      · have e1 : ((66 : Int) == (x.toNat : Int)) = false := by simpa using g1
        rw [if_neg g1] at hM
        by_cases g2 : (74 : Int) = (x.toNat : Int)
        · have H := Lib.hid (show shiftsM (40 :: x :: u) = (1, true) by rw [hM, if_pos g2])
          have e2 : ((74 : Int) == (x.toNat : Int)) = true := by simpa using g2
          clear hM g1 g2
          go_enter Tryz.func163, Tryz.ntmps163
          go_wp2_with fail
          refine wp_loop_rounds 4 ?_
          rw [rounds_succ]
          go_wp2_with fail
          all_goals try (go_quiet (fail); go_wp2_with fail)
          all_goals try (rw [rounds_succ]; go_wp2_with fail)
          all_goals try (go_quiet (fail); go_wp2_with fail)
          all_goals try (rw [rounds_succ]; go_wp2_with fail)
          all_goals try (go_quiet (fail); go_wp2_with fail)
          all_goals try (rw [rounds_succ]; go_wp2_with fail)
          go_ret2
          rw [H.out]
          refine ⟨rfl, ?_⟩
          try simp only [World.drewN_drewN]
          exact ⟨_, rfl⟩
        · have e2 : ((74 : Int) == (x.toNat : Int)) = false := by simpa using g2
          rw [if_neg g2] at hM
          by_cases g3 : (73 : Int) = (x.toNat : Int)
          · have H := Lib.hid (show shiftsM (40 :: x :: u) = (2, true) by rw [hM, if_pos g3])
            have e3 : ((73 : Int) == (x.toNat : Int)) = true := by simpa using g3
            clear hM g1 g2 g3
            go_enter Tryz.func163, Tryz.ntmps163
            go_wp2_with fail
            refine wp_loop_rounds 4 ?_
            rw [rounds_succ]
            go_wp2_with fail
            all_goals try (go_quiet (fail); go_wp2_with fail)
            all_goals try (rw [rounds_succ]; go_wp2_with fail)
            all_goals try (go_quiet (fail); go_wp2_with fail)
            all_goals try (rw [rounds_succ]; go_wp2_with fail)
            all_goals try (go_quiet (fail); go_wp2_with fail)
            all_goals try (rw [rounds_succ]; go_wp2_with fail)
            go_ret2
            rw [H.out]
            refine ⟨rfl, ?_⟩
            try simp only [World.drewN_drewN]
            exact ⟨_, rfl⟩
          · have H := Lib.hid (show shiftsM (40 :: x :: u) = (-1, true) by rw [hM, if_neg g3])
            have e3 : ((73 : Int) == (x.toNat : Int)) = false := by simpa using g3
            clear hM g1 g2 g3
            go_enter Tryz.func163, Tryz.ntmps163
            go_wp2_with fail
            refine wp_loop_rounds 4 ?_
            rw [rounds_succ]
            go_wp2_with fail
            all_goals try (go_quiet (fail); go_wp2_with fail)
            all_goals try (rw [rounds_succ]; go_wp2_with fail)
            all_goals try (go_quiet (fail); go_wp2_with fail)
            all_goals try (rw [rounds_succ]; go_wp2_with fail)
            all_goals try (go_quiet (fail); go_wp2_with fail)
            all_goals try (rw [rounds_succ]; go_wp2_with fail)
            go_ret2
            rw [H.out]
            refine ⟨rfl, ?_⟩
            try simp only [World.drewN_drewN]
            exact ⟨_, rfl⟩
    · have e1 : ((d.toNat : Int) != 40) = true := by
        rw [bne_iff_ne]; intro hh; apply hd; apply UInt8.toNat_inj.1; show d.toNat = 40; omega
      have H := Lib.hid (show shiftsM (d :: x :: u) = (-1, true) by simp [shiftsM, M.headK, M.waitK, hd])
      clear hd
      go_enter Tryz.func163, Tryz.ntmps163
      go_wp2_with fail
      go_ret2
      rw [H.out]
      exact ⟨rfl, 0, rfl⟩
theorem below_set {g : Nat} {a w : World} (h : Below g a w) (i : Nat) (u : Value) : Below g a (w.setCell ⟨g, i, none⟩ u) := Below.setCell h (Nat.le_refl _) u
/-- What a teller tells: one code point for one byte. -/
theorem tellK_any (g : Nat) (sg : Int) (fr : Bool) (s : ByteArray) (v : Value) (xs : List Int) (n : Int) (B : Nat) (w : World) (hB : Box w g 187 [.int .i64 sg, .bool fr, .string s, v]) (hown : Own B 3 w v (xs.map (Value.int .i64))) (hg : g < B) (hBw : B ≤ w.heap.size) (hpos : 0 < s.size) (hsz : s.size ≤ 68719476735) (hl : xs.length < 68719476736) :
    Calls Tryz.prog 161 #[.pointer (some ⟨g, 0, none⟩), .int .i64 n] w fun e w' => e = .returned (.tuple #[]) ∧ ∃ v', Box w' g 187 [.int .i64 sg, .bool false, .string (s.extract 1 s.size), v'] ∧ Own B 3 w' v' ((xs ++ [n]).map (Value.int .i64)) ∧ Below g w w' := by
  have c1 := hB.cell 3 _ rfl
  go_enter Tryz.func161, Tryz.ntmps161
  go_wp2_with (first | ((at_builtin; refine wpList_app rfl (.tmp 8) (.tmp 10) 30 rfl elemInt (by decide) B _ _ _ rfl rfl hown rfl (by simp; omega) (by first | exact Nat.le_refl _ | assumption | (have := hb.size; omega)) ?_; intro v' w1 hown' hb1); have h3 := hB.upto hb1 hg; have d0 := h3.cell 0 _ rfl; have d1 := h3.cell 1 _ rfl; have d2 := h3.cell 2 _ rfl; have d3 := h3.cell 3 _ rfl; have e0 := h3.frozen 0; have e1 := h3.frozen 1; have e2 := h3.frozen 2; have e3 := h3.frozen 3; obtain ⟨A', c', hv', _⟩ := hown'.form; simp at hv'; subst hv'))
  go_end0
  refine ⟨rfl, _, ((h3.set 3 _).set 2 _).set 1 _, ?_, ?_⟩
  · rw [List.map_append]
    exact ((hown'.setCell (p := ⟨g, 3, none⟩) hg _).setCell (p := ⟨g, 2, none⟩) hg _).setCell (p := ⟨g, 1, none⟩) hg _
  · exact below_set (below_set (below_set (Below.mono hb1 (Nat.le_of_lt hg)) _ _) _ _) _ _
theorem shiftK_any (g : Nat) (sg k : Int) (fr : Bool) (s : ByteArray) (v : Value) (xs : List Int) (B : Nat) (w : World) (hB : Box w g 187 [.int .i64 sg, .bool fr, .string s, v]) (hown : Own B 3 w v (xs.map (Value.int .i64))) (hg : g < B) (hBw : B ≤ w.heap.size) (hpos : 3 ≤ s.size) (hsz : s.size ≤ 68719476735) (hl : xs.length < 68719476736) :
    Calls Tryz.prog 164 #[.pointer (some ⟨g, 0, none⟩), .int .i64 k] w fun e w' => e = .returned (.tuple #[]) ∧ ∃ v', Box w' g 187 [.int .i64 k, .bool true, .string (s.extract 3 s.size), v'] ∧ Own B 3 w' v' ((xs ++ if fr = true then [65533] else []).map (Value.int .i64)) ∧ Below g w w' := by
  have c0 := hB.cell 0 _ rfl
  have c1 := hB.cell 1 _ rfl
  have c2 := hB.cell 2 _ rfl
  have c3 := hB.cell 3 _ rfl
  have f0 := hB.frozen 0
  have f1 := hB.frozen 1
  have f2 := hB.frozen 2
  have f3 := hB.frozen 3
  cases fr with
  | false =>
    go_enter Tryz.func164, Tryz.ntmps164
    go_wp2_with fail
    go_end0
    refine ⟨rfl, _, ((hB.set 0 _).set 1 _).set 2 _, ?_, ?_⟩
    · exact ((hown.setCell (p := ⟨g, 0, none⟩) hg _).setCell (p := ⟨g, 1, none⟩) hg _).setCell (p := ⟨g, 2, none⟩) hg _
    · exact below_set (below_set (below_set (Below.refl _ _) _ _) _ _) _ _
  | true =>
    go_enter Tryz.func164, Tryz.ntmps164
    go_wp2_with (first | ((at_builtin; refine wpList_app rfl (.tmp 13) (.tmp 14) 30 rfl elemInt (by decide) B _ _ _ rfl rfl hown rfl (by simp; omega) (by first | exact Nat.le_refl _ | assumption | (have := hb.size; omega)) ?_; intro v' w1 hown' hb1); have h3 := hB.upto hb1 hg; have d0 := h3.cell 0 _ rfl; have d1 := h3.cell 1 _ rfl; have d2 := h3.cell 2 _ rfl; have d3 := h3.cell 3 _ rfl; have e0 := h3.frozen 0; have e1 := h3.frozen 1; have e2 := h3.frozen 2; have e3 := h3.frozen 3; obtain ⟨A', c', hv', _⟩ := hown'.form; simp at hv'; subst hv'))
    go_end0
    refine ⟨rfl, _, (((h3.set 3 _).set 0 _).set 1 _).set 2 _, ?_, ?_⟩
    · exact (((hown'.setCell (p := ⟨g, 3, none⟩) hg _).setCell (p := ⟨g, 0, none⟩) hg _).setCell (p := ⟨g, 1, none⟩) hg _).setCell (p := ⟨g, 2, none⟩) hg _
    · exact below_set (below_set (below_set (below_set (Below.mono hb1 (Nat.le_of_lt hg)) _ _) _ _) _ _) _ _
end Go.Proofs.YteingkjdemlhgaaGreatDoor

/-
  Package kana: Told, All, Decode.
-/
namespace Go.Proofs.YteingkjdemlhgaaGreatDoor
open Go.RowKit
set_option maxRecDepth 1000000
theorem shifts_to (s : ByteArray) (c : UInt8) (t : List UInt8) (k : Int) (b : Bool) (h : shiftsM t = (k, b)) (hs : s.data.toList = c :: t) (hsz : s.size ≤ 68719476735) (w : World) : Calls Tryz.prog 163 #[.string s] w fun e w' => e = .returned (.tuple #[.int .i64 k, .bool b]) ∧ ∃ q, w.drewN q = w' := by
  have := shifts_any s c t hs hsz w; rw [h] at this; exact this
theorem sign_to (g : Int) (c : Nat) (n : Int) (h : M.signK g c = n) (hc : c < 256) (w : World) : Calls Tryz.prog 162 #[.int .i64 g, .int .u8 (c : Int)] w fun e w' => e = .returned (.int .i64 n) ∧ w = w' := by
  have := sign_any g c hc w; rw [h] at this; exact this
set_option maxHeartbeats 4000000 in
theorem toldK_any (g : Int) (f : Bool) (s : ByteArray) (last : Bool) (hs : s.size ≤ 68719476735) (w : World) : Calls Tryz.prog 137 #[.agg #[.int .i64 g, .bool f], .string s, .bool last] w fun e w' =>
    ∃ v, e = .returned (.tuple #[v, .agg #[.int .i64 (M.toldK last g f s.data.toList).2.1, .bool (M.toldK last g f s.data.toList).2.2.1], .string ⟨(M.toldK last g f s.data.toList).2.2.2.toArray⟩]) ∧ Own w.heap.size 3 w' v ((M.toldK last g f s.data.toList).1.map (Value.int .i64)) ∧ Bel w w' := by
  go_enter Tryz.func137, Tryz.ntmps137
  go_wp2_with fail
  go_loopw [] (fun wr => ∃ (s' : ByteArray) (xs : List Int) (sg : Int) (fr : Bool) (v : Value), Box wr (w.heap.size + 2) 187 [.int .i64 sg, .bool fr, .string s', v] ∧ Box wr (w.heap.size + 1) 163 [.int .i64 0, .bool false] ∧ xs.length + s'.size ≤ s.size ∧ Hid (M.toldK last g f s.data.toList = (xs ++ (M.toldK last sg fr s'.data.toList).1, (M.toldK last sg fr s'.data.toList).2)) ∧ Own (w.heap.size + 3) 3 wr v (xs.map (Value.int .i64)) ∧ Bel w wr) (fun wr => cellLen wr ⟨w.heap.size + 2, 2, none⟩)
  case atStart =>
    exact ⟨s, [], g, f, .slice none 0 0, (by have := Box.new ((w.alloc (.cells #[.int .i64 g, .bool f] 163)).alloc (.cells #[.int .i64 0, .bool false] 163)) 187 [.int .i64 g, .bool f, .string s, .slice none 0 0]; simpa using this), (by have := (Box.new (w.alloc (.cells #[.int .i64 g, .bool f] 163)) 163 [.int .i64 0, .bool false]).bel ((Bel.refl _).alloc (.cells #[.int .i64 g, .bool f, .string s, .slice none 0 0] 187)); simpa using this), by simp, Lib.hid (by simp), Own.nil _ _ _, (by repeat (first | exact Bel.refl _ | refine Bel.drewN ?_ _ | refine Bel.drew ?_ | refine Bel.alloc ?_ _ | refine Bel.trans ?_ (by assumption) | refine Bel.setCell ?_ (by simp; omega) _))⟩
  case round =>
    obtain ⟨s', xs, sg, fr, v, hB, hR, hle, HT, hown, hb⟩ := hrel
    have c0 := hB.cell 0 _ rfl
    have c1 := hB.cell 1 _ rfl
    have c2 := hB.cell 2 _ rfl
    have c3 := hB.cell 3 _ rfl
    have r0 := hR.cell 0 _ rfl
    have r1 := hR.cell 1 _ rfl
    have q0 := hR.frozen 0
    have q1 := hR.frozen 1
    have hsz : w.heap.size + 3 ≤ wr.heap.size := hB.lt
    by_cases he : s'.size = 0
    · have e0 : s'.data.toList = [] := List.eq_nil_of_length_eq_zero (by rw [← Lib.size_eq]; exact he)
      have HF := Lib.hid (show M.toldK last g f s.data.toList = (xs, sg, fr, []) by
        rw [HT.out, e0, M.toldK_nil]; simp)
      have e1 : (!s'.toList.isEmpty) = false := by rw [Lib.toList_data, e0]; rfl
      clear he e0
      go_wp2_with fail
      go_region
      go_wp2_with fail
      have d0 : ((wr.setCell ⟨w.heap.size + 1, 0, none⟩ (.int .i64 sg)).setCell ⟨w.heap.size + 1, 1, none⟩ (.bool fr)).drew.cell? ⟨w.heap.size + 1, 0, none⟩ = some (.int .i64 sg) := ((hR.set 0 _).set 1 _).cell 0 _ rfl
      have d1 : ((wr.setCell ⟨w.heap.size + 1, 0, none⟩ (.int .i64 sg)).setCell ⟨w.heap.size + 1, 1, none⟩ (.bool fr)).drew.cell? ⟨w.heap.size + 1, 1, none⟩ = some (.bool fr) := ((hR.set 0 _).set 1 _).cell 1 _ rfl
      refine bodyPost_ret (v := .tuple #[v, .agg #[.int .i64 sg, .bool fr], .string ⟨#[]⟩]) (by simp [results, Tryz.results137, go_sem, d0, d1]) rfl ?_
      rw [HF.out]
      exact ⟨_, rfl, (((hown.setCell (p := ⟨w.heap.size + 1, 0, none⟩) (by simp) _).setCell (p := ⟨w.heap.size + 1, 1, none⟩) (by simp) _).mono (by omega)).drew, ((hb.setCell (p := ⟨w.heap.size + 1, 0, none⟩) (by simp) _).setCell (p := ⟨w.heap.size + 1, 1, none⟩) (by simp) _).drew⟩
    · have hpos : 0 < s'.size := by omega
      obtain ⟨c, t, hct⟩ := cons_of_pos s' hpos
      obtain ⟨k0, h0⟩ := head_at s' 0 c (by rw [hct]; rfl)
      have e1 : (!s'.toList.isEmpty) = true := by rw [Lib.toList_data, hct]; rfl
      have hcl := c.toNat_lt
      have hts : s'.size = t.length + 1 := by rw [Lib.size_eq, hct]; rfl
      have HB2 := Lib.hid hB
      rcases M.sayK last sg fr c t with ⟨hc, e⟩ | ⟨rfl, k, x, u, rfl, hk, hh, e⟩ | ⟨rfl, hw, hh, rfl, e⟩ | ⟨rfl, hh, hw, e⟩
      · have e27 : ((c.toNat : Int) != 27) = true := by
          rw [bne_iff_ne]; intro h; apply hc; apply UInt8.toNat_inj.1; show c.toNat = 27; omega
        obtain ⟨n, hn⟩ : ∃ n, M.signK sg c.toNat = n := ⟨_, rfl⟩
        have HN := Lib.hid hn
        have HF := Lib.hid (show M.toldK last g f s.data.toList = ((xs ++ [n]) ++ (M.toldK last sg false (s'.extract 1 s'.size).data.toList).1, (M.toldK last sg false (s'.extract 1 s'.size).data.toList).2) by
          rw [HT.out, drop_str, hct, e, hn]; simp)
        have HS := Lib.hid (drop_size s' 1)
        clear he hct hc hn e hts
        go_wp2_with fail
        go_region_with ((first | (go_at_call 162; refine (sign_to sg c.toNat n HN.out (by omega) _).mono ?_; rintro e w1 ⟨rfl, rfl⟩) | (go_at_call 161; refine (tellK_any (w.heap.size + 2) sg fr s' v xs n (w.heap.size + 3) wr.drew HB2.out hown (by omega) hsz hpos (by omega) (by omega)).mono ?_; rintro e w1 ⟨rfl, v1, hB1, hown1, hb1⟩)))
        all_goals
          go_wp2_with fail
          go_roundw
          case rel => exact ⟨s'.extract 1 s'.size, xs ++ [n], sg, false, v1, hB1, Box.upto (B := w.heap.size + 2) (w := wr.drew) hR hb1 (by omega), by rw [HS.out, List.length_append, List.length_singleton]; omega, HF, hown1, Bel.upto (Bel.drew hb) hb1 (by omega)⟩
          case measure => rw [cellLen_of c2, cellLen_of (hB1.cell 2 _ rfl), HS.out]; omega
      · -- an escape
        obtain ⟨k2, hk2⟩ : ∃ r, (xs ++ if fr = true then [(65533 : Int)] else []) = r := ⟨_, rfl⟩
        have HK2 := Lib.hid hk2
        have HF := Lib.hid (show M.toldK last g f s.data.toList = (k2 ++ (M.toldK last k true (s'.extract 3 s'.size).data.toList).1, (M.toldK last k true (s'.extract 3 s'.size).data.toList).2) by
          rw [HT.out, drop_str, hct, e, ← hk2]; simp)
        have HS := Lib.hid (drop_size s' 3)
        have hk20 : k2.length ≤ xs.length + 1 := by rw [← hk2, List.length_append]; split <;> simp
        have HC := Lib.hid hct
        have HSH := Lib.hid (show shiftsM (40 :: x :: u) = (k, true) by rw [shiftsM, hh])
        have hk0 : 0 ≤ k := by
          unfold M.escK at hk
          (repeat' split at hk) <;> first | (injection hk with hk; omega) | cases hk
        have h3 : 3 ≤ s'.size := by rw [hts]; simp only [List.length_cons]; omega
        have c27 : ((27 : UInt8).toNat : Int) = 27 := rfl
        clear he hct hk hh e hts hk2
        go_wp2_with fail
        refine (shifts_to s' 27 (40 :: x :: u) k true HSH.out HC.out (by omega) _).mono ?_
        rintro e w1 ⟨rfl, q, rfl⟩
        have hsz2 : w.heap.size + 3 ≤ (wr.drewN q).heap.size := hsz
        go_wp2_with fail
        refine (shiftK_any (w.heap.size + 2) sg k fr s' v xs (w.heap.size + 3) (wr.drewN q) (HB2.out.drewN q) (hown.drewN q) (by omega) hsz2 h3 (by omega) (by omega)).mono ?_
        rintro e w1 ⟨rfl, v1, hB1, hown1, hb1⟩
        rw [HK2.out] at hown1
        go_wp2_with fail
        go_roundw
        case rel => exact ⟨s'.extract 3 s'.size, k2, k, true, v1, hB1, Box.upto (B := w.heap.size + 2) (hR.drewN q) hb1 (by omega), by rw [HS.out]; omega, HF, hown1, Bel.upto (Bel.drewN hb q) hb1 (by omega)⟩
        case measure => rw [cellLen_of c2, cellLen_of (hB1.cell 2 _ rfl), HS.out]; omega
      · -- more must come
        have HF := Lib.hid (show M.toldK false g f s.data.toList = (xs, sg, fr, s'.data.toList) by
          rw [HT.out, hct, e]; simp)
        have HC := Lib.hid hct
        have HSH := Lib.hid (show shiftsM t = (-1, false) by rw [shiftsM, hh]; simp [hw])
        clear he hct hw hh e hts
        go_wp2_with fail
        refine (shifts_to s' 27 t (-1) false HSH.out HC.out (by omega) _).mono ?_
        rintro e w1 ⟨rfl, q, rfl⟩
        go_wp2_with fail
        go_region
        go_wp2_with fail
        have d0 : (((wr.drewN (q + 1)).setCell ⟨w.heap.size + 1, 0, none⟩ (.int .i64 sg)).setCell ⟨w.heap.size + 1, 1, none⟩ (.bool fr)).cell? ⟨w.heap.size + 1, 0, none⟩ = some (.int .i64 sg) := (((hR.drewN (q + 1)).set 0 _).set 1 _).cell 0 _ rfl
        have d1 : (((wr.drewN (q + 1)).setCell ⟨w.heap.size + 1, 0, none⟩ (.int .i64 sg)).setCell ⟨w.heap.size + 1, 1, none⟩ (.bool fr)).cell? ⟨w.heap.size + 1, 1, none⟩ = some (.bool fr) := (((hR.drewN (q + 1)).set 0 _).set 1 _).cell 1 _ rfl
        refine bodyPost_ret (v := .tuple #[v, .agg #[.int .i64 sg, .bool fr], .string s']) (by simp [results, Tryz.results137, go_sem, d0, d1]) rfl ?_
        rw [HF.out]
        exact ⟨_, by rw [str_eq], (((hown.drewN (q + 1)).setCell (p := ⟨w.heap.size + 1, 0, none⟩) (by simp) _).setCell (p := ⟨w.heap.size + 1, 1, none⟩) (by simp) _).mono (by omega), ((Bel.drewN hb (q + 1)).setCell (p := ⟨w.heap.size + 1, 0, none⟩) (by simp) _).setCell (p := ⟨w.heap.size + 1, 1, none⟩) (by simp) _⟩
      · -- no escape
        have HF := Lib.hid (show M.toldK last g f s.data.toList = ((xs ++ [65533]) ++ (M.toldK last sg false (s'.extract 1 s'.size).data.toList).1, (M.toldK last sg false (s'.extract 1 s'.size).data.toList).2) by
          rw [HT.out, drop_str, hct, e]; simp)
        have HS := Lib.hid (drop_size s' 1)
        have HC := Lib.hid hct
        obtain ⟨b, hb0⟩ : ∃ b, shiftsM t = (-1, b) := ⟨_, by rw [shiftsM, hh]⟩
        have hbl : b = true ∨ (b = false ∧ last = true) := by
          rcases hw with hw | hw
          · left
            rw [shiftsM, hh, hw] at hb0
            simpa using hb0.symm
          · cases b
            · exact .inr ⟨rfl, hw⟩
            · exact .inl rfl
        have HSH := Lib.hid hb0
        clear he hct hw hh e hts hb0
        rcases hbl with rfl | ⟨rfl, rfl⟩
        all_goals
          go_wp2_with fail
          refine (shifts_to s' 27 t (-1) _ HSH.out HC.out (by omega) _).mono ?_
          rintro e w1 ⟨rfl, q, rfl⟩
          have hsz2 : w.heap.size + 3 ≤ (wr.drewN q).heap.size := hsz
          go_wp2_with fail
          refine (tellK_any (w.heap.size + 2) sg fr s' v xs 65533 (w.heap.size + 3) (wr.drewN q) (HB2.out.drewN q) (hown.drewN q) (by omega) hsz2 hpos (by omega) (by omega)).mono ?_
          rintro e w1 ⟨rfl, v1, hB1, hown1, hb1⟩
          go_wp2_with fail
          go_roundw
          case rel => exact ⟨s'.extract 1 s'.size, xs ++ [65533], sg, false, v1, hB1, Box.upto (B := w.heap.size + 2) (hR.drewN q) hb1 (by omega), by rw [HS.out, List.length_append, List.length_singleton]; omega, HF, hown1, Bel.upto (Bel.drewN hb q) hb1 (by omega)⟩
          case measure => rw [cellLen_of c2, cellLen_of (hB1.cell 2 _ rfl), HS.out]; omega
end Go.Proofs.YteingkjdemlhgaaGreatDoor

/-
  Package kana: All, Decode, byteOf, find, escape, Raw, Encode.
-/
namespace Go.Proofs.YteingkjdemlhgaaGreatDoor
open Go.RowKit
set_option maxRecDepth 1000000
theorem toldK_to (g : Int) (f : Bool) (s : ByteArray) (last : Bool) (xs : List Int) (g2 : Int) (f2 : Bool) (l : List UInt8) (h : M.toldK last g f s.data.toList = (xs, g2, f2, l)) (hs : s.size ≤ 68719476735) (w : World) : Calls Tryz.prog 137 #[.agg #[.int .i64 g, .bool f], .string s, .bool last] w fun e w' =>
    ∃ v, e = .returned (.tuple #[v, .agg #[.int .i64 g2, .bool f2], .string ⟨l.toArray⟩]) ∧ Own w.heap.size 3 w' v (xs.map (Value.int .i64)) ∧ Bel w w' := by
  have := toldK_any g f s last hs w; rw [h] at this; exact this
theorem allKana_any (s : ByteArray) (hs : s.size ≤ 68719476735) (w : World) : Calls Tryz.prog 95 #[.string s] w fun e w' => ∃ v, e = .returned v ∧ Own w.heap.size 3 w' v ((M.allK s.data.toList).map (Value.int .i64)) ∧ Bel w w' := by
  obtain ⟨⟨xs, g, f, l⟩, ht⟩ : ∃ r, M.toldK true 0 false s.data.toList = r := ⟨_, rfl⟩
  have Ht := Lib.hid ht
  have HA := Lib.hid (show M.allK s.data.toList = xs by rw [M.allK, ht])
  clear ht
  go_enter Tryz.func95, Tryz.ntmps95
  go_wp2_with (go_at_call 137; refine (toldK_to _ _ _ _ _ _ _ _ Ht.out hs _).mono ?_; rintro e w' ⟨v, rfl, ho, hb⟩)
  go_ret
  rw [HA.out]
  exact ⟨_, rfl, ho.alloc _, hb.alloc _⟩
def bVal (n : Int) : Int := if 0 ≤ n then n else 0
def bOk (n : Int) : Bool := decide (0 ≤ n)
theorem byteOfK_any (g n : Int) (w : World) : Calls Tryz.prog 156 #[.int .i64 g, .int .i64 n] w fun e w' => e = .returned (.tuple #[.int .u8 (bVal (M.byteK g n)), .bool (bOk (M.byteK g n))]) ∧ w = w' := by
  go_enter Tryz.func156, Tryz.ntmps156
  go_wp2_with fail
  go_loop [8] (fun i => ∃ k : Nat, k ≤ 128 ∧ i = .int .i64 k ∧ Hid (∀ j, j < k → n = 65533 ∨ M.signK g j ≠ n)) (fun i => 128 - (intOf i).toNat)
  case atStart => exact ⟨0, by omega, rfl, Lib.hid (fun j hj => by omega)⟩
  case round =>
    obtain ⟨k, hk, rfl, hno⟩ := hrel
    by_cases hlt : k < 128
    · obtain ⟨m, hm⟩ : ∃ m, M.signK g k = m := ⟨_, rfl⟩
      have HM := Lib.hid hm
      have hk2 : k < 256 := by omega
      by_cases he : m = n ∧ n ≠ 65533
      · obtain ⟨rfl, hn⟩ := he
        have HF := Lib.hid (M.byteK_hit g m k hno.out hlt hm hn)
        have e1 : (m != 65533) = true := by simpa using hn
        clear hm hn
        go_wp2_with (go_at_call 162; refine (sign_to g k m HM.out hk2 _).mono ?_; rintro e w' ⟨rfl, rfl⟩)
        go_ret2
        rw [HF.out]
        exact ⟨by simp [bVal, bOk], rfl⟩
      · have HF := Lib.hid (show ∀ j, j < k + 1 → n = 65533 ∨ M.signK g j ≠ n from fun j hj => by
          by_cases hjk : j < k
          · exact hno.out j hjk
          · obtain rfl : j = k := by omega
            by_cases h3 : n = 65533
            · exact .inl h3
            · exact .inr (fun h4 => he ⟨hm.symm.trans h4, h3⟩))
        by_cases h5 : m = n
        · subst h5
          obtain rfl : m = 65533 := by by_cases h6 : m = 65533; exact h6; exact absurd ⟨rfl, h6⟩ he
          clear hm he
          go_wp2_with (go_at_call 162; refine (sign_to g k 65533 HM.out hk2 _).mono ?_; rintro e w' ⟨rfl, rfl⟩)
          go_round
          case rel => exact ⟨k + 1, by omega, by go_num, HF⟩
          case measure => simp [intOf]; omega
        · have e1 : (m == n) = false := by simpa using h5
          clear hm he h5
          go_wp2_with (go_at_call 162; refine (sign_to g k m HM.out hk2 _).mono ?_; rintro e w' ⟨rfl, rfl⟩)
          go_round
          case rel => exact ⟨k + 1, by omega, by go_num, HF⟩
          case measure => simp [intOf]; omega
    · obtain rfl : k = 128 := by omega
      have HF := Lib.hid (M.byteK_miss g n hno.out)
      go_wp2_with fail
      go_ret2
      rw [HF.out]
      exact ⟨rfl, rfl⟩
theorem byteOfK_yes (g n : Int) (c : Nat) (h : M.byteK g n = (c : Int)) (w : World) : Calls Tryz.prog 156 #[.int .i64 g, .int .i64 n] w fun e w' => e = .returned (.tuple #[.int .u8 (c : Int), .bool true]) ∧ w = w' := by
  have := byteOfK_any g n w
  rw [h] at this
  simpa [bVal, bOk] using this
theorem byteOfK_no (g n : Int) (h : M.byteK g n = -1) (w : World) : Calls Tryz.prog 156 #[.int .i64 g, .int .i64 n] w fun e w' => e = .returned (.tuple #[.int .u8 0, .bool false]) ∧ w = w' := by
  have := byteOfK_any g n w
  rw [h] at this
  exact this
theorem find_no (now n : Int) (h : M.byteK now n = -1) (h0 : M.byteK 0 n = -1) (h1 : M.byteK 1 n = -1) (h2 : M.byteK 2 n = -1) (w : World) : Calls Tryz.prog 133 #[.int .i64 now, .int .i64 n] w fun e w' => e = .returned (.tuple #[.int .i64 (-1), .int .u8 0]) ∧ Bel w w' := by
    have H := Lib.hid h
    have H0 := Lib.hid h0
    have H1 := Lib.hid h1
    have H2 := Lib.hid h2
    have c : Nat := 0
    clear h h0 h1 h2
    go_enter Tryz.func133, Tryz.ntmps133
    go_wp2_with fail
    refine wp_loop_rounds 5 ?_
    rw [rounds_succ]
    go_wp2_with (first | (go_at_call 156; (first | with_reducible refine (byteOfK_no now n H.out _).mono ?_ | with_reducible refine (byteOfK_yes now n c H.out _).mono ?_); rintro e w' ⟨rfl, rfl⟩))
    rw [rounds_succ]
    go_wp2_with (first | (go_at_call 156; (first | with_reducible refine (byteOfK_no 0 n H0.out _).mono ?_ | with_reducible refine (byteOfK_yes 0 n c H0.out _).mono ?_); rintro e w' ⟨rfl, rfl⟩))
    rw [rounds_succ]
    go_wp2_with (first | (go_at_call 156; (first | with_reducible refine (byteOfK_no 1 n H1.out _).mono ?_ | with_reducible refine (byteOfK_yes 1 n c H1.out _).mono ?_); rintro e w' ⟨rfl, rfl⟩))
    rw [rounds_succ]
    go_wp2_with (first | (go_at_call 156; (first | with_reducible refine (byteOfK_no 2 n H2.out _).mono ?_ | with_reducible refine (byteOfK_yes 2 n c H2.out _).mono ?_); rintro e w' ⟨rfl, rfl⟩))
    rw [rounds_succ]
    go_wp2_with fail
    go_ret2
    exact ⟨rfl, (by repeat (first | exact Bel.refl _ | refine Bel.drewN ?_ _ | refine Bel.drew ?_ | refine Bel.alloc ?_ _ | refine Bel.trans ?_ (by assumption) | refine Bel.setCell ?_ (by simp; omega) _))⟩
theorem find_yes (now n g : Int) (c : Nat) (hf : M.findK now n = g) (hg : 0 ≤ g) (hb : M.byteK g n = (c : Int)) (w : World) : Calls Tryz.prog 133 #[.int .i64 now, .int .i64 n] w fun e w' => e = .returned (.tuple #[.int .i64 g, .int .u8 (c : Int)]) ∧ Bel w w' := by
  have neg : ∀ g, ¬ 0 ≤ M.byteK g n → M.byteK g n = -1 := fun g h => by
    rcases M.byteK_or g n with h1 | ⟨c, _, h2, _⟩
    · exact h1
    · omega
  unfold M.findK at hf
  split at hf
  · subst hf
    have H := Lib.hid hb
    clear hb neg
    go_enter Tryz.func133, Tryz.ntmps133
    go_wp2_with fail
    refine wp_loop_rounds 5 ?_
    rw [rounds_succ]
    go_wp2_with (first | (go_at_call 156; (first | with_reducible refine (byteOfK_no now n H.out _).mono ?_ | with_reducible refine (byteOfK_yes now n c H.out _).mono ?_); rintro e w' ⟨rfl, rfl⟩))
    go_ret2
    exact ⟨rfl, (by repeat (first | exact Bel.refl _ | refine Bel.drewN ?_ _ | refine Bel.drew ?_ | refine Bel.alloc ?_ _ | refine Bel.trans ?_ (by assumption) | refine Bel.setCell ?_ (by simp; omega) _))⟩
  · rename_i a0
    have H := Lib.hid (neg _ a0)
    split at hf
    · subst hf
      have H0 := Lib.hid hb
      clear hb neg
      go_enter Tryz.func133, Tryz.ntmps133
      go_wp2_with fail
      refine wp_loop_rounds 5 ?_
      rw [rounds_succ]
      go_wp2_with (first | (go_at_call 156; (first | with_reducible refine (byteOfK_no now n H.out _).mono ?_ | with_reducible refine (byteOfK_yes now n c H.out _).mono ?_); rintro e w' ⟨rfl, rfl⟩))
      rw [rounds_succ]
      go_wp2_with (first | (go_at_call 156; (first | with_reducible refine (byteOfK_no 0 n H0.out _).mono ?_ | with_reducible refine (byteOfK_yes 0 n c H0.out _).mono ?_); rintro e w' ⟨rfl, rfl⟩))
      go_ret2
      exact ⟨rfl, (by repeat (first | exact Bel.refl _ | refine Bel.drewN ?_ _ | refine Bel.drew ?_ | refine Bel.alloc ?_ _ | refine Bel.trans ?_ (by assumption) | refine Bel.setCell ?_ (by simp; omega) _))⟩
    · rename_i a1
      have H0 := Lib.hid (neg _ a1)
      split at hf
      · subst hf
        have H1 := Lib.hid hb
        clear hb neg
        go_enter Tryz.func133, Tryz.ntmps133
        go_wp2_with fail
        refine wp_loop_rounds 5 ?_
        rw [rounds_succ]
        go_wp2_with (first | (go_at_call 156; (first | with_reducible refine (byteOfK_no now n H.out _).mono ?_ | with_reducible refine (byteOfK_yes now n c H.out _).mono ?_); rintro e w' ⟨rfl, rfl⟩))
        rw [rounds_succ]
        go_wp2_with (first | (go_at_call 156; (first | with_reducible refine (byteOfK_no 0 n H0.out _).mono ?_ | with_reducible refine (byteOfK_yes 0 n c H0.out _).mono ?_); rintro e w' ⟨rfl, rfl⟩))
        rw [rounds_succ]
        go_wp2_with (first | (go_at_call 156; (first | with_reducible refine (byteOfK_no 1 n H1.out _).mono ?_ | with_reducible refine (byteOfK_yes 1 n c H1.out _).mono ?_); rintro e w' ⟨rfl, rfl⟩))
        go_ret2
        exact ⟨rfl, (by repeat (first | exact Bel.refl _ | refine Bel.drewN ?_ _ | refine Bel.drew ?_ | refine Bel.alloc ?_ _ | refine Bel.trans ?_ (by assumption) | refine Bel.setCell ?_ (by simp; omega) _))⟩
      · rename_i a2
        have H1 := Lib.hid (neg _ a2)
        split at hf
        · subst hf
          have H2 := Lib.hid hb
          clear hb neg
          go_enter Tryz.func133, Tryz.ntmps133
          go_wp2_with fail
          refine wp_loop_rounds 5 ?_
          rw [rounds_succ]
          go_wp2_with (first | (go_at_call 156; (first | with_reducible refine (byteOfK_no now n H.out _).mono ?_ | with_reducible refine (byteOfK_yes now n c H.out _).mono ?_); rintro e w' ⟨rfl, rfl⟩))
          rw [rounds_succ]
          go_wp2_with (first | (go_at_call 156; (first | with_reducible refine (byteOfK_no 0 n H0.out _).mono ?_ | with_reducible refine (byteOfK_yes 0 n c H0.out _).mono ?_); rintro e w' ⟨rfl, rfl⟩))
          rw [rounds_succ]
          go_wp2_with (first | (go_at_call 156; (first | with_reducible refine (byteOfK_no 1 n H1.out _).mono ?_ | with_reducible refine (byteOfK_yes 1 n c H1.out _).mono ?_); rintro e w' ⟨rfl, rfl⟩))
          rw [rounds_succ]
          go_wp2_with (first | (go_at_call 156; (first | with_reducible refine (byteOfK_no 2 n H2.out _).mono ?_ | with_reducible refine (byteOfK_yes 2 n c H2.out _).mono ?_); rintro e w' ⟨rfl, rfl⟩))
          go_ret2
          exact ⟨rfl, (by repeat (first | exact Bel.refl _ | refine Bel.drewN ?_ _ | refine Bel.drew ?_ | refine Bel.alloc ?_ _ | refine Bel.trans ?_ (by assumption) | refine Bel.setCell ?_ (by simp; omega) _))⟩
        · omega
theorem escape_any (g : Int) (hg : g = 0 ∨ g = 1 ∨ g = 2) (w : World) : Calls Tryz.prog 134 #[.int .i64 g] w fun e w' => e = .returned (.string ⟨[27, 40, M.escB g].toArray⟩) ∧ Bel w w' := by
  rcases hg with rfl | rfl | rfl
  · have c66 : (⟨#[66, 74, 73]⟩ : ByteArray)[0].toNat = 66 := rfl
    go_enter Tryz.func134, Tryz.ntmps134
    go_wp2_with (first | ((with_reducible show wpList _ _ _ _ _ _); refine wpList_toString rfl (.tmp 5) _ _ 5 rfl Tryz.underlying120 Tryz.underlying5 Tryz.underlying9 _ _ [27, 40, 66] rfl (own_row _ [27, 40, 66] _ rfl (by decide)) ?_))
    go_ret
    exact ⟨rfl, (by repeat (first | exact Bel.refl _ | refine Bel.drewN ?_ _ | refine Bel.drew ?_ | refine Bel.alloc ?_ _ | refine Bel.trans ?_ (by assumption) | refine Bel.setCell ?_ (by simp; omega) _))⟩
  · have c66 : (⟨#[66, 74, 73]⟩ : ByteArray)[1].toNat = 74 := rfl
    go_enter Tryz.func134, Tryz.ntmps134
    go_wp2_with (first | ((with_reducible show wpList _ _ _ _ _ _); refine wpList_toString rfl (.tmp 5) _ _ 5 rfl Tryz.underlying120 Tryz.underlying5 Tryz.underlying9 _ _ [27, 40, 74] rfl (own_row _ [27, 40, 74] _ rfl (by decide)) ?_))
    go_ret
    exact ⟨rfl, (by repeat (first | exact Bel.refl _ | refine Bel.drewN ?_ _ | refine Bel.drew ?_ | refine Bel.alloc ?_ _ | refine Bel.trans ?_ (by assumption) | refine Bel.setCell ?_ (by simp; omega) _))⟩
  · have c66 : (⟨#[66, 74, 73]⟩ : ByteArray)[2].toNat = 73 := rfl
    go_enter Tryz.func134, Tryz.ntmps134
    go_wp2_with (first | ((with_reducible show wpList _ _ _ _ _ _); refine wpList_toString rfl (.tmp 5) _ _ 5 rfl Tryz.underlying120 Tryz.underlying5 Tryz.underlying9 _ _ [27, 40, 73] rfl (own_row _ [27, 40, 73] _ rfl (by decide)) ?_))
    go_ret
    exact ⟨rfl, (by repeat (first | exact Bel.refl _ | refine Bel.drewN ?_ _ | refine Bel.drew ?_ | refine Bel.alloc ?_ _ | refine Bel.trans ?_ (by assumption) | refine Bel.setCell ?_ (by simp; omega) _))⟩
end Go.Proofs.YteingkjdemlhgaaGreatDoor

/-
  Package stream: All, ready, Decode, Open.
-/
namespace Go.Proofs.YteingkjdemlhgaaGreatDoor
open Go.RowKit
set_option maxRecDepth 1000000
theorem streamAll_any (n : Int) (h : M.isEnc n = true) (s : ByteArray) (hs : s.size ≤ 68719476734) (w : World) : Calls Tryz.prog 60 #[.int .i64 n, .string s] w fun e w' => ∃ v, e = .returned v ∧ Own w.heap.size 3 w' v ((M.allE n s.data.toList).map (Value.int .i64)) ∧ Bel w w' := by
  rcases M.enc_cases n h with rfl | h1 | h1 | rfl | rfl
  · have H := Lib.hid (show M.allE 1 s.data.toList = M.all8 s.data.toList by rw [M.allE, if_pos rfl])
    clear h
    go_enter Tryz.func60, Tryz.ntmps60
    go_wp2_with (go_at_call 92; refine (all8_any _ hs _).mono ?_; rintro e w' ⟨v, rfl, ho, hb⟩)
    go_ret
    rw [H.out]
    exact ⟨_, rfl, by assumption, by assumption⟩
  · have H := Lib.hid (show M.allE n s.data.toList = M.all16 (n == 3) s.data.toList by rw [M.allE, if_neg (by omega), if_pos h1])
    clear h
    rcases h1 with rfl | rfl
    all_goals
      go_enter Tryz.func60, Tryz.ntmps60
      go_wp2_with (go_at_call 93; refine (all16_any _ _ hs _).mono ?_; rintro e w' ⟨v, rfl, ho, hb⟩)
      go_ret
      rw [H.out]
      exact ⟨_, rfl, by assumption, by assumption⟩
  · have H := Lib.hid (show M.allE n s.data.toList = M.decodeS (n == 5) s.data.toList by rw [M.allE, if_neg (by omega), if_neg (by omega), if_pos h1])
    clear h
    rcases h1 with rfl | rfl
    all_goals
      go_enter Tryz.func60, Tryz.ntmps60
      go_wp2_with (go_at_call 94; refine (all_any _ _ _ (by omega)).mono ?_; rintro e w' ⟨v, rfl, ho, hb⟩)
      go_ret
      rw [H.out]
      exact ⟨_, rfl, by assumption, by assumption⟩
  · have H := Lib.hid (show M.allE 6 s.data.toList = M.allK s.data.toList by rw [M.allE, if_neg (by omega), if_neg (by omega), if_neg (by omega), if_pos rfl])
    clear h
    go_enter Tryz.func60, Tryz.ntmps60
    go_wp2_with (go_at_call 95; refine (allKana_any _ (by omega) _).mono ?_; rintro e w' ⟨v, rfl, ho, hb⟩)
    go_ret
    rw [H.out]
    exact ⟨_, rfl, by assumption, by assumption⟩
  · have H0 : M.allE 7 s.data.toList = if s.data.toList = [] then [] else [65533] := by rw [M.allE, if_neg (by omega), if_neg (by omega), if_neg (by omega), if_neg (by omega)]
    clear h
    by_cases he : s.data.toList = []
    · have H := Lib.hid (show M.allE 7 s.data.toList = [] by rw [H0, if_pos he])
      have e1 : (!s.toList.isEmpty) = false := by rw [Lib.toList_data, he]; rfl
      have e2 : s.toList.isEmpty = true := by rw [Lib.toList_data, he]; rfl
      clear H0 he
      go_enter Tryz.func60, Tryz.ntmps60
      go_wp2_with fail
      go_ret
      rw [H.out]
      exact ⟨_, rfl, Own.nil _ _ _, Bel.refl _⟩
    · have H := Lib.hid (show M.allE 7 s.data.toList = [65533] by rw [H0, if_neg he])
      have e1 : (!s.toList.isEmpty) = true := by rw [Lib.toList_data]; simpa using he
      have e2 : s.toList.isEmpty = false := by rw [Lib.toList_data]; simpa using he
      clear H0 he
      go_enter Tryz.func60, Tryz.ntmps60
      go_wp2_with fail
      go_ret
      rw [H.out]
      exact ⟨_, rfl, Own.made w [.int .i64 65533] (Nat.le_refl _) (by simp [maxLen]), (Bel.refl _).alloc _⟩
end Go.Proofs.YteingkjdemlhgaaGreatDoor

/-
  Package stream: the decoder's two methods.
-/
namespace Go.Proofs.YteingkjdemlhgaaGreatDoor
open Go.RowKit
set_option maxRecDepth 1000000
end Go.Proofs.YteingkjdemlhgaaGreatDoor

/-
  What waits, in the document's words.
-/
namespace Go.Proofs.YteingkjdemlhgaaGreatDoor.M
open Go
end Go.Proofs.YteingkjdemlhgaaGreatDoor.M

/-
  Package stream: end, rest, Check, Raw, Feed.
-/
namespace Go.Proofs.YteingkjdemlhgaaGreatDoor
open Go.RowKit
set_option maxRecDepth 1000000
def Only (g : Nat) (a w : World) : Prop := ∀ k, k ≠ g → k < a.heap.size → w.heap[k]? = a.heap[k]?
theorem Only.set {g : Nat} {a w : World} (h : Only g a w) (i : Nat) (u : Value) : Only g a (w.setCell ⟨g, i, none⟩ u) := fun k h1 h2 => (Below.heap_setCell w ⟨g, i, none⟩ u k h1).trans (h k h1 h2)
theorem Own.only {B g : Nat} {e : TypeId} {w w' : World} {v : Value} {xs : List Value} (h : Own B e w v xs) (ho : Only g w w') (hg : g < B) : Own B e w' v xs := by
  refine ⟨h.1, ?_⟩
  rcases h.2 with h2 | ⟨k, cap, cur, r0, r1, r2, r3⟩
  · exact .inl h2
  · exact .inr ⟨k, cap, cur, r0, r1, (ho k (by omega) (Array.getElem?_eq_some_iff.1 r2).1).trans r2, r3⟩
end Go.Proofs.YteingkjdemlhgaaGreatDoor

/-
  Package stream: Check, Raw, Feed.
-/
namespace Go.Proofs.YteingkjdemlhgaaGreatDoor
open Go.RowKit
set_option maxRecDepth 1000000
theorem Box.drew {w : World} {g : Nat} {t : TypeId} {cs : List Value} (h : Box w g t cs) : Box w.drew g t cs := h
end Go.Proofs.YteingkjdemlhgaaGreatDoor

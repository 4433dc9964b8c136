/-
  The document's answers on UTF-16: unitAt, DecodeUtf16, EncodeUtf16.
-/
import Derived.Test.YthjafhoahhdlnaaUtf16
import Derived.Test.YthjafhoahhdlnaaRUtf8
import Derived.RegionTactic
import Derived.BigRegion
namespace Go.Proofs.Ythjafhoahhdlnaa
open Go.RowKit
set_option maxRecDepth 1000000

theorem unitAt_any (big : Bool) (s : ByteArray) (k : Nat) (a b : UInt8) (ha : s.data.toList[k]? = some a) (hb : s.data.toList[k + 1]? = some b) (hs : s.size ≤ 68719476735) (w : World) : Calls Try.prog 36 #[.bool big, .string s, .int .i64 (k : Int)] w fun e w' => e = .returned (.int .i64 (M.unit16 big a b)) ∧ ∃ q, w.drewN q = w' := by
  obtain ⟨k0, h0⟩ := head_at s k a ha
  obtain ⟨k1, h1⟩ := head_at s (k + 1) b hb
  have hal := a.toNat_lt
  have hbl := b.toNat_lt
  clear ha hb
  cases big
  · have H := Lib.hid (show M.unit16 false a b = (a.toNat : Int) + 256 * (b.toNat : Int) by simp only [M.unit16, Bool.false_eq_true, if_false])
    go_enter Try.func36, Try.ntmps36
    go_wp2_with fail
    go_quiet (fail)
    go_wp2_with fail
    go_ret
    rw [H.out]
    exact ⟨rfl, _, rfl⟩
  · have H := Lib.hid (show M.unit16 true a b = 256 * (a.toNat : Int) + (b.toNat : Int) by simp only [M.unit16, if_true])
    go_enter Try.func36, Try.ntmps36
    go_wp2_with fail
    go_quiet (fail)
    go_wp2_with fail
    go_ret
    rw [H.out]
    exact ⟨rfl, _, rfl⟩
theorem unitAt_to (big : Bool) (s : ByteArray) (k : Nat) (a b : UInt8) (n : Int) (hn : M.unit16 big a b = n) (ha : s.data.toList[k]? = some a) (hb : s.data.toList[k + 1]? = some b) (hs : s.size ≤ 68719476735) (i : Int) (hi : i = (k : Int)) (w : World) : Calls Try.prog 36 #[.bool big, .string s, .int .i64 i] w fun e w' => e = .returned (.int .i64 n) ∧ ∃ q, w.drewN q = w' := by
  subst hi
  have := unitAt_any big s k a b ha hb hs w; rw [hn] at this; exact this
theorem between_to (n a b : Int) (c : Bool) (h : decide (a ≤ n ∧ n ≤ b) = c) (w : World) : Calls Try.prog 34 #[.int .i64 n, .int .i64 a, .int .i64 b] w fun e w' => e = .returned (.bool c) ∧ w = w' := by
  have := between_any n a b w; rw [h] at this; exact this
theorem drop_two (l : List UInt8) (k : Nat) (a b : UInt8) (t : List UInt8) (h : l.drop k = a :: b :: t) : l[k]? = some a ∧ l[k + 1]? = some b ∧ l.drop (k + 2) = t := by
  refine ⟨?_, ?_, ?_⟩
  · have := List.getElem?_drop (xs := l) (i := k) (j := 0); rw [h] at this; simpa using this.symm
  · have := List.getElem?_drop (xs := l) (i := k) (j := 1); rw [h] at this; simpa using this.symm
  · have := List.drop_drop (l := l) (i := 2) (j := k); rw [h] at this; simpa using this.symm
set_option maxHeartbeats 4000000 in
theorem decodeUtf16_any (big : Bool) (s : ByteArray) (hs : s.size ≤ 68719476735) (w : World) : Calls Try.prog 38 #[.bool big, .string s] w fun e w' => ∃ v, e = .returned (.tuple #[v, .string ⟨(M.told16 big s.data.toList).2.toArray⟩]) ∧ Own w.heap.size 3 w' v ((M.told16 big s.data.toList).1.map (Value.int .i64)) ∧ Bel w w' := by
  go_enter Try.func38, Try.ntmps38
  go_wp2_with fail
  go_loopw [6, 7] (fun v i wr => ∃ (k : Nat) (xs : List Int), k ≤ s.size ∧ i = .int .i64 k ∧ xs.length ≤ k ∧ Hid (M.told16 big s.data.toList = (xs ++ (M.told16 big (s.data.toList.drop k)).1, (M.told16 big (s.data.toList.drop k)).2)) ∧ Own w.heap.size 3 wr v (xs.map (Value.int .i64)) ∧ Bel w wr) (fun _ i _ => s.size - (intOf i).toNat)
  case atStart => exact ⟨0, [], by omega, rfl, by simp, Lib.hid (by simp), Own.nil _ _ _, Bel.refl _⟩
  case round =>
    obtain ⟨k, xs, hk, rfl, hx, HT, hown, hb⟩ := hrel
    have hz : (s.data.toList.drop k).length = s.size - k := by rw [List.length_drop, ← Lib.size_eq]
    have hsz : ∀ q, w.heap.size ≤ (wr.drewN q).heap.size := fun q => (Bel.drewN hb q).size
    by_cases h2 : k + 2 ≤ s.size
    · obtain ⟨a, b, t, hab⟩ : ∃ a b t, s.data.toList.drop k = a :: b :: t := by
        match hq : s.data.toList.drop k with
        | [] => rw [hq] at hz; simp at hz; omega
        | [a] => rw [hq] at hz; simp at hz; omega
        | a :: b :: t => exact ⟨a, b, t, rfl⟩
      obtain ⟨q0, q1, q2⟩ := drop_two _ _ _ _ _ hab
      have htl : s.size - k = t.length + 2 := by rw [← hz, hab]; rfl
      obtain ⟨u0, u1⟩ := M.unit16_le big a b
      have i2 : (k : Int) + 2 ≤ (s.size : Int) := by omega
      obtain ⟨n, hn⟩ : ∃ n, M.unit16 big a b = n := ⟨_, rfl⟩
      have Q0 := Lib.hid q0
      have Q1 := Lib.hid q1
      have HN := Lib.hid hn
      rcases M.say16 big a b t with ⟨g1, e1⟩ | ⟨g1, g2, e1⟩ | ⟨c, d, u, rfl, g1, g2, e1⟩ | ⟨c, d, u, rfl, g1, g2, e1⟩
      · have HF := Lib.hid (show M.told16 big s.data.toList = ((xs ++ [M.one16 (M.unit16 big a b)]) ++ (M.told16 big (s.data.toList.drop (k + 2))).1, (M.told16 big (s.data.toList.drop (k + 2))).2) by
          rw [HT.out, q2, hab, e1]; simp)
        rw [hn] at g1 u0 u1 HF
        have G1 := Lib.hid (show decide (55296 ≤ n ∧ n ≤ 56319) = false from g1)
        clear hz hab e1 htl hn q0 q1 q2
        cases hlo : M.isLo n with
        | true =>
          have HO := Lib.hid (show M.one16 n = 65533 by rw [M.one16, if_pos hlo])
          have G2 := Lib.hid (show decide (55296 ≤ n ∧ n ≤ 57343) = true by simp only [M.isHi, M.isLo, decide_eq_true_eq, decide_eq_false_iff_not] at hlo g1 ⊢; omega)
          clear hlo g1
          rw [HO.out] at HF
          go_wp2_with fail
          refine (unitAt_to big s k a b n HN.out Q0.out Q1.out hs _ rfl _).mono ?_
          rintro e w1 ⟨rfl, q, rfl⟩
          go_wp2_with (first | (go_at_call 34; (first | with_reducible refine (between_to n 55296 56319 false G1.out _).mono ?_ | with_reducible refine (between_to n 55296 57343 true G2.out _).mono ?_); rintro e w' ⟨rfl, rfl⟩) | (at_builtin; refine wpList_app rfl (.tmp 47) (.tmp 49) 22 rfl elemInt (by decide) w.heap.size _ _ _ rfl rfl (hown.drewN _) rfl (by simp; omega) (hsz _) ?_; intro v' w1 hown' hb1))
          go_roundw
          case rel => exact ⟨k + 2, xs ++ [65533], by omega, by go_num, by rw [List.length_append, List.length_singleton]; omega, HF, by rw [List.map_append]; exact hown', Bel.upto (Bel.drewN hb _) hb1 (Nat.le_refl _)⟩
          case measure => simp [intOf]; omega
        | false =>
          have HO := Lib.hid (show M.one16 n = n by rw [M.one16, if_neg (by rw [hlo]; decide)])
          have G2 := Lib.hid (show decide (55296 ≤ n ∧ n ≤ 57343) = false by simp only [M.isHi, M.isLo, decide_eq_false_iff_not] at hlo g1 ⊢; omega)
          clear hlo g1
          rw [HO.out] at HF
          go_wp2_with fail
          refine (unitAt_to big s k a b n HN.out Q0.out Q1.out hs _ rfl _).mono ?_
          rintro e w1 ⟨rfl, q, rfl⟩
          go_wp2_with (first | (go_at_call 34; (first | with_reducible refine (between_to n 55296 56319 false G1.out _).mono ?_ | with_reducible refine (between_to n 55296 57343 false G2.out _).mono ?_); rintro e w' ⟨rfl, rfl⟩) | (at_builtin; refine wpList_app rfl (.tmp 47) (.tmp 49) 22 rfl elemInt (by decide) w.heap.size _ _ _ rfl rfl (hown.drewN _) rfl (by simp; omega) (hsz _) ?_; intro v' w1 hown' hb1))
          go_roundw
          case rel => exact ⟨k + 2, xs ++ [n], by omega, by go_num, by rw [List.length_append, List.length_singleton]; omega, HF, by rw [List.map_append]; exact hown', Bel.upto (Bel.drewN hb _) hb1 (Nat.le_refl _)⟩
          case measure => simp [intOf]; omega
      · have HF := Lib.hid (show M.told16 big s.data.toList = (xs, s.data.toList.drop k) by
          rw [HT.out, hab, e1]; simp)
        have HD := Lib.hid (drop_str s k)
        rw [hn] at g1 u0 u1
        have G1 := Lib.hid (show decide (55296 ≤ n ∧ n ≤ 56319) = true from g1)
        have h4 : s.size < k + 4 := by omega
        clear hz hab e1 htl hn q0 q1 q2 g1
        go_wp2_with fail
        refine (unitAt_to big s k a b n HN.out Q0.out Q1.out hs _ rfl _).mono ?_
        rintro e w1 ⟨rfl, q, rfl⟩
        go_wp2_with (first | (go_at_call 34; (first | with_reducible refine (between_to n 55296 56319 true G1.out _).mono ?_); rintro e w' ⟨rfl, rfl⟩))
        go_quiet (fail)
        go_wp2_with fail
        go_ret2
        rw [HF.out]
        exact ⟨_, by rw [← HD.out, str_eq]; rfl, (hown.drewN _).drewN _, Bel.drewN (Bel.drewN hb _) _⟩
      · have q3 := drop_two _ _ _ _ _ q2
        have HF := Lib.hid (show M.told16 big s.data.toList = ((xs ++ [M.pair16 (M.unit16 big a b) (M.unit16 big c d)]) ++ (M.told16 big (s.data.toList.drop (k + 4))).1, (M.told16 big (s.data.toList.drop (k + 4))).2) by
          rw [HT.out, q3.2.2, hab, e1]; simp)
        obtain ⟨v0, v1⟩ := M.unit16_le big c d
        obtain ⟨m, hm⟩ : ∃ m, M.unit16 big c d = m := ⟨_, rfl⟩
        rw [hn] at g1 u0 u1 HF
        rw [hm] at g2 v0 v1 HF
        have G1 := Lib.hid (show decide (55296 ≤ n ∧ n ≤ 56319) = true from g1)
        have G2 := Lib.hid (show decide (56320 ≤ m ∧ m ≤ 57343) = true from g2)
        simp only [M.isHi, decide_eq_true_eq] at g1
        simp only [M.isLo, decide_eq_true_eq] at g2
        have HM := Lib.hid hm
        have Q2 := Lib.hid q3.1
        have Q3 := Lib.hid q3.2.1
        have HP := Lib.hid (show M.pair16 n m = 65536 + 1024 * (n - 55296) + m - 56320 by rw [M.pair16]; omega)
        have h4 : k + 4 ≤ s.size := by simp only [List.length_cons] at htl; omega
        clear hz hab e1 htl hn hm q0 q1 q2 q3
        rw [HP.out] at HF
        go_wp2_with fail
        refine (unitAt_to big s k a b n HN.out Q0.out Q1.out hs _ rfl _).mono ?_
        rintro e w1 ⟨rfl, q, rfl⟩
        go_wp2_with (first | (go_at_call 34; (first | with_reducible refine (between_to n 55296 56319 true G1.out _).mono ?_); rintro e w' ⟨rfl, rfl⟩))
        refine (unitAt_to big s (k + 2) c d m HM.out Q2.out Q3.out hs _ (by omega) _).mono ?_
        rintro e w1 ⟨rfl, q2, rfl⟩
        go_wp2_with (first | (go_at_call 34; (first | with_reducible refine (between_to m 56320 57343 true G2.out _).mono ?_); rintro e w' ⟨rfl, rfl⟩) | (at_builtin; refine wpList_app rfl (.tmp 33) (.tmp 41) 22 rfl elemInt (by decide) w.heap.size _ _ _ rfl rfl (hown.drewN _) rfl (by simp; omega) (hsz _) ?_; intro v' w1 hown' hb1))
        go_roundw
        case rel => exact ⟨k + 4, xs ++ [65536 + 1024 * (n - 55296) + m - 56320], by omega, by go_num, by rw [List.length_append, List.length_singleton]; omega, HF, by rw [List.map_append]; exact hown', Bel.upto (Bel.drewN hb _) hb1 (Nat.le_refl _)⟩
        case measure => simp [intOf]; omega
      · have q3 := drop_two _ _ _ _ _ q2
        have HF := Lib.hid (show M.told16 big s.data.toList = ((xs ++ [65533]) ++ (M.told16 big (s.data.toList.drop (k + 2))).1, (M.told16 big (s.data.toList.drop (k + 2))).2) by
          rw [HT.out, q2, hab, e1]; simp)
        obtain ⟨v0, v1⟩ := M.unit16_le big c d
        obtain ⟨m, hm⟩ : ∃ m, M.unit16 big c d = m := ⟨_, rfl⟩
        rw [hn] at g1 u0 u1
        rw [hm] at g2 v0 v1
        have G1 := Lib.hid (show decide (55296 ≤ n ∧ n ≤ 56319) = true from g1)
        have G2 := Lib.hid (show decide (56320 ≤ m ∧ m ≤ 57343) = false from g2)
        have G3 := Lib.hid (show decide (55296 ≤ n ∧ n ≤ 57343) = true by simp only [M.isHi, decide_eq_true_eq] at g1 ⊢; omega)
        have HM := Lib.hid hm
        have Q2 := Lib.hid q3.1
        have Q3 := Lib.hid q3.2.1
        have h4 : k + 4 ≤ s.size := by simp only [List.length_cons] at htl; omega
        clear hz hab e1 htl hn hm q0 q1 q2 q3 g1 g2
        go_wp2_with fail
        refine (unitAt_to big s k a b n HN.out Q0.out Q1.out hs _ rfl _).mono ?_
        rintro e w1 ⟨rfl, q, rfl⟩
        go_wp2_with (first | (go_at_call 34; (first | with_reducible refine (between_to n 55296 56319 true G1.out _).mono ?_); rintro e w' ⟨rfl, rfl⟩))
        refine (unitAt_to big s (k + 2) c d m HM.out Q2.out Q3.out hs _ (by omega) _).mono ?_
        rintro e w1 ⟨rfl, q2, rfl⟩
        go_wp2_with (first | (go_at_call 34; (first | with_reducible refine (between_to m 56320 57343 false G2.out _).mono ?_ | with_reducible refine (between_to n 55296 57343 true G3.out _).mono ?_); rintro e w' ⟨rfl, rfl⟩) | (at_builtin; refine wpList_app rfl (.tmp 47) (.tmp 49) 22 rfl elemInt (by decide) w.heap.size _ _ _ rfl rfl (hown.drewN _) rfl (by simp; omega) (hsz _) ?_; intro v' w1 hown' hb1))
        go_roundw
        case rel => exact ⟨k + 2, xs ++ [65533], by omega, by go_num, by rw [List.length_append, List.length_singleton]; omega, HF, by rw [List.map_append]; exact hown', Bel.upto (Bel.drewN hb _) hb1 (Nat.le_refl _)⟩
        case measure => simp [intOf]; omega
    · have HF := Lib.hid (show M.told16 big s.data.toList = (xs, s.data.toList.drop k) by
        rw [HT.out]
        match hq : s.data.toList.drop k with
        | [] => rw [M.told16_nil]; simp
        | [a] => rw [M.told16_one]; simp
        | _ :: _ :: _ => rw [hq] at hz; simp only [List.length_cons] at hz; omega)
      have HD := Lib.hid (drop_str s k)
      clear hz
      go_wp2_with fail
      go_quiet (fail)
      go_wp2_with fail
      go_ret2
      rw [HF.out]
      exact ⟨_, by rw [← HD.out, str_eq]; rfl, hown.drewN _, Bel.drewN hb _⟩
end Go.Proofs.Ythjafhoahhdlnaa

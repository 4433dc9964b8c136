/-
  The document's answers on UTF-16: unitAt, DecodeUtf16, EncodeUtf16.
-/
import Derived.Test.YtmekemlhhjnjjaaUtf16
import Derived.Test.YtmekemlhhjnjjaaRUtf8
import Derived.RegionTactic
import Derived.BigRegion
namespace Go.Proofs.Ytmekemlhhjnjjaa
open Go.RowKit
set_option maxRecDepth 1000000

theorem unitAt_any (big : Bool) (s : ByteArray) (k : Nat) (a b : UInt8) (ha : s.data.toList[k]? = some a) (hb : s.data.toList[k + 1]? = some b) (hs : s.size ≤ 68719476735) (w : World) : Calls Try.prog 89 #[.bool big, .string s, .int .i64 (k : Int)] w fun e w' => e = .returned (.int .i64 (M.unit16 big a b)) ∧ ∃ q, w.drewN q = w' := by
  obtain ⟨k0, h0⟩ := head_at s k a ha
  obtain ⟨k1, h1⟩ := head_at s (k + 1) b hb
  have hal := a.toNat_lt
  have hbl := b.toNat_lt
  clear ha hb
  cases big
  · have H := Lib.hid (show M.unit16 false a b = (a.toNat : Int) + 256 * (b.toNat : Int) by simp only [M.unit16, Bool.false_eq_true, if_false])
    go_enter Try.func89, Try.ntmps89
    go_wp2_with fail
    go_quiet (fail)
    go_wp2_with fail
    go_ret
    rw [H.out]
    exact ⟨rfl, _, rfl⟩
  · have H := Lib.hid (show M.unit16 true a b = 256 * (a.toNat : Int) + (b.toNat : Int) by simp only [M.unit16, if_true])
    go_enter Try.func89, Try.ntmps89
    go_wp2_with fail
    go_quiet (fail)
    go_wp2_with fail
    go_ret
    rw [H.out]
    exact ⟨rfl, _, rfl⟩
theorem unitAt_to (big : Bool) (s : ByteArray) (k : Nat) (a b : UInt8) (n : Int) (hn : M.unit16 big a b = n) (ha : s.data.toList[k]? = some a) (hb : s.data.toList[k + 1]? = some b) (hs : s.size ≤ 68719476735) (i : Int) (hi : i = (k : Int)) (w : World) : Calls Try.prog 89 #[.bool big, .string s, .int .i64 i] w fun e w' => e = .returned (.int .i64 n) ∧ ∃ q, w.drewN q = w' := by
  subst hi
  have := unitAt_any big s k a b ha hb hs w; rw [hn] at this; exact this
theorem between_to (n a b : Int) (c : Bool) (h : decide (a ≤ n ∧ n ≤ b) = c) (w : World) : Calls Try.prog 88 #[.int .i64 n, .int .i64 a, .int .i64 b] w fun e w' => e = .returned (.bool c) ∧ w = w' := by
  have := between_any n a b w; rw [h] at this; exact this
theorem drop_two (l : List UInt8) (k : Nat) (a b : UInt8) (t : List UInt8) (h : l.drop k = a :: b :: t) : l[k]? = some a ∧ l[k + 1]? = some b ∧ l.drop (k + 2) = t := by
  refine ⟨?_, ?_, ?_⟩
  · have := List.getElem?_drop (xs := l) (i := k) (j := 0); rw [h] at this; simpa using this.symm
  · have := List.getElem?_drop (xs := l) (i := k) (j := 1); rw [h] at this; simpa using this.symm
  · have := List.drop_drop (l := l) (i := 2) (j := k); rw [h] at this; simpa using this.symm
set_option maxHeartbeats 4000000 in
theorem decodeUtf16_any (big : Bool) (s : ByteArray) (hs : s.size ≤ 68719476735) (w : World) : Calls Try.prog 74 #[.bool big, .string s] w fun e w' => ∃ v, e = .returned (.tuple #[v, .string ⟨(M.told16 big s.data.toList).2.toArray⟩]) ∧ Own w.heap.size 3 w' v ((M.told16 big s.data.toList).1.map (Value.int .i64)) ∧ Bel w w' := by
  go_enter Try.func74, Try.ntmps74
  go_wp2_with fail
  go_loopw [6, 7] (fun v i wr => ∃ (k : Nat) (xs : List Int), k ≤ s.size ∧ i = .int .i64 k ∧ xs.length ≤ k ∧ Hid (M.told16 big s.data.toList = (xs ++ (M.told16 big (s.data.toList.drop k)).1, (M.told16 big (s.data.toList.drop k)).2)) ∧ Own w.heap.size 3 wr v (xs.map (Value.int .i64)) ∧ Bel w wr) (fun _ i _ => s.size - (intOf i).toNat)
  case atStart => exact ⟨0, [], by omega, rfl, by simp, Lib.hid (by simp), Own.nil _ _ _, Bel.refl _⟩
  case round =>
    obtain ⟨k, xs, hk, rfl, hx, HT, hown, hb⟩ := hrel
    have hz : (s.data.toList.drop k).length = s.size - k := by rw [List.length_drop, ← Lib.size_eq]
    have hsz : ∀ q, w.heap.size ≤ (wr.drewN q).heap.size := fun q => (Bel.drewN hb q).size
    by_cases h2 : k + 2 ≤ s.size
    · obtain ⟨a, b, t, hab⟩ : ∃ a b t, s.data.toList.drop k = a :: b :: t := by
        match hq : s.data.toList.drop k with
        | [] => rw [hq] at hz; simp at hz; omega
        | [a] => rw [hq] at hz; simp at hz; omega
        | a :: b :: t => exact ⟨a, b, t, rfl⟩
      obtain ⟨q0, q1, q2⟩ := drop_two _ _ _ _ _ hab
      have htl : s.size - k = t.length + 2 := by rw [← hz, hab]; rfl
      obtain ⟨u0, u1⟩ := M.unit16_le big a b
      have i2 : (k : Int) + 2 ≤ (s.size : Int) := by omega
      obtain ⟨n, hn⟩ : ∃ n, M.unit16 big a b = n := ⟨_, rfl⟩
      have Q0 := Lib.hid q0
      have Q1 := Lib.hid q1
      have HN := Lib.hid hn
      rcases M.say16 big a b t with ⟨g1, e1⟩ | ⟨g1, g2, e1⟩ | ⟨c, d, u, rfl, g1, g2, e1⟩ | ⟨c, d, u, rfl, g1, g2, e1⟩
      · have HF := Lib.hid (show M.told16 big s.data.toList = ((xs ++ [M.one16 (M.unit16 big a b)]) ++ (M.told16 big (s.data.toList.drop (k + 2))).1, (M.told16 big (s.data.toList.drop (k + 2))).2) by
          rw [HT.out, q2, hab, e1]; simp)
        rw [hn] at g1 u0 u1 HF
        have G1 := Lib.hid (show decide (55296 ≤ n ∧ n ≤ 56319) = false from g1)
        clear hz hab e1 htl hn q0 q1 q2
        cases hlo : M.isLo n with
        | true =>
          have HO := Lib.hid (show M.one16 n = 65533 by rw [M.one16, if_pos hlo])
          have G2 := Lib.hid (show decide (55296 ≤ n ∧ n ≤ 57343) = true by simp only [M.isHi, M.isLo, decide_eq_true_eq, decide_eq_false_iff_not] at hlo g1 ⊢; omega)
          clear hlo g1
          rw [HO.out] at HF
          go_wp2_with fail
          refine (unitAt_to big s k a b n HN.out Q0.out Q1.out hs _ rfl _).mono ?_
          rintro e w1 ⟨rfl, q, rfl⟩
          go_wp2_with (first | (go_at_call 88; (first | with_reducible refine (between_to n 55296 56319 false G1.out _).mono ?_ | with_reducible refine (between_to n 55296 57343 true G2.out _).mono ?_); rintro e w' ⟨rfl, rfl⟩) | (at_builtin; refine wpList_app rfl (.tmp 47) (.tmp 49) 30 rfl elemInt (by decide) w.heap.size _ _ _ rfl rfl (hown.drewN _) rfl (by simp; omega) (hsz _) ?_; intro v' w1 hown' hb1))
          go_roundw
          case rel => exact ⟨k + 2, xs ++ [65533], by omega, by go_num, by rw [List.length_append, List.length_singleton]; omega, HF, by rw [List.map_append]; exact hown', Bel.upto (Bel.drewN hb _) hb1 (Nat.le_refl _)⟩
          case measure => simp [intOf]; omega
        | false =>
          have HO := Lib.hid (show M.one16 n = n by rw [M.one16, if_neg (by rw [hlo]; decide)])
          have G2 := Lib.hid (show decide (55296 ≤ n ∧ n ≤ 57343) = false by simp only [M.isHi, M.isLo, decide_eq_false_iff_not] at hlo g1 ⊢; omega)
          clear hlo g1
          rw [HO.out] at HF
          go_wp2_with fail
          refine (unitAt_to big s k a b n HN.out Q0.out Q1.out hs _ rfl _).mono ?_
          rintro e w1 ⟨rfl, q, rfl⟩
          go_wp2_with (first | (go_at_call 88; (first | with_reducible refine (between_to n 55296 56319 false G1.out _).mono ?_ | with_reducible refine (between_to n 55296 57343 false G2.out _).mono ?_); rintro e w' ⟨rfl, rfl⟩) | (at_builtin; refine wpList_app rfl (.tmp 47) (.tmp 49) 30 rfl elemInt (by decide) w.heap.size _ _ _ rfl rfl (hown.drewN _) rfl (by simp; omega) (hsz _) ?_; intro v' w1 hown' hb1))
          go_roundw
          case rel => exact ⟨k + 2, xs ++ [n], by omega, by go_num, by rw [List.length_append, List.length_singleton]; omega, HF, by rw [List.map_append]; exact hown', Bel.upto (Bel.drewN hb _) hb1 (Nat.le_refl _)⟩
          case measure => simp [intOf]; omega
      · have HF := Lib.hid (show M.told16 big s.data.toList = (xs, s.data.toList.drop k) by
          rw [HT.out, hab, e1]; simp)
        have HD := Lib.hid (drop_str s k)
        rw [hn] at g1 u0 u1
        have G1 := Lib.hid (show decide (55296 ≤ n ∧ n ≤ 56319) = true from g1)
        have h4 : s.size < k + 4 := by omega
        clear hz hab e1 htl hn q0 q1 q2 g1
        go_wp2_with fail
        refine (unitAt_to big s k a b n HN.out Q0.out Q1.out hs _ rfl _).mono ?_
        rintro e w1 ⟨rfl, q, rfl⟩
        go_wp2_with (first | (go_at_call 88; (first | with_reducible refine (between_to n 55296 56319 true G1.out _).mono ?_); rintro e w' ⟨rfl, rfl⟩))
        go_quiet (fail)
        go_wp2_with fail
        go_ret2
        rw [HF.out]
        exact ⟨_, by rw [← HD.out, str_eq]; rfl, (hown.drewN _).drewN _, Bel.drewN (Bel.drewN hb _) _⟩
      · have q3 := drop_two _ _ _ _ _ q2
        have HF := Lib.hid (show M.told16 big s.data.toList = ((xs ++ [M.pair16 (M.unit16 big a b) (M.unit16 big c d)]) ++ (M.told16 big (s.data.toList.drop (k + 4))).1, (M.told16 big (s.data.toList.drop (k + 4))).2) by
          rw [HT.out, q3.2.2, hab, e1]; simp)
        obtain ⟨v0, v1⟩ := M.unit16_le big c d
        obtain ⟨m, hm⟩ : ∃ m, M.unit16 big c d = m := ⟨_, rfl⟩
        rw [hn] at g1 u0 u1 HF
        rw [hm] at g2 v0 v1 HF
        have G1 := Lib.hid (show decide (55296 ≤ n ∧ n ≤ 56319) = true from g1)
        have G2 := Lib.hid (show decide (56320 ≤ m ∧ m ≤ 57343) = true from g2)
        simp only [M.isHi, decide_eq_true_eq] at g1
        simp only [M.isLo, decide_eq_true_eq] at g2
        have HM := Lib.hid hm
        have Q2 := Lib.hid q3.1
        have Q3 := Lib.hid q3.2.1
        have HP := Lib.hid (show M.pair16 n m = 65536 + 1024 * (n - 55296) + m - 56320 by rw [M.pair16]; omega)
        have h4 : k + 4 ≤ s.size := by simp only [List.length_cons] at htl; omega
        clear hz hab e1 htl hn hm q0 q1 q2 q3
        rw [HP.out] at HF
        go_wp2_with fail
        refine (unitAt_to big s k a b n HN.out Q0.out Q1.out hs _ rfl _).mono ?_
        rintro e w1 ⟨rfl, q, rfl⟩
        go_wp2_with (first | (go_at_call 88; (first | with_reducible refine (between_to n 55296 56319 true G1.out _).mono ?_); rintro e w' ⟨rfl, rfl⟩))
        refine (unitAt_to big s (k + 2) c d m HM.out Q2.out Q3.out hs _ (by omega) _).mono ?_
        rintro e w1 ⟨rfl, q2, rfl⟩
        go_wp2_with (first | (go_at_call 88; (first | with_reducible refine (between_to m 56320 57343 true G2.out _).mono ?_); rintro e w' ⟨rfl, rfl⟩) | (at_builtin; refine wpList_app rfl (.tmp 33) (.tmp 41) 30 rfl elemInt (by decide) w.heap.size _ _ _ rfl rfl (hown.drewN _) rfl (by simp; omega) (hsz _) ?_; intro v' w1 hown' hb1))
        go_roundw
        case rel => exact ⟨k + 4, xs ++ [65536 + 1024 * (n - 55296) + m - 56320], by omega, by go_num, by rw [List.length_append, List.length_singleton]; omega, HF, by rw [List.map_append]; exact hown', Bel.upto (Bel.drewN hb _) hb1 (Nat.le_refl _)⟩
        case measure => simp [intOf]; omega
      · have q3 := drop_two _ _ _ _ _ q2
        have HF := Lib.hid (show M.told16 big s.data.toList = ((xs ++ [65533]) ++ (M.told16 big (s.data.toList.drop (k + 2))).1, (M.told16 big (s.data.toList.drop (k + 2))).2) by
          rw [HT.out, q2, hab, e1]; simp)
        obtain ⟨v0, v1⟩ := M.unit16_le big c d
        obtain ⟨m, hm⟩ : ∃ m, M.unit16 big c d = m := ⟨_, rfl⟩
        rw [hn] at g1 u0 u1
        rw [hm] at g2 v0 v1
        have G1 := Lib.hid (show decide (55296 ≤ n ∧ n ≤ 56319) = true from g1)
        have G2 := Lib.hid (show decide (56320 ≤ m ∧ m ≤ 57343) = false from g2)
        have G3 := Lib.hid (show decide (55296 ≤ n ∧ n ≤ 57343) = true by simp only [M.isHi, decide_eq_true_eq] at g1 ⊢; omega)
        have HM := Lib.hid hm
        have Q2 := Lib.hid q3.1
        have Q3 := Lib.hid q3.2.1
        have h4 : k + 4 ≤ s.size := by simp only [List.length_cons] at htl; omega
        clear hz hab e1 htl hn hm q0 q1 q2 q3 g1 g2
        go_wp2_with fail
        refine (unitAt_to big s k a b n HN.out Q0.out Q1.out hs _ rfl _).mono ?_
        rintro e w1 ⟨rfl, q, rfl⟩
        go_wp2_with (first | (go_at_call 88; (first | with_reducible refine (between_to n 55296 56319 true G1.out _).mono ?_); rintro e w' ⟨rfl, rfl⟩))
        refine (unitAt_to big s (k + 2) c d m HM.out Q2.out Q3.out hs _ (by omega) _).mono ?_
        rintro e w1 ⟨rfl, q2, rfl⟩
        go_wp2_with (first | (go_at_call 88; (first | with_reducible refine (between_to m 56320 57343 false G2.out _).mono ?_ | with_reducible refine (between_to n 55296 57343 true G3.out _).mono ?_); rintro e w' ⟨rfl, rfl⟩) | (at_builtin; refine wpList_app rfl (.tmp 47) (.tmp 49) 30 rfl elemInt (by decide) w.heap.size _ _ _ rfl rfl (hown.drewN _) rfl (by simp; omega) (hsz _) ?_; intro v' w1 hown' hb1))
        go_roundw
        case rel => exact ⟨k + 2, xs ++ [65533], by omega, by go_num, by rw [List.length_append, List.length_singleton]; omega, HF, by rw [List.map_append]; exact hown', Bel.upto (Bel.drewN hb _) hb1 (Nat.le_refl _)⟩
        case measure => simp [intOf]; omega
    · have HF := Lib.hid (show M.told16 big s.data.toList = (xs, s.data.toList.drop k) by
        rw [HT.out]
        match hq : s.data.toList.drop k with
        | [] => rw [M.told16_nil]; simp
        | [a] => rw [M.told16_one]; simp
        | _ :: _ :: _ => rw [hq] at hz; simp only [List.length_cons] at hz; omega)
      have HD := Lib.hid (drop_str s k)
      clear hz
      go_wp2_with fail
      go_quiet (fail)
      go_wp2_with fail
      go_ret2
      rw [HF.out]
      exact ⟨_, by rw [← HD.out, str_eq]; rfl, hown.drewN _, Bel.drewN hb _⟩
theorem put16_len (big : Bool) (n : Nat) : (M.put16 big n).length = 2 := by unfold M.put16; split <;> rfl
def flat16 (big : Bool) (us : List Nat) : List UInt8 := us.flatMap (M.put16 big)
theorem flat16_len (big : Bool) (us : List Nat) : (flat16 big us).length = 2 * us.length := by
  induction us with
  | nil => rfl
  | cons u us ih =>
    show (M.put16 big u ++ flat16 big us).length = _
    rw [List.length_append, put16_len, ih, List.length_cons]; omega
theorem row16_le (big : Bool) (m : Nat) : (M.row16 big (m : Int)).length ≤ 4 := M.row16_len big _
set_option maxHeartbeats 4000000 in
theorem encodeUtf16_any (big : Bool) (v : Value) (xs : List Int) (w : World) (hv : IntSl w v xs) (hlen : xs.length ≤ 1000000) (hsc : ∀ n ∈ xs, 0 ≤ n ∧ n ≤ 1114111) : Calls Try.prog 39 #[.bool big, v] w fun e w' => e = .returned (.string ⟨(M.bytes16 big xs).toArray⟩) ∧ Bel w w' := by
  obtain ⟨a, c, rfl, hc1, hc2, hn, hx⟩ := hv
  unfold maxLen at hc2
  go_enter Try.func39, Try.ntmps39
  go_wp2_with fail
  go_loopw [5, 6] (fun v i wr => ∃ k : Nat, k ≤ xs.length ∧ i = .int .i64 k ∧ v = .string ⟨(M.bytes16 big (xs.take k)).toArray⟩ ∧ (M.bytes16 big (xs.take k)).length ≤ 4 * k ∧ Bel w wr) (fun _ i _ => xs.length - (intOf i).toNat)
  case atStart => exact ⟨0, by omega, rfl, by simp [M.bytes16], by simp [M.bytes16], Bel.refl _⟩
  case round =>
    obtain ⟨k, hk, rfl, rfl, hbl, hb⟩ := hrel
    by_cases hlt : k < xs.length
    · obtain ⟨n, hy⟩ : ∃ n, xs[k]? = some n := ⟨_, List.getElem?_eq_getElem hlt⟩
      cases a with
      | none => exfalso; have h3 := hlt; rw [hn rfl, List.length_nil] at h3; omega
      | some x =>
        have hcw := hx x rfl k n hy
        have hcell : wr.cell? (x.add k) = some (.int .i64 n) := (hb.cell (World.block_lt_of_cell? w _ hcw)).trans hcw
        obtain ⟨hn0, hn1⟩ := hsc n (List.mem_of_getElem? hy)
        have HT := Lib.hid (show M.bytes16 big (xs.take (k + 1)) = M.bytes16 big (xs.take k) ++ M.row16 big n by
          rw [List.take_add_one, hy]; simp [M.bytes16])
        obtain ⟨m, rfl⟩ := Int.eq_ofNat_of_zero_le hn0
        have i1 : (k : Int) < (xs.length : Int) := by omega
        clear hx hn hy hcw hsc
        obtain ⟨wo, rfl⟩ : ∃ wo : World, wo = wr := ⟨_, rfl⟩
        generalize M.bytes16 big (xs.take k) = acc at *
        have hcell2 : ∀ o, (wo.alloc o).cell? (x.add k) = some (.int .i64 (m : Int)) := fun o => (((Bel.refl wo).alloc o).cell (World.block_lt_of_cell? wo _ hcell)).trans hcell
        by_cases hm : m < 65536
        · have hmi : (m : Int) < 65536 := by omega
          have hd : decide ((65536 : Int) ≤ (m : Int)) = false := by rw [decide_eq_false_iff_not]; omega
          go_wp2_with fail
          obtain ⟨W1, hW1⟩ : ∃ W1 : World, wo.alloc (.cells #[.int .i64 (m : Int)] 3) = W1 := ⟨_, rfl⟩
          have HW := Lib.hid hW1
          have hbW : Bel w W1 := by rw [← hW1]; exact hb.alloc _
          obtain ⟨us, hus⟩ : ∃ us : List Nat, us = [m] := ⟨_, rfl⟩
          have HU := Lib.hid (show ∀ u ∈ us, u < 65536 by rw [hus]; simpa using hm)
          have HF := Lib.hid (show flat16 big us = M.row16 big (m : Int) by rw [hus, M.row16, if_pos hmi, Int.toNat_natCast]; simp [flat16])
          have HC := Lib.hid (show ∀ (j u : Nat), us[j]? = some u → W1.cell? ⟨wo.heap.size, j, none⟩ = some (.int .i64 (u : Int)) by
            intro (j : Nat) (u : Nat) hu
            rw [← hW1, World.cell?_alloc_new]
            rw [hus] at hu
            match j, hu with
            | 0, hu => simp at hu; subst hu; rfl
            | j + 1, hu => simp at hu)
          have hul : us.length ≤ 1 := by rw [hus]; simp
          have hul2 : 1 ≤ us.length := by rw [hus]; simp
          clear hus hW1 hcell2
          go_loopw [5, 8] (fun vs i wr => ∃ j : Nat, j ≤ us.length ∧ i = .int .i64 j ∧ vs = .string ⟨(acc ++ flat16 big (us.take j)).toArray⟩ ∧ Bel W1 wr) (fun _ i _ => us.length - (intOf i).toNat)
          case atStart => exact ⟨0, by omega, rfl, by simp [flat16], by rw [HW.out]; exact Bel.refl _⟩
          case round =>
            obtain ⟨j, hj, rfl, rfl, hbi⟩ := hrel
            by_cases hjl : j < us.length
            · obtain ⟨u, hu⟩ : ∃ u, us[j]? = some u := ⟨_, List.getElem?_eq_getElem hjl⟩
              have hu2 : u < 65536 := HU.out u (List.mem_of_getElem? hu)
              have hcu : wr.cell? ⟨wo.heap.size, j, none⟩ = some (.int .i64 (u : Int)) := (hbi.cell (World.block_lt_of_cell? W1 _ (HC.out j u hu))).trans (HC.out j u hu)
              have HT2 := Lib.hid (show acc ++ flat16 big (us.take (j + 1)) = (acc ++ flat16 big (us.take j)) ++ M.put16 big u by
                rw [List.take_add_one, hu]; simp [flat16])
              have hfl := flat16_len big (us.take j)
              have hfl2 : (us.take j).length ≤ j := List.length_take_le _ _
              have hfl3 : (flat16 big (us.take j)).length ≤ 4 := by omega
              obtain ⟨p, hp, hp1⟩ : ∃ p : Nat, (u : Int) / 256 = (p : Int) ∧ p < 256 := ⟨u / 256, by omega, by omega⟩
              obtain ⟨r, hr, hr1⟩ : ∃ r : Nat, (u : Int) % 256 = (r : Int) ∧ r < 256 := ⟨u % 256, by omega, by omega⟩
              have HR := Lib.hid (show (M.put16 big u).map byteVal = if big then [.int .u8 (p : Int), .int .u8 (r : Int)] else [.int .u8 (r : Int), .int .u8 (p : Int)] by
                unfold M.put16; cases big <;> simp [byteVal] <;> omega)
              have HPL := Lib.hid (put16_len big u)
              have hpl : (M.put16 big u).length ≤ 2 := by rw [HPL.out]; omega
              have hjl2 : (j : Int) < 1 := by omega
              have hjd : decide ((j : Int) < 1) = true := by rw [decide_eq_true_eq]; omega
              clear hu hfl hfl2
              generalize flat16 big (us.take j) = fl at *
              cases big
              · have HR := Lib.hid (show (M.put16 false u).map byteVal = [.int .u8 (r : Int), .int .u8 (p : Int)] by simpa using HR.out)
                go_wp2_with fail
                go_quiet (fail)
                go_wp2_with (first | ((with_reducible show wpList _ _ _ _ _ _); refine wpList_toString rfl (.tmp 67) _ _ 5 rfl Try.underlying43 Try.underlying5 Try.underlying9 _ _ (M.put16 false u) rfl (own_row _ (M.put16 false u) _ HR.out (by rw [HPL.out]; omega)) ?_))
                go_roundw
                case rel => exact ⟨j + 1, by omega, by go_num, by rw [HT2.out]; simp [str_append], hbi.trans (by repeat (first | exact Bel.refl _ | refine Bel.drewN ?_ _ | refine Bel.drew ?_ | refine Bel.alloc ?_ _ | refine Bel.trans ?_ (by assumption) | refine Bel.setCell ?_ (by simp; omega) _))⟩
                case measure => simp [intOf]; omega
              · have HR := Lib.hid (show (M.put16 true u).map byteVal = [.int .u8 (p : Int), .int .u8 (r : Int)] by simpa using HR.out)
                go_wp2_with fail
                go_quiet (fail)
                go_wp2_with (first | ((with_reducible show wpList _ _ _ _ _ _); refine wpList_toString rfl (.tmp 67) _ _ 5 rfl Try.underlying43 Try.underlying5 Try.underlying9 _ _ (M.put16 true u) rfl (own_row _ (M.put16 true u) _ HR.out (by rw [HPL.out]; omega)) ?_))
                go_roundw
                case rel => exact ⟨j + 1, by omega, by go_num, by rw [HT2.out]; simp [str_append], hbi.trans (by repeat (first | exact Bel.refl _ | refine Bel.drewN ?_ _ | refine Bel.drew ?_ | refine Bel.alloc ?_ _ | refine Bel.trans ?_ (by assumption) | refine Bel.setCell ?_ (by simp; omega) _))⟩
                case measure => simp [intOf]; omega
            · obtain rfl : j = us.length := by omega
              have HT3 := Lib.hid (show us.take us.length = us from List.take_length)
              have HR4 := Lib.hid (row16_le big m)
              rw [HT3.out, HF.out]
              have hjd : decide ((us.length : Int) < 1) = false := by rw [decide_eq_false_iff_not]; omega
              have hjd2 : (1 : Int) ≤ (us.length : Int) := by omega
              go_wp2_with fail
              go_roundw
              case rel => exact ⟨k + 1, by omega, by go_num, by rw [HT.out], by rw [HT.out, List.length_append]; have := HR4.out; omega, hbW.trans hbi⟩
              case measure => simp [intOf]; omega
        · have hmi : (65536 : Int) ≤ (m : Int) := by omega
          have hd : decide ((65536 : Int) ≤ (m : Int)) = true := by rw [decide_eq_true_eq]; omega
          obtain ⟨q, hq, hq1⟩ : ∃ q : Nat, ((m : Int) - 65536) / 1024 = (q : Int) ∧ q < 1024 := ⟨(m - 65536) / 1024, by omega, by omega⟩
          obtain ⟨r, hr, hr1⟩ : ∃ r : Nat, ((m : Int) - 65536) % 1024 = (r : Int) ∧ r < 1024 := ⟨(m - 65536) % 1024, by omega, by omega⟩
          go_wp2_with fail
          go_region
          go_wp2_with fail
          obtain ⟨W1, hW1⟩ : ∃ W1 : World, ((wo.alloc (.cells #[.int .i64 (m : Int)] 3)).alloc (.cells #[.int .i64 (55296 + (q : Int)), .int .i64 (56320 + (r : Int))] 3)).drew = W1 := ⟨_, rfl⟩
          have HW := Lib.hid hW1
          have hbW : Bel w W1 := by rw [← hW1]; exact ((hb.alloc _).alloc _).drew
          obtain ⟨us, hus⟩ : ∃ us : List Nat, us = [55296 + q, 56320 + r] := ⟨_, rfl⟩
          have HU := Lib.hid (show ∀ u ∈ us, u < 65536 by rw [hus]; simp; omega)
          have HF := Lib.hid (show flat16 big us = M.row16 big (m : Int) by
            rw [hus, M.row16, if_neg (by omega), Int.toNat_natCast, show 55296 + (m - 65536) / 1024 = 55296 + q by omega, show 56320 + (m - 65536) % 1024 = 56320 + r by omega]; simp [flat16])
          have HC := Lib.hid (show ∀ (j u : Nat), us[j]? = some u → W1.cell? ⟨wo.heap.size + 1, j, none⟩ = some (.int .i64 (u : Int)) by
            intro (j : Nat) (u : Nat) hu
            rw [← hW1]
            show ((wo.alloc (.cells #[.int .i64 (m : Int)] 3)).alloc (.cells #[.int .i64 (55296 + (q : Int)), .int .i64 (56320 + (r : Int))] 3)).cell? _ = _
            have hnew := World.cell?_alloc_new (wo.alloc (.cells #[.int .i64 (m : Int)] 3)) #[.int .i64 (55296 + (q : Int)), .int .i64 (56320 + (r : Int))] 3 j
            rw [World.size_alloc] at hnew
            rw [hnew]
            rw [hus] at hu
            match j, hu with
            | 0, hu => simp at hu; subst hu; simp
            | 1, hu => simp at hu; subst hu; simp
            | j + 2, hu => simp at hu)
          have hul : us.length ≤ 2 := by rw [hus]; simp
          have hul2 : 2 ≤ us.length := by rw [hus]; simp
          clear hus hW1 hcell2 hq hr
          go_loopw [5, 8] (fun vs i wr => ∃ j : Nat, j ≤ us.length ∧ i = .int .i64 j ∧ vs = .string ⟨(acc ++ flat16 big (us.take j)).toArray⟩ ∧ Bel W1 wr) (fun _ i _ => us.length - (intOf i).toNat)
          case atStart => exact ⟨0, by omega, rfl, by simp [flat16], by rw [HW.out]; exact Bel.refl _⟩
          case round =>
            obtain ⟨j, hj, rfl, rfl, hbi⟩ := hrel
            by_cases hjl : j < us.length
            · obtain ⟨u, hu⟩ : ∃ u, us[j]? = some u := ⟨_, List.getElem?_eq_getElem hjl⟩
              have hu2 : u < 65536 := HU.out u (List.mem_of_getElem? hu)
              have hcu : wr.cell? ⟨(wo.heap.size + 1), j, none⟩ = some (.int .i64 (u : Int)) := (hbi.cell (World.block_lt_of_cell? W1 _ (HC.out j u hu))).trans (HC.out j u hu)
              have HT2 := Lib.hid (show acc ++ flat16 big (us.take (j + 1)) = (acc ++ flat16 big (us.take j)) ++ M.put16 big u by
                rw [List.take_add_one, hu]; simp [flat16])
              have hfl := flat16_len big (us.take j)
              have hfl2 : (us.take j).length ≤ j := List.length_take_le _ _
              have hfl3 : (flat16 big (us.take j)).length ≤ 4 := by omega
              obtain ⟨p, hp, hp1⟩ : ∃ p : Nat, (u : Int) / 256 = (p : Int) ∧ p < 256 := ⟨u / 256, by omega, by omega⟩
              obtain ⟨r, hr, hr1⟩ : ∃ r : Nat, (u : Int) % 256 = (r : Int) ∧ r < 256 := ⟨u % 256, by omega, by omega⟩
              have HR := Lib.hid (show (M.put16 big u).map byteVal = if big then [.int .u8 (p : Int), .int .u8 (r : Int)] else [.int .u8 (r : Int), .int .u8 (p : Int)] by
                unfold M.put16; cases big <;> simp [byteVal] <;> omega)
              have HPL := Lib.hid (put16_len big u)
              have hpl : (M.put16 big u).length ≤ 2 := by rw [HPL.out]; omega
              have hjl2 : (j : Int) < 2 := by omega
              have hjd : decide ((j : Int) < 2) = true := by rw [decide_eq_true_eq]; omega
              clear hu hfl hfl2
              generalize flat16 big (us.take j) = fl at *
              cases big
              · have HR := Lib.hid (show (M.put16 false u).map byteVal = [.int .u8 (r : Int), .int .u8 (p : Int)] by simpa using HR.out)
                go_wp2_with fail
                go_quiet (fail)
                go_wp2_with (first | ((with_reducible show wpList _ _ _ _ _ _); refine wpList_toString rfl (.tmp 67) _ _ 5 rfl Try.underlying43 Try.underlying5 Try.underlying9 _ _ (M.put16 false u) rfl (own_row _ (M.put16 false u) _ HR.out (by rw [HPL.out]; omega)) ?_))
                go_roundw
                case rel => exact ⟨j + 1, by omega, by go_num, by rw [HT2.out]; simp [str_append], hbi.trans (by repeat (first | exact Bel.refl _ | refine Bel.drewN ?_ _ | refine Bel.drew ?_ | refine Bel.alloc ?_ _ | refine Bel.trans ?_ (by assumption) | refine Bel.setCell ?_ (by simp; omega) _))⟩
                case measure => simp [intOf]; omega
              · have HR := Lib.hid (show (M.put16 true u).map byteVal = [.int .u8 (p : Int), .int .u8 (r : Int)] by simpa using HR.out)
                go_wp2_with fail
                go_quiet (fail)
                go_wp2_with (first | ((with_reducible show wpList _ _ _ _ _ _); refine wpList_toString rfl (.tmp 67) _ _ 5 rfl Try.underlying43 Try.underlying5 Try.underlying9 _ _ (M.put16 true u) rfl (own_row _ (M.put16 true u) _ HR.out (by rw [HPL.out]; omega)) ?_))
                go_roundw
                case rel => exact ⟨j + 1, by omega, by go_num, by rw [HT2.out]; simp [str_append], hbi.trans (by repeat (first | exact Bel.refl _ | refine Bel.drewN ?_ _ | refine Bel.drew ?_ | refine Bel.alloc ?_ _ | refine Bel.trans ?_ (by assumption) | refine Bel.setCell ?_ (by simp; omega) _))⟩
                case measure => simp [intOf]; omega
            · obtain rfl : j = us.length := by omega
              have HT3 := Lib.hid (show us.take us.length = us from List.take_length)
              have HR4 := Lib.hid (row16_le big m)
              rw [HT3.out, HF.out]
              have hjd : decide ((us.length : Int) < 2) = false := by rw [decide_eq_false_iff_not]; omega
              have hjd2 : (2 : Int) ≤ (us.length : Int) := by omega
              go_wp2_with fail
              go_roundw
              case rel => exact ⟨k + 1, by omega, by go_num, by rw [HT.out], by rw [HT.out, List.length_append]; have := HR4.out; omega, hbW.trans hbi⟩
              case measure => simp [intOf]; omega
    · obtain rfl : k = xs.length := by omega
      have HT := Lib.hid (show xs.take xs.length = xs from List.take_length)
      go_wp2_with fail
      go_ret
      rw [HT.out]
      exact ⟨rfl, hb⟩
end Go.Proofs.Ytmekemlhhjnjjaa

/-
  The law StreamPieces.
-/
import Derived.Test.YthjafhoahhdlnaaLawStream2
import Derived.Test.YthjafhoahhdlnaaBase6
import Derived.Deep.Cut
import Derived.Deep.CutRange
namespace Go.Proofs.Ythjafhoahhdlnaa
open Go.RowKit
set_option maxRecDepth 1000000

theorem three_parts (s : ByteArray) (i j : Nat) : s.data.toList = (s.extract 0 i).data.toList ++ ((s.extract i (i + j)).data.toList ++ (s.extract (i + j) s.size).data.toList) := by
  rw [Lib.extract_data, Lib.extract_data, drop_str, List.drop_zero, Nat.sub_zero, Nat.add_sub_cancel_left]
  conv => lhs; rw [← List.take_append_drop i s.data.toList]
  congr 1
  conv => lhs; rw [← List.take_append_drop j (s.data.toList.drop i)]
  rw [List.drop_drop]
theorem piece_le (s : ByteArray) (i j : Nat) (h : s.size ≤ 3000) : (s.extract i j).data.toList.length ≤ 3000 := by
  rw [Lib.extract_data]
  have := List.length_take_le (j - i) (s.data.toList.drop i)
  have h2 : (s.data.toList.drop i).length ≤ s.data.toList.length := by rw [List.length_drop]; omega
  have h3 := List.length_take_le' (j - i) (s.data.toList.drop i)
  rw [← Lib.size_eq] at h2
  omega
theorem allE_len (n : Int) (h : M.isEnc n = true) (s : List UInt8) : (M.allE n s).length ≤ s.length + 4 := by
  rw [← M.raw_all n h s, M.rawM, if_pos rfl, List.length_append]
  have h1 := M.tell_len (M.opn n) h s
  have h2 := M.end_len (M.tellM (M.opn n) s).2
  have h3 := (M.right_tell (M.opn n) s (M.right_opn n h)).len
  have h4 : (M.opn n).rest.length = 0 := rfl
  omega
theorem pieces_facts (n : Int) (h : M.isEnc n = true) (a b c : List UInt8) (ha : a.length ≤ 3000) (hb : b.length ≤ 3000) (hc : c.length ≤ 3000) :
    ∃ X1 X2 X3 l1 g1 f1 p1 l2 g2 f2 p2, M.feedE ⟨n, [], 0, false, false⟩ a false = (X1, ⟨n, l1, g1, f1, p1⟩, 0) ∧ M.feedE ⟨n, l1, g1, f1, p1⟩ b false = (X2, ⟨n, l2, g2, f2, p2⟩, 0) ∧ M.feedE ⟨n, l2, g2, f2, p2⟩ c true = (X3, ⟨n, [], 0, false, false⟩, 0) ∧
      M.allE n (a ++ (b ++ c)) = X1 ++ X2 ++ X3 ∧ M.checkM ⟨n, l1, g1, f1, p1⟩ = 0 ∧ M.checkM ⟨n, l2, g2, f2, p2⟩ = 0 := by
  have hr0 := M.right_opn n h
  have hr1 := M.right_raw (M.opn n) a false hr0
  have e1 := M.raw_enc (M.opn n) a false
  have hr2 := M.right_raw (M.rawM (M.opn n) a false).2 b false hr1
  have e2 := M.raw_enc (M.rawM (M.opn n) a false).2 b false
  have q1 := feed_right (M.opn n) hr0 a ha false
  have q2 := feed_right _ hr1 b hb false
  have q3 := feed_right _ hr2 c hc true
  have hall := M.raw_all n h (a ++ (b ++ c))
  rw [M.raw_app (M.opn n) hr0, M.raw_app _ hr1] at hall
  rw [M.raw_last] at q3
  obtain ⟨⟨X1, n1, l1, g1, f1, p1⟩, hx1⟩ : ∃ q, M.rawM (M.opn n) a false = q := ⟨_, rfl⟩
  rw [hx1] at hr1 e1 hr2 e2 q1 q2 q3 hall
  simp only at hr1 e1 hr2 e2 q1 q2 q3 hall
  obtain rfl : n1 = n := e1
  obtain ⟨⟨X2, n2, l2, g2, f2, p2⟩, hx2⟩ : ∃ q, M.rawM ⟨n1, l1, g1, f1, p1⟩ b false = q := ⟨_, rfl⟩
  rw [hx2] at hr2 e2 q2 q3 hall
  simp only at hr2 e2 q2 q3 hall
  obtain rfl : n2 = n1 := e2
  exact ⟨X1, X2, _, l1, g1, f1, p1, l2, g2, f2, p2, q1, q2, q3, by rw [← hall, List.append_assoc], (M.check_right _).2 hr1, (M.check_right _).2 hr2⟩
set_option maxHeartbeats 8000000 in
theorem streamPiecesTrue (n : Int) (s : ByteArray) (cut more : Int) (w : World) (_ : -9223372036854775808 ≤ n ∧ n ≤ 9223372036854775807) (hs : s.size ≤ reachBytes) (hc0 : -9223372036854775808 ≤ cut ∧ cut ≤ 9223372036854775807) (hm0 : -9223372036854775808 ≤ more ∧ more ≤ 9223372036854775807) : Calls Try.prog 7 #[.int .i64 n, .string s, .int .i64 cut, .int .i64 more] w fun e w' => e = .returned (.bool true) ∧ Bel w w' := by
  simp only [reachBytes] at hs
  obtain ⟨k, hk⟩ : ∃ k, M.readyE n s.data.toList = k := ⟨_, rfl⟩
  by_cases hk0 : k = 0
  · subst hk0
    obtain ⟨hn, hs3⟩ := ready_ok n s hk
    obtain ⟨xs, hxs⟩ : ∃ xs, M.allE n s.data.toList = xs := ⟨_, rfl⟩
    have HD := Lib.hid (show M.decE n s.data.toList = (xs, 0) by rw [M.decE, if_pos hk, hxs])
    have HI := Lib.hid hn
    clear hk
    by_cases h1 : cut < 0
    · clear hxs hn
      go_enter Try.func7, Try.ntmps7
      go_wp2_with fail
      refine (decE_sl n s _ _ HD.out _).mono ?_
      rintro e w1 ⟨A1, c1, rfl, o1, b1⟩
      go_wp2_with fail
      refine (streamBegun_any _).mono ?_
      rintro e w2 ⟨rfl, b2⟩
      go_wp2_with fail
      go_ret
      exact ⟨rfl, (by repeat (first | exact Bel.refl _ | refine Bel.drewN ?_ _ | refine Bel.drew ?_ | refine Bel.alloc ?_ _ | refine Bel.trans ?_ (by assumption) | refine Bel.setCell ?_ (by simp; omega) _))⟩
    · by_cases h2 : more < 0
      · clear hxs hn
        go_enter Try.func7, Try.ntmps7
        go_wp2_with fail
        refine (decE_sl n s _ _ HD.out _).mono ?_
        rintro e w1 ⟨A1, c1, rfl, o1, b1⟩
        go_wp2_with fail
        refine (streamBegun_any _).mono ?_
        rintro e w2 ⟨rfl, b2⟩
        go_wp2_with fail
        go_ret
        exact ⟨rfl, (by repeat (first | exact Bel.refl _ | refine Bel.drewN ?_ _ | refine Bel.drew ?_ | refine Bel.alloc ?_ _ | refine Bel.trans ?_ (by assumption) | refine Bel.setCell ?_ (by simp; omega) _))⟩
      · obtain ⟨i, rfl⟩ := Int.eq_ofNat_of_zero_le (show 0 ≤ cut by omega)
        obtain ⟨j, rfl⟩ := Int.eq_ofNat_of_zero_le (show 0 ≤ more by omega)
        clear h1 h2
        by_cases h3 : s.size < i
        · have h3i : (s.size : Int) < (i : Int) := by omega
          clear hxs hn
          go_enter Try.func7, Try.ntmps7
          go_wp2_with fail
          refine (decE_sl n s _ _ HD.out _).mono ?_
          rintro e w1 ⟨A1, c1, rfl, o1, b1⟩
          go_wp2_with fail
          refine (streamBegun_any _).mono ?_
          rintro e w2 ⟨rfl, b2⟩
          go_wp2_with fail
          go_ret
          exact ⟨rfl, (by repeat (first | exact Bel.refl _ | refine Bel.drewN ?_ _ | refine Bel.drew ?_ | refine Bel.alloc ?_ _ | refine Bel.trans ?_ (by assumption) | refine Bel.setCell ?_ (by simp; omega) _))⟩
        · by_cases h4 : s.size < i + j
          · have h4i : (s.size : Int) - (i : Int) < (j : Int) := by omega
            clear hxs hn
            go_enter Try.func7, Try.ntmps7
            go_wp2_with fail
            refine (decE_sl n s _ _ HD.out _).mono ?_
            rintro e w1 ⟨A1, c1, rfl, o1, b1⟩
            go_wp2_with fail
            refine (streamBegun_any _).mono ?_
            rintro e w2 ⟨rfl, b2⟩
            go_wp2_with fail
            go_ret
            exact ⟨rfl, (by repeat (first | exact Bel.refl _ | refine Bel.drewN ?_ _ | refine Bel.drew ?_ | refine Bel.alloc ?_ _ | refine Bel.trans ?_ (by assumption) | refine Bel.setCell ?_ (by simp; omega) _))⟩
          · obtain ⟨X1, X2, X3, l1, g1, f1, p1, l2, g2, f2, p2, q1, q2, q3, hall, k1, k2⟩ := pieces_facts n hn _ _ _ (piece_le s 0 i hs3) (piece_le s i (i + j) hs3) (piece_le s (i + j) s.size hs3)
            rw [← three_parts, hxs] at hall
            have hxl := allE_len n hn s.data.toList
            rw [hxs, hall, ← Lib.size_eq, List.length_append, List.length_append] at hxl
            have hl1 : X1.length ≤ 3004 := by omega
            have hl2 : X2.length ≤ 3004 := by omega
            have hl3 : X3.length ≤ 3004 := by omega
            clear hxl
            have Q1 := Lib.hid q1
            have Q2 := Lib.hid q2
            have Q3 := Lib.hid q3
            have K1 := Lib.hid k1
            have K2 := Lib.hid k2
            have h3b : i ≤ s.size := by omega
            have h4b : i + j ≤ s.size := by omega
            have h4c : (j : Int) ≤ (s.size : Int) - (i : Int) := by omega
            have za : (i : Int) + (j : Int) ≤ (s.size : Int) := by omega
            have zb : (0 : Int) ≤ (i : Int) + (j : Int) := by omega
            have zc : (i : Int) ≤ (i : Int) + (j : Int) := by omega
            have zd : ((i : Int) + (j : Int)).toNat = i + j := by omega
            have ze : (i : Int) ≤ (s.size : Int) := by omega
            have zf : IntKind.i64.wrap ((i : Int) + (j : Int)) = (i : Int) + (j : Int) := by rw [IntKind.wrap_i64]; omega
            subst hall
            clear hxs hn q1 q2 q3 k1 k2 h3 h4
            go_enter Try.func7, Try.ntmps7
            go_wp2_with fail
            refine (decE_sl n s _ _ HD.out _).mono ?_
            rintro e w1 ⟨A1, c1, rfl, o1, b1⟩
            go_wp2_with fail
            refine (streamBegun_any _).mono ?_
            rintro e w2 ⟨rfl, b2⟩
            go_wp2_with fail
            refine (open_yes n HI.out _).mono ?_
            rintro e w3 ⟨rfl, b3⟩
            have o13 := o1.ints.bel (b2.trans b3)
            have hb3 : Bel w w3 := (by repeat (first | exact Bel.refl _ | refine Bel.drewN ?_ _ | refine Bel.drew ?_ | refine Bel.alloc ?_ _ | refine Bel.trans ?_ (by assumption) | refine Bel.setCell ?_ (by simp; omega) _))
            clear o1 b1 b2 b3
            go_wp2_with fail
            have hX := Box.new w3 40 [.int .i64 n, .string ⟨#[]⟩, .int .i64 0, .bool false, .bool false]
            have hP : Bel w (w3.alloc (.cells #[.int .i64 n, .string ⟨#[]⟩, .int .i64 0, .bool false, .bool false] 40)) := hb3.alloc _
            have i1 : IntSl (w3.alloc (.cells #[.int .i64 n, .string ⟨#[]⟩, .int .i64 0, .bool false, .bool false] 40)) (.slice A1 (X1 ++ X2 ++ X3).length c1) (X1 ++ X2 ++ X3) := o13.bel ((Bel.refl _).alloc _)
            clear o13 hb3
            generalize w3.alloc (.cells #[.int .i64 n, .string ⟨#[]⟩, .int .i64 0, .bool false, .bool false] 40) = P at *
            generalize w3.heap.size = x at *
            have hxl := hX.lt
            have sc0 := hX.cell 0 _ rfl; have sc1 := hX.cell 1 _ rfl; have sc2 := hX.cell 2 _ rfl; have sc3 := hX.cell 3 _ rfl; have sc4 := hX.cell 4 _ rfl
            go_cut [12, 13, 14] from 66 to 74 (fun va vp ve wx => ∃ (A : Option Addr) (c q : Nat), va = .slice A X1.length c ∧ vp = .pointer (some ⟨q, 0, none⟩) ∧ ve = .int .i64 0 ∧ Box wx q 40 [.int .i64 n, .string ⟨l1.toArray⟩, .int .i64 g1, .bool f1, .bool p1] ∧ Bel P wx ∧ IntSl wx (.slice A X1.length c) X1)
            case first =>
              go_region_with ((first | (go_at_call 20; refine (feed_sl n ⟨#[]⟩ 0 false false (s.extract 0 i) false _ _ _ _ _ _ _ Q1.out _).mono ?_; rintro e w4 ⟨A4, c4, rfl, o4, b4⟩; have hX4 := Box.bel (Box.bel hX (by repeat (first | exact Bel.refl _ | refine Bel.drewN ?_ _ | refine Bel.drew ?_ | refine Bel.alloc ?_ _ | refine Bel.trans ?_ (by assumption) | refine Bel.setCell ?_ (by simp; omega) _))) b4; have tc0 := hX4.cell 0 _ rfl; have tc1 := hX4.cell 1 _ rfl; have tc2 := hX4.cell 2 _ rfl; have tc3 := hX4.cell 3 _ rfl; have tc4 := hX4.cell 4 _ rfl; try (have hZ := Box.bel (w := (P.alloc (.cells #[.int .i64 0, .string ⟨#[]⟩, .int .i64 0, .bool false, .bool false] 40)).drew) (Box.new P 40 [.int .i64 0, .string ⟨#[]⟩, .int .i64 0, .bool false, .bool false]) b4; have zc0 := hZ.cell 0 _ rfl; have zc1 := hZ.cell 1 _ rfl; have zc2 := hZ.cell 2 _ rfl; have zc3 := hZ.cell 3 _ rfl; have zc4 := hZ.cell 4 _ rfl; have zf0 := hZ.frozen 0; have zf1 := hZ.frozen 1; have zf2 := hZ.frozen 2; have zf3 := hZ.frozen 3; have zf4 := hZ.frozen 4))))
              all_goals first
                | (have hA := ((((hZ.set 0 (.int .i64 n)).set 1 (.string ⟨l1.toArray⟩)).set 2 (.int .i64 g1)).set 3 (.bool f1)).set 4 (.bool p1)
                   have hBW0 := ((((Bel.trans (Bel.drew ((Bel.refl P).alloc _)) b4).setCell (p := ⟨P.heap.size, 0, none⟩) (Nat.le_refl _) (.int .i64 n)).setCell (p := ⟨P.heap.size, 1, none⟩) (Nat.le_refl _) (.string ⟨l1.toArray⟩)).setCell (p := ⟨P.heap.size, 2, none⟩) (Nat.le_refl _) (.int .i64 g1)).setCell (p := ⟨P.heap.size, 3, none⟩) (Nat.le_refl _) (.bool f1)
                   have hBW := hBW0.setCell (p := ⟨P.heap.size, 4, none⟩) (Nat.le_refl _) (.bool p1)
                   have hI := (((((o4.setCell (p := ⟨P.heap.size, 0, none⟩) (by simp) (.int .i64 n)).setCell (p := ⟨P.heap.size, 1, none⟩) (by simp) (.string ⟨l1.toArray⟩)).setCell (p := ⟨P.heap.size, 2, none⟩) (by simp) (.int .i64 g1)).setCell (p := ⟨P.heap.size, 3, none⟩) (by simp) (.bool f1)).setCell (p := ⟨P.heap.size, 4, none⟩) (by simp) (.bool p1)).ints
                   clear zc0 zc1 zc2 zc3 zc4 zf0 zf1 zf2 zf3 zf4 hZ hBW0 tc0 tc1 tc2 tc3 tc4 hX4 o4 b4
                   generalize ((((w4.setCell ⟨P.heap.size, 0, none⟩ (.int .i64 n)).setCell ⟨P.heap.size, 1, none⟩ (.string ⟨l1.toArray⟩)).setCell ⟨P.heap.size, 2, none⟩ (.int .i64 g1)).setCell ⟨P.heap.size, 3, none⟩ (.bool f1)).setCell ⟨P.heap.size, 4, none⟩ (.bool p1) = W at *
                   generalize P.heap.size = q at *)
                | (have hA := Box.new w4 40 [(.int .i64 n), (.string ⟨l1.toArray⟩), (.int .i64 g1), (.bool f1), (.bool p1)]
                   have hBW := (Bel.trans (Bel.drew (Bel.refl P)) b4).alloc (.cells #[(.int .i64 n), (.string ⟨l1.toArray⟩), (.int .i64 g1), (.bool f1), (.bool p1)] 40)
                   have hI := (o4.alloc (.cells #[(.int .i64 n), (.string ⟨l1.toArray⟩), (.int .i64 g1), (.bool f1), (.bool p1)] 40)).ints
                   clear tc0 tc1 tc2 tc3 tc4 hX4 o4 b4
                   generalize w4.alloc (.cells #[(.int .i64 n), (.string ⟨l1.toArray⟩), (.int .i64 g1), (.bool f1), (.bool p1)] 40) = W at *
                   generalize w4.heap.size = q at *)
              all_goals
                try go_wp2_with fail
                go_meet
                exact ⟨A4, c4, q, rfl, rfl, rfl, hA, hBW, hI⟩
            case rest =>
              obtain ⟨A4, c4, x2, rfl, rfl, rfl, hY, hBW, iA⟩ := hcut
              have hX := Box.bel hX hBW
              have hP := Bel.trans hP hBW
              have i1 := IntSl.bel i1 hBW
              clear hBW sc0 sc1 sc2 sc3 sc4 hxl
              rename World => P2
              have hxl := hY.lt
              have sc0 := hY.cell 0 _ rfl; have sc1 := hY.cell 1 _ rfl; have sc2 := hY.cell 2 _ rfl; have sc3 := hY.cell 3 _ rfl; have sc4 := hY.cell 4 _ rfl
              go_wp2_with fail
              go_cut [15, 16, 17] from 75 to 86 (fun va vp ve wx => ∃ (A : Option Addr) (c q : Nat), va = .slice A X2.length c ∧ vp = .pointer (some ⟨q, 0, none⟩) ∧ ve = .int .i64 0 ∧ Box wx q 40 [.int .i64 n, .string ⟨l2.toArray⟩, .int .i64 g2, .bool f2, .bool p2] ∧ Bel P2 wx ∧ IntSl wx (.slice A X2.length c) X2)
              case first =>
                go_region_with ((first | (go_at_call 20; refine (feed_sl n ⟨l1.toArray⟩ g1 f1 p1 (s.extract i (i + j)) false _ _ _ _ _ _ _ Q2.out _).mono ?_; rintro e w5 ⟨A5, c5, rfl, o5, b5⟩; have hX4 := Box.bel (Box.bel hY (by repeat (first | exact Bel.refl _ | refine Bel.drewN ?_ _ | refine Bel.drew ?_ | refine Bel.alloc ?_ _ | refine Bel.trans ?_ (by assumption) | refine Bel.setCell ?_ (by simp; omega) _))) b5; have tc0 := hX4.cell 0 _ rfl; have tc1 := hX4.cell 1 _ rfl; have tc2 := hX4.cell 2 _ rfl; have tc3 := hX4.cell 3 _ rfl; have tc4 := hX4.cell 4 _ rfl; try (have hZ := Box.bel (w := (P2.alloc (.cells #[.int .i64 0, .string ⟨#[]⟩, .int .i64 0, .bool false, .bool false] 40)).drew) (Box.new P2 40 [.int .i64 0, .string ⟨#[]⟩, .int .i64 0, .bool false, .bool false]) b5; have zc0 := hZ.cell 0 _ rfl; have zc1 := hZ.cell 1 _ rfl; have zc2 := hZ.cell 2 _ rfl; have zc3 := hZ.cell 3 _ rfl; have zc4 := hZ.cell 4 _ rfl; have zf0 := hZ.frozen 0; have zf1 := hZ.frozen 1; have zf2 := hZ.frozen 2; have zf3 := hZ.frozen 3; have zf4 := hZ.frozen 4))))
                all_goals first
                  | (have hA := ((((hZ.set 0 (.int .i64 n)).set 1 (.string ⟨l2.toArray⟩)).set 2 (.int .i64 g2)).set 3 (.bool f2)).set 4 (.bool p2)
                     have hBW0 := ((((Bel.trans (Bel.drew ((Bel.refl P2).alloc _)) b5).setCell (p := ⟨P2.heap.size, 0, none⟩) (Nat.le_refl _) (.int .i64 n)).setCell (p := ⟨P2.heap.size, 1, none⟩) (Nat.le_refl _) (.string ⟨l2.toArray⟩)).setCell (p := ⟨P2.heap.size, 2, none⟩) (Nat.le_refl _) (.int .i64 g2)).setCell (p := ⟨P2.heap.size, 3, none⟩) (Nat.le_refl _) (.bool f2)
                     have hBW := hBW0.setCell (p := ⟨P2.heap.size, 4, none⟩) (Nat.le_refl _) (.bool p2)
                     have hI := (((((o5.setCell (p := ⟨P2.heap.size, 0, none⟩) (by simp) (.int .i64 n)).setCell (p := ⟨P2.heap.size, 1, none⟩) (by simp) (.string ⟨l2.toArray⟩)).setCell (p := ⟨P2.heap.size, 2, none⟩) (by simp) (.int .i64 g2)).setCell (p := ⟨P2.heap.size, 3, none⟩) (by simp) (.bool f2)).setCell (p := ⟨P2.heap.size, 4, none⟩) (by simp) (.bool p2)).ints
                     clear zc0 zc1 zc2 zc3 zc4 zf0 zf1 zf2 zf3 zf4 hZ hBW0 tc0 tc1 tc2 tc3 tc4 hX4 o5 b5
                     generalize ((((w5.setCell ⟨P2.heap.size, 0, none⟩ (.int .i64 n)).setCell ⟨P2.heap.size, 1, none⟩ (.string ⟨l2.toArray⟩)).setCell ⟨P2.heap.size, 2, none⟩ (.int .i64 g2)).setCell ⟨P2.heap.size, 3, none⟩ (.bool f2)).setCell ⟨P2.heap.size, 4, none⟩ (.bool p2) = W at *
                     generalize P2.heap.size = q at *)
                  | (have hA := Box.new w5 40 [(.int .i64 n), (.string ⟨l2.toArray⟩), (.int .i64 g2), (.bool f2), (.bool p2)]
                     have hBW := (Bel.trans (Bel.drew (Bel.refl P2)) b5).alloc (.cells #[(.int .i64 n), (.string ⟨l2.toArray⟩), (.int .i64 g2), (.bool f2), (.bool p2)] 40)
                     have hI := (o5.alloc (.cells #[(.int .i64 n), (.string ⟨l2.toArray⟩), (.int .i64 g2), (.bool f2), (.bool p2)] 40)).ints
                     clear tc0 tc1 tc2 tc3 tc4 hX4 o5 b5
                     generalize w5.alloc (.cells #[(.int .i64 n), (.string ⟨l2.toArray⟩), (.int .i64 g2), (.bool f2), (.bool p2)] 40) = W at *
                     generalize w5.heap.size = q at *)
                all_goals
                  try go_wp2_with fail
                  go_meet
                  exact ⟨A5, c5, q, rfl, rfl, rfl, hA, hBW, hI⟩
              case rest =>
                obtain ⟨A5, c5, x3, rfl, rfl, rfl, hZ3, hBW, iB⟩ := hcut
                have hX := Box.bel hX hBW
                have hY := Box.bel hY hBW
                have hP := Bel.trans hP hBW
                have i1 := IntSl.bel i1 hBW
                have iA := IntSl.bel iA hBW
                clear hBW sc0 sc1 sc2 sc3 sc4 hxl
                rename World => P3
                have hxl := hZ3.lt
                have sc0 := hZ3.cell 0 _ rfl; have sc1 := hZ3.cell 1 _ rfl; have sc2 := hZ3.cell 2 _ rfl; have sc3 := hZ3.cell 3 _ rfl; have sc4 := hZ3.cell 4 _ rfl
                go_wp2_with fail
                go_cut [18, 19, 20] from 87 to 97 (fun va vp ve wx => ∃ (A : Option Addr) (c q : Nat), va = .slice A X3.length c ∧ vp = .pointer (some ⟨q, 0, none⟩) ∧ ve = .int .i64 0 ∧ Box wx q 40 [.int .i64 n, .string ⟨#[]⟩, .int .i64 0, .bool false, .bool false] ∧ Bel P3 wx ∧ IntSl wx (.slice A X3.length c) X3)
                case first =>
                  go_region_with ((first | (go_at_call 20; refine (feed_sl n ⟨l2.toArray⟩ g2 f2 p2 (s.extract (i + j) s.size) true _ _ _ _ _ _ _ Q3.out _).mono ?_; rintro e w6 ⟨A6, c6, rfl, o6, b6⟩; have hX4 := Box.bel (Box.bel hZ3 (by repeat (first | exact Bel.refl _ | refine Bel.drewN ?_ _ | refine Bel.drew ?_ | refine Bel.alloc ?_ _ | refine Bel.trans ?_ (by assumption) | refine Bel.setCell ?_ (by simp; omega) _))) b6; have tc0 := hX4.cell 0 _ rfl; have tc1 := hX4.cell 1 _ rfl; have tc2 := hX4.cell 2 _ rfl; have tc3 := hX4.cell 3 _ rfl; have tc4 := hX4.cell 4 _ rfl; try (have hZ := Box.bel (w := (P3.alloc (.cells #[.int .i64 0, .string ⟨#[]⟩, .int .i64 0, .bool false, .bool false] 40)).drew) (Box.new P3 40 [.int .i64 0, .string ⟨#[]⟩, .int .i64 0, .bool false, .bool false]) b6; have zc0 := hZ.cell 0 _ rfl; have zc1 := hZ.cell 1 _ rfl; have zc2 := hZ.cell 2 _ rfl; have zc3 := hZ.cell 3 _ rfl; have zc4 := hZ.cell 4 _ rfl; have zf0 := hZ.frozen 0; have zf1 := hZ.frozen 1; have zf2 := hZ.frozen 2; have zf3 := hZ.frozen 3; have zf4 := hZ.frozen 4))))
                  all_goals first
                    | (have hA := ((((hZ.set 0 (.int .i64 n)).set 1 (.string ⟨#[]⟩)).set 2 (.int .i64 0)).set 3 (.bool false)).set 4 (.bool false)
                       have hBW0 := ((((Bel.trans (Bel.drew ((Bel.refl P3).alloc _)) b6).setCell (p := ⟨P3.heap.size, 0, none⟩) (Nat.le_refl _) (.int .i64 n)).setCell (p := ⟨P3.heap.size, 1, none⟩) (Nat.le_refl _) (.string ⟨#[]⟩)).setCell (p := ⟨P3.heap.size, 2, none⟩) (Nat.le_refl _) (.int .i64 0)).setCell (p := ⟨P3.heap.size, 3, none⟩) (Nat.le_refl _) (.bool false)
                       have hBW := hBW0.setCell (p := ⟨P3.heap.size, 4, none⟩) (Nat.le_refl _) (.bool false)
                       have hI := (((((o6.setCell (p := ⟨P3.heap.size, 0, none⟩) (by simp) (.int .i64 n)).setCell (p := ⟨P3.heap.size, 1, none⟩) (by simp) (.string ⟨#[]⟩)).setCell (p := ⟨P3.heap.size, 2, none⟩) (by simp) (.int .i64 0)).setCell (p := ⟨P3.heap.size, 3, none⟩) (by simp) (.bool false)).setCell (p := ⟨P3.heap.size, 4, none⟩) (by simp) (.bool false)).ints
                       clear zc0 zc1 zc2 zc3 zc4 zf0 zf1 zf2 zf3 zf4 hZ hBW0 tc0 tc1 tc2 tc3 tc4 hX4 o6 b6
                       generalize ((((w6.setCell ⟨P3.heap.size, 0, none⟩ (.int .i64 n)).setCell ⟨P3.heap.size, 1, none⟩ (.string ⟨#[]⟩)).setCell ⟨P3.heap.size, 2, none⟩ (.int .i64 0)).setCell ⟨P3.heap.size, 3, none⟩ (.bool false)).setCell ⟨P3.heap.size, 4, none⟩ (.bool false) = W at *
                       generalize P3.heap.size = q at *)
                    | (have hA := Box.new w6 40 [(.int .i64 n), (.string ⟨#[]⟩), (.int .i64 0), (.bool false), (.bool false)]
                       have hBW := (Bel.trans (Bel.drew (Bel.refl P3)) b6).alloc (.cells #[(.int .i64 n), (.string ⟨#[]⟩), (.int .i64 0), (.bool false), (.bool false)] 40)
                       have hI := (o6.alloc (.cells #[(.int .i64 n), (.string ⟨#[]⟩), (.int .i64 0), (.bool false), (.bool false)] 40)).ints
                       clear tc0 tc1 tc2 tc3 tc4 hX4 o6 b6
                       generalize w6.alloc (.cells #[(.int .i64 n), (.string ⟨#[]⟩), (.int .i64 0), (.bool false), (.bool false)] 40) = W at *
                       generalize w6.heap.size = q at *)
                  all_goals
                    try go_wp2_with fail
                    go_meet
                    exact ⟨A6, c6, q, rfl, rfl, rfl, hA, hBW, hI⟩
                case rest =>
                  obtain ⟨A6, c6, x4, rfl, rfl, rfl, hV, hBW, iC⟩ := hcut
                  have hX := Box.bel hX hBW
                  have hY := Box.bel hY hBW
                  have hZ3 := Box.bel hZ3 hBW
                  have hP := Bel.trans hP hBW
                  have i1 := IntSl.bel i1 hBW
                  have iA := IntSl.bel iA hBW
                  have iB := IntSl.bel iB hBW
                  clear hBW sc0 sc1 sc2 sc3 sc4 hxl
                  rename World => P4
                  go_wp2_with (first
                    | (at_builtin; refine wpList_appInts (.tmp 98) (.tmp 99) 22 rfl elemInt (by decide) P4.heap.size _ _ (Own.empty _ _ (Nat.le_refl _)) _ X1 (iA.bel (by repeat (first | exact Bel.refl _ | refine Bel.drewN ?_ _ | refine Bel.drew ?_ | refine Bel.alloc ?_ _ | refine Bel.trans ?_ (by assumption) | refine Bel.setCell ?_ (by simp; omega) _))) (by simp; omega) (by simp) rfl rfl rfl ?_; intro v7 w7 o7 b7; have hb7 : Bel P4 w7 := ((Bel.refl P4).alloc _).upto b7 (by simp))
                    | (at_builtin; refine wpList_appInts (.tmp 100) (.tmp 101) 22 rfl elemInt (by decide) P4.heap.size _ _ o7 _ X2 (iB.bel hb7) (by simp; omega) hb7.size rfl rfl rfl ?_; intro v8 w8 o8 b8; have hb8 : Bel P4 w8 := hb7.upto b8 (Nat.le_refl _))
                    | (at_builtin; refine wpList_appInts (.tmp 102) (.tmp 103) 22 rfl elemInt (by decide) P4.heap.size _ _ o8 _ X3 (iC.bel hb8) (by simp; omega) hb8.size rfl rfl rfl ?_; intro v9 w9 o9 b9; have hb9 : Bel P4 w9 := hb8.upto b9 (Nat.le_refl _)))
                  have i9 : IntSl w9 v9 (X1 ++ X2 ++ X3) := Own.ints (by simpa using o9)
                  have i1b := i1.bel hb9
                  rw [List.length_append, List.length_append, Nat.add_assoc] at i1b
                  refine (sameInts_yes _ _ _ _ _ i9 i1b rfl).mono ?_
                  rintro e wa ⟨rfl, ba⟩
                  have bA : Bel P4 wa := hb9.trans ba
                  have kX := Box.bel hX bA
                  have kY := Box.bel hY bA
                  have kZ := Box.bel hZ3 bA
                  have kV := Box.bel hV bA
                  have mc0 := kX.cell 0 _ rfl; have mc1 := kX.cell 1 _ rfl; have mc2 := kX.cell 2 _ rfl; have mc3 := kX.cell 3 _ rfl; have mc4 := kX.cell 4 _ rfl; have nc0 := kY.cell 0 _ rfl; have nc1 := kY.cell 1 _ rfl; have nc2 := kY.cell 2 _ rfl; have nc3 := kY.cell 3 _ rfl; have nc4 := kY.cell 4 _ rfl; have oc0 := kZ.cell 0 _ rfl; have oc1 := kZ.cell 1 _ rfl; have oc2 := kZ.cell 2 _ rfl; have oc3 := kZ.cell 3 _ rfl; have oc4 := kZ.cell 4 _ rfl; have pc0 := kV.cell 0 _ rfl; have pc1 := kV.cell 1 _ rfl; have pc2 := kV.cell 2 _ rfl; have pc3 := kV.cell 3 _ rfl; have pc4 := kV.cell 4 _ rfl
                  go_wp2_with fail
                  refine (check_any n ⟨l1.toArray⟩ g1 f1 p1 0 K1.out _).mono ?_
                  rintro e wb ⟨rfl, bb⟩
                  have kX := Box.bel kX bb
                  have kY := Box.bel kY bb
                  have kZ := Box.bel kZ bb
                  have kV := Box.bel kV bb
                  have mc0 := kX.cell 0 _ rfl; have mc1 := kX.cell 1 _ rfl; have mc2 := kX.cell 2 _ rfl; have mc3 := kX.cell 3 _ rfl; have mc4 := kX.cell 4 _ rfl; have nc0 := kY.cell 0 _ rfl; have nc1 := kY.cell 1 _ rfl; have nc2 := kY.cell 2 _ rfl; have nc3 := kY.cell 3 _ rfl; have nc4 := kY.cell 4 _ rfl; have oc0 := kZ.cell 0 _ rfl; have oc1 := kZ.cell 1 _ rfl; have oc2 := kZ.cell 2 _ rfl; have oc3 := kZ.cell 3 _ rfl; have oc4 := kZ.cell 4 _ rfl; have pc0 := kV.cell 0 _ rfl; have pc1 := kV.cell 1 _ rfl; have pc2 := kV.cell 2 _ rfl; have pc3 := kV.cell 3 _ rfl; have pc4 := kV.cell 4 _ rfl
                  go_wp2_with fail
                  refine (check_any n ⟨l2.toArray⟩ g2 f2 p2 0 K2.out _).mono ?_
                  rintro e wc ⟨rfl, bc⟩
                  have kX := Box.bel kX bc
                  have kY := Box.bel kY bc
                  have kZ := Box.bel kZ bc
                  have kV := Box.bel kV bc
                  have mc0 := kX.cell 0 _ rfl; have mc1 := kX.cell 1 _ rfl; have mc2 := kX.cell 2 _ rfl; have mc3 := kX.cell 3 _ rfl; have mc4 := kX.cell 4 _ rfl; have nc0 := kY.cell 0 _ rfl; have nc1 := kY.cell 1 _ rfl; have nc2 := kY.cell 2 _ rfl; have nc3 := kY.cell 3 _ rfl; have nc4 := kY.cell 4 _ rfl; have oc0 := kZ.cell 0 _ rfl; have oc1 := kZ.cell 1 _ rfl; have oc2 := kZ.cell 2 _ rfl; have oc3 := kZ.cell 3 _ rfl; have oc4 := kZ.cell 4 _ rfl; have pc0 := kV.cell 0 _ rfl; have pc1 := kV.cell 1 _ rfl; have pc2 := kV.cell 2 _ rfl; have pc3 := kV.cell 3 _ rfl; have pc4 := kV.cell 4 _ rfl
                  go_wp2_with fail
                  go_ret
                  exact ⟨rfl, ((hP.trans bA).trans bb).trans bc⟩
  · have HD := Lib.hid (show M.decE n s.data.toList = ([], k) by rw [M.decE, hk, if_neg hk0])
    have e1 : (k != 0) = true := by simpa using hk0
    have e2 : (k == 0) = false := by simpa using hk0
    clear hk hk0
    go_enter Try.func7, Try.ntmps7
    go_wp2_with fail
    refine (decE_sl n s _ _ HD.out _).mono ?_
    rintro e w1 ⟨A1, c1, rfl, o1, b1⟩
    go_wp2_with fail
    refine (streamBegun_any _).mono ?_
    rintro e w2 ⟨rfl, b2⟩
    go_wp2_with fail
    go_ret
    exact ⟨rfl, (by repeat (first | exact Bel.refl _ | refine Bel.drewN ?_ _ | refine Bel.drew ?_ | refine Bel.alloc ?_ _ | refine Bel.trans ?_ (by assumption) | refine Bel.setCell ?_ (by simp; omega) _))⟩
end Go.Proofs.Ythjafhoahhdlnaa

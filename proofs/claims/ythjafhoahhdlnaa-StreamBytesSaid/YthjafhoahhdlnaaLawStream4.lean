/-
  The law StreamBytes.
-/
import Derived.Test.YthjafhoahhdlnaaLawStream2
import Derived.Test.YthjafhoahhdlnaaBase7
import Derived.Deep.Cut
import Derived.Deep.CutRange
namespace Go.Proofs.Ythjafhoahhdlnaa
open Go.RowKit
set_option maxRecDepth 1000000

theorem allE_len2 (n : Int) (h : M.isEnc n = true) (s : List UInt8) : (M.allE n s).length ≤ s.length + 4 := by
  rw [← M.raw_all n h s, M.rawM, if_pos rfl, List.length_append]
  have h1 := M.tell_len (M.opn n) h s
  have h2 := M.end_len (M.tellM (M.opn n) s).2
  have h3 := (M.right_tell (M.opn n) s (M.right_opn n h)).len
  have h4 : (M.opn n).rest.length = 0 := rfl
  omega
theorem one_byte (s : ByteArray) (k : Nat) (c : UInt8) (h : s.data.toList[k]? = some c) : (s.extract k (k + 1)).data.toList = [c] ∧ s.data.toList.drop k = c :: s.data.toList.drop (k + 1) := by
  have hd : s.data.toList.drop k = c :: s.data.toList.drop (k + 1) := by
    obtain ⟨hk, hc⟩ := List.getElem?_eq_some_iff.1 h
    rw [List.drop_eq_getElem_cons hk, hc]
  refine ⟨?_, hd⟩
  rw [Lib.extract_data, hd, Nat.add_sub_cancel_left]
  rfl
theorem Own.farX {B x : Nat} {e : TypeId} {w : World} {v : Value} {xs : List Value} (h : Own B e w v xs) (hl : ∀ k, v.ownBlock = some k → k < x) (i : Nat) (u : Value) : Own B e (w.setCell ⟨x, i, none⟩ u) v xs :=
  h.keep (fun k hk => Below.heap_setCell w ⟨x, i, none⟩ u k (Nat.ne_of_lt (hl k hk)))
/-- One byte more. -/
theorem byte_step (n : Int) (d : M.St) (hr : M.Right d) (he : d.enc = n) (c : UInt8) (u : List UInt8) : ∃ X l g f p, M.feedE d [c] false = (X, ⟨n, l, g, f, p⟩, 0) ∧ M.Right ⟨n, l, g, f, p⟩ ∧ l.length ≤ 3 ∧ (M.rawM d (c :: u) true).1 = X ++ (M.rawM ⟨n, l, g, f, p⟩ u true).1 := by
  have q := feed_right d hr [c] (by simp) false
  have hr1 := M.right_raw d [c] false hr
  have e1 := M.raw_enc d [c] false
  have ha := M.raw_app d hr [c] u true
  obtain ⟨⟨X, n1, l, g, f, p⟩, hx⟩ : ∃ q, M.rawM d [c] false = q := ⟨_, rfl⟩
  rw [hx] at q hr1 e1 ha
  simp only at q hr1 e1 ha
  obtain rfl : n1 = n := e1.trans he
  refine ⟨X, l, g, f, p, q, hr1, hr1.len, ?_⟩
  rw [show c :: u = [c] ++ u from rfl, ha]
theorem last_step (n : Int) (d : M.St) (hr : M.Right d) (he : d.enc = n) : M.feedE d [] true = ((M.rawM d [] true).1, ⟨n, [], 0, false, false⟩, 0) := by
  rw [feed_right d hr [] (by simp) true, M.raw_last, he]
  rfl
set_option maxHeartbeats 8000000 in
theorem streamBytesTrue (n : Int) (s : ByteArray) (w : World) (_ : -9223372036854775808 ≤ n ∧ n ≤ 9223372036854775807) (hs : s.size ≤ reachBytes) : Calls Try.prog 8 #[.int .i64 n, .string s] w fun e w' => e = .returned (.bool true) ∧ Bel w w' := by
  simp only [reachBytes] at hs
  obtain ⟨k, hk⟩ : ∃ k, M.readyE n s.data.toList = k := ⟨_, rfl⟩
  by_cases hk0 : k = 0
  · subst hk0
    obtain ⟨hn, hs3⟩ := ready_ok n s hk
    obtain ⟨xs, hxs⟩ : ∃ xs, M.allE n s.data.toList = xs := ⟨_, rfl⟩
    have HD := Lib.hid (show M.decE n s.data.toList = (xs, 0) by rw [M.decE, if_pos hk, hxs])
    have HI := Lib.hid hn
    have HA := Lib.hid (show xs = (M.rawM ⟨n, [], 0, false, false⟩ s.data.toList true).1 by rw [← hxs, ← M.raw_all n hn]; rfl)
    have HR0 := Lib.hid (M.right_opn n hn)
    have hxl := allE_len2 n hn s.data.toList
    rw [hxs, ← Lib.size_eq] at hxl
    clear hk hxs hn
    go_enter Try.func8, Try.ntmps8
    go_wp2_with fail
    refine (decE_sl n s _ _ HD.out _).mono ?_
    rintro e w1 ⟨A1, c1, rfl, o1, b1⟩
    go_wp2_with fail
    refine (streamBegun_any _).mono ?_
    rintro e w2 ⟨rfl, b2⟩
    go_wp2_with fail
    refine (open_yes n HI.out _).mono ?_
    rintro e w3 ⟨rfl, b3⟩
    have o13 := (o1.bel (b2.trans b3)).mono (Nat.zero_le _)
    have hloc := fun k hk => (o13.lt k hk).2
    have hb3 : Bel w w3 := (by repeat (first | exact Bel.refl _ | refine Bel.drewN ?_ _ | refine Bel.drew ?_ | refine Bel.alloc ?_ _ | refine Bel.trans ?_ (by assumption) | refine Bel.setCell ?_ (by simp; omega) _))
    clear o1 b1 b2 b3
    go_wp2_with fail
    have hX := Box.new w3 40 [.int .i64 n, .string ⟨#[]⟩, .int .i64 0, .bool false, .bool false]
    have hP : Bel w (w3.alloc (.cells #[.int .i64 n, .string ⟨#[]⟩, .int .i64 0, .bool false, .bool false] 40)) := hb3.alloc _
    have hxX : w.heap.size ≤ w3.heap.size := hb3.size
    have i1 := o13.alloc (.cells #[.int .i64 n, .string ⟨#[]⟩, .int .i64 0, .bool false, .bool false] 40)
    have hPx : (w3.alloc (.cells #[.int .i64 n, .string ⟨#[]⟩, .int .i64 0, .bool false, .bool false] 40)).heap.size = w3.heap.size + 1 := by simp
    clear o13 hb3
    generalize w3.alloc (.cells #[.int .i64 n, .string ⟨#[]⟩, .int .i64 0, .bool false, .bool false] 40) = P at *
    generalize w3.heap.size = x at *
    have HPX := Lib.hid hPx
    clear hPx
    go_loopw [8, 9] (fun va i wr => ∃ (k : Nat) (acc : List Int) (l : List UInt8) (g : Int) (f p : Bool), k ≤ s.size ∧ i = .int .i64 k ∧ Box wr x 40 [.int .i64 n, .string ⟨l.toArray⟩, .int .i64 g, .bool f, .bool p] ∧ Hid (M.Right ⟨n, l, g, f, p⟩) ∧ Hid (xs = acc ++ (M.rawM ⟨n, l, g, f, p⟩ (s.data.toList.drop k) true).1) ∧ acc.length ≤ 3004 ∧ Own (x + 1) 3 wr va (acc.map (Value.int .i64)) ∧ Own 0 3 wr (.slice A1 xs.length c1) (xs.map (Value.int .i64)) ∧ Bel w wr) (fun _ i _ => s.size - (intOf i).toNat)
    case atStart => exact ⟨0, [], [], 0, false, false, by omega, rfl, hX, HR0, Lib.hid (by rw [List.drop_zero]; exact HA.out), by simp, Own.nil _ _ _, i1, hP⟩
    case round =>
      obtain ⟨k, acc, l, g, f, p, hk, rfl, hX, HR, HT, hal, hown, i1, hP⟩ := hrel
      have hxl2 := hX.lt
      have sc0 := hX.cell 0 _ rfl; have sc1 := hX.cell 1 _ rfl; have sc2 := hX.cell 2 _ rfl; have sc3 := hX.cell 3 _ rfl; have sc4 := hX.cell 4 _ rfl
      by_cases hlt : k < s.size
      · obtain ⟨c, hc⟩ : ∃ c, s.data.toList[k]? = some c := ⟨_, List.getElem?_eq_getElem (by rw [← Lib.size_eq]; exact hlt)⟩
        obtain ⟨p1, p2⟩ := one_byte s k c hc
        obtain ⟨X, l2, g2, f2, p2', q1, q2, q3, q4⟩ := byte_step n ⟨n, l, g, f, p⟩ HR.out rfl c (s.data.toList.drop (k + 1))
        rw [← p1] at q1
        have Q1 := Lib.hid q1
        have HR2 := Lib.hid q2
        have HT2 := Lib.hid (show xs = (acc ++ X) ++ (M.rawM ⟨n, l2, g2, f2, p2'⟩ (s.data.toList.drop (k + 1)) true).1 by rw [HT.out, p2, q4, List.append_assoc])
        have hal2 : acc.length + X.length ≤ 3004 := by
          have := congrArg List.length HT2.out
          rw [List.length_append, List.length_append] at this
          omega
        clear hc p1 p2 q1 q2 q4 HT HR
        have hkz : (k : Int) + 1 ≤ (s.size : Int) := by omega
        have zf : IntKind.i64.wrap ((k : Int) + 1) = (k : Int) + 1 := by rw [IntKind.wrap_i64]; omega
        have zd : ((k : Int) + 1).toNat = k + 1 := by omega
        have zc : (0 : Int) ≤ (k : Int) + 1 := by omega
        have hxP : x + 1 ≤ wr.heap.size := hxl2
        rename World => R
        go_wp2_with fail
        go_cut [10, 11, 12] from 40 to 50 (fun va vp ve wx => ∃ (A : Option Addr) (c q : Nat), va = .slice A X.length c ∧ vp = .pointer (some ⟨q, 0, none⟩) ∧ ve = .int .i64 0 ∧ Box wx q 40 [.int .i64 n, .string ⟨l2.toArray⟩, .int .i64 g2, .bool f2, .bool p2'] ∧ Bel R wx ∧ IntSl wx (.slice A X.length c) X ∧ R.heap.size ≤ q)
        case first =>
          go_region_with ((first | (go_at_call 20; refine (feed_sl n ⟨l.toArray⟩ g f p (s.extract k (k + 1)) false _ _ _ _ _ _ _ Q1.out _).mono ?_; rintro e w4 ⟨A4, c4, rfl, o4, b4⟩; have hX4 := Box.bel (Box.bel hX (by repeat (first | exact Bel.refl _ | refine Bel.drewN ?_ _ | refine Bel.drew ?_ | refine Bel.alloc ?_ _ | refine Bel.trans ?_ (by assumption) | refine Bel.setCell ?_ (by simp; omega) _))) b4; have hsz4 := (show R.heap.size ≤ _ from (Bel.trans (show Bel R _ from (by repeat (first | exact Bel.refl _ | refine Bel.drewN ?_ _ | refine Bel.drew ?_ | refine Bel.alloc ?_ _ | refine Bel.trans ?_ (by assumption) | refine Bel.setCell ?_ (by simp; omega) _))) b4).size); have tc0 := hX4.cell 0 _ rfl; have tc1 := hX4.cell 1 _ rfl; have tc2 := hX4.cell 2 _ rfl; have tc3 := hX4.cell 3 _ rfl; have tc4 := hX4.cell 4 _ rfl; try (have hZ := Box.bel (w := (R.alloc (.cells #[.int .i64 0, .string ⟨#[]⟩, .int .i64 0, .bool false, .bool false] 40)).drew) (Box.new R 40 [.int .i64 0, .string ⟨#[]⟩, .int .i64 0, .bool false, .bool false]) b4; have zc0 := hZ.cell 0 _ rfl; have zc1 := hZ.cell 1 _ rfl; have zc2 := hZ.cell 2 _ rfl; have zc3 := hZ.cell 3 _ rfl; have zc4 := hZ.cell 4 _ rfl; have zf0 := hZ.frozen 0; have zf1 := hZ.frozen 1; have zf2 := hZ.frozen 2; have zf3 := hZ.frozen 3; have zf4 := hZ.frozen 4))))
          all_goals first
            | (have hA := ((((hZ.set 0 (.int .i64 n)).set 1 (.string ⟨l2.toArray⟩)).set 2 (.int .i64 g2)).set 3 (.bool f2)).set 4 (.bool p2')
               have hBW0 := ((((Bel.trans (Bel.drew ((Bel.refl R).alloc _)) b4).setCell (p := ⟨R.heap.size, 0, none⟩) (Nat.le_refl _) (.int .i64 n)).setCell (p := ⟨R.heap.size, 1, none⟩) (Nat.le_refl _) (.string ⟨l2.toArray⟩)).setCell (p := ⟨R.heap.size, 2, none⟩) (Nat.le_refl _) (.int .i64 g2)).setCell (p := ⟨R.heap.size, 3, none⟩) (Nat.le_refl _) (.bool f2)
               have hBW := hBW0.setCell (p := ⟨R.heap.size, 4, none⟩) (Nat.le_refl _) (.bool p2')
               have hI := (((((o4.setCell (p := ⟨R.heap.size, 0, none⟩) (by simp) (.int .i64 n)).setCell (p := ⟨R.heap.size, 1, none⟩) (by simp) (.string ⟨l2.toArray⟩)).setCell (p := ⟨R.heap.size, 2, none⟩) (by simp) (.int .i64 g2)).setCell (p := ⟨R.heap.size, 3, none⟩) (by simp) (.bool f2)).setCell (p := ⟨R.heap.size, 4, none⟩) (by simp) (.bool p2')).ints
               clear zc0 zc1 zc2 zc3 zc4 zf0 zf1 zf2 zf3 zf4 hZ hBW0 tc0 tc1 tc2 tc3 tc4 hX4 o4 b4
               generalize ((((w4.setCell ⟨R.heap.size, 0, none⟩ (.int .i64 n)).setCell ⟨R.heap.size, 1, none⟩ (.string ⟨l2.toArray⟩)).setCell ⟨R.heap.size, 2, none⟩ (.int .i64 g2)).setCell ⟨R.heap.size, 3, none⟩ (.bool f2)).setCell ⟨R.heap.size, 4, none⟩ (.bool p2') = W at *
               generalize R.heap.size = q at *)
            | (have hA := Box.new w4 40 [(.int .i64 n), (.string ⟨l2.toArray⟩), (.int .i64 g2), (.bool f2), (.bool p2')]
               have hBW := (Bel.trans (Bel.drew (Bel.refl R)) b4).alloc (.cells #[(.int .i64 n), (.string ⟨l2.toArray⟩), (.int .i64 g2), (.bool f2), (.bool p2')] 40)
               have hI := (o4.alloc (.cells #[(.int .i64 n), (.string ⟨l2.toArray⟩), (.int .i64 g2), (.bool f2), (.bool p2')] 40)).ints
               clear tc0 tc1 tc2 tc3 tc4 hX4 o4 b4
               generalize w4.alloc (.cells #[(.int .i64 n), (.string ⟨l2.toArray⟩), (.int .i64 g2), (.bool f2), (.bool p2')] 40) = W at *
               generalize w4.heap.size = q at *)
          all_goals
            try go_wp2_with fail
            go_meet
            first
              | exact ⟨A4, c4, q, rfl, rfl, rfl, hA, hBW, hI, hsz4⟩
              | exact ⟨A4, c4, q, rfl, rfl, rfl, hA, hBW, hI, Nat.le_refl _⟩
        case rest =>
          obtain ⟨A4, c4, q, rfl, rfl, rfl, hY, hBW, iA, hRq⟩ := hcut
          have hX := Box.bel hX hBW
          have hP := Bel.trans hP hBW
          have i1 := Own.bel i1 hBW
          have hown2 := Own.bel hown hBW
          have hqo := hown.lt
          have hsz2 := hBW.size
          clear sc0 sc1 sc2 sc3 sc4 hBW
          rename World => R2
          have sc0 := hX.cell 0 _ rfl; have sc1 := hX.cell 1 _ rfl; have sc2 := hX.cell 2 _ rfl; have sc3 := hX.cell 3 _ rfl; have sc4 := hX.cell 4 _ rfl
          have tc0 := hY.cell 0 _ rfl; have tc1 := hY.cell 1 _ rfl; have tc2 := hY.cell 2 _ rfl; have tc3 := hY.cell 3 _ rfl; have tc4 := hY.cell 4 _ rfl
          have sf0 := hX.frozen 0
          have sf1 := hX.frozen 1
          have sf2 := hX.frozen 2
          have sf3 := hX.frozen 3
          have sf4 := hX.frozen 4
          have q3s : (⟨l2.toArray⟩ : ByteArray).size ≤ 3 := by rw [size_str]; exact q3
          go_wp2_with (first | (at_builtin; refine wpList_appIntsX (.tmp 59) (.tmp 60) 22 rfl elemInt (by decide) (x + 1) _ _ hown2 _ X iA (by simp; omega) (by omega) rfl rfl rfl ?_; intro v5 w5 o5 b5 n5; have hX5 := Box.upto hX b5 (by omega); have hY5 := Box.keep hY (n5 q (fun h7 => by have := (hqo q h7).2; omega) hY.lt); have i5 := Own.upto i1 b5 (fun k hk => Nat.lt_succ_of_lt (hloc k hk)); have mc0 := hX5.cell 0 _ rfl; have mc1 := hX5.cell 1 _ rfl; have mc2 := hX5.cell 2 _ rfl; have mc3 := hX5.cell 3 _ rfl; have mc4 := hX5.cell 4 _ rfl; have nc0 := hY5.cell 0 _ rfl; have nc1 := hY5.cell 1 _ rfl; have nc2 := hY5.cell 2 _ rfl; have nc3 := hY5.cell 3 _ rfl; have nc4 := hY5.cell 4 _ rfl; have mf0 := hX5.frozen 0; have mf1 := hX5.frozen 1; have mf2 := hX5.frozen 2; have mf3 := hX5.frozen 3; have mf4 := hX5.frozen 4))
          have hP5 : Bel w w5 := Bel.upto hP b5 (by omega)
          go_roundw
          case rel => exact ⟨k + 1, acc ++ X, l2, g2, f2, p2', by omega, by go_num, ((((hX5.set 0 _).set 1 _).set 2 _).set 3 _).set 4 _, HR2, HT2, by rw [List.length_append]; exact hal2, by rw [List.map_append]; exact ((((o5.setCell (p := ⟨x, 0, none⟩) (by simp) _).setCell (p := ⟨x, 1, none⟩) (by simp) _).setCell (p := ⟨x, 2, none⟩) (by simp) _).setCell (p := ⟨x, 3, none⟩) (by simp) _).setCell (p := ⟨x, 4, none⟩) (by simp) _, ((((i5.farX hloc 0 _).farX hloc 1 _).farX hloc 2 _).farX hloc 3 _).farX hloc 4 _, ((((hP5.setCell (p := ⟨x, 0, none⟩) hxX _).setCell (p := ⟨x, 1, none⟩) hxX _).setCell (p := ⟨x, 2, none⟩) hxX _).setCell (p := ⟨x, 3, none⟩) hxX _).setCell (p := ⟨x, 4, none⟩) hxX _⟩
          case measure => simp [intOf]; omega
      · obtain rfl : k = s.size := by omega
        have hdn : s.data.toList.drop s.size = [] := List.drop_of_length_le (by rw [← Lib.size_eq]; exact Nat.le_refl _)
        have q1 := last_step n ⟨n, l, g, f, p⟩ HR.out rfl
        obtain ⟨X, hXX⟩ : ∃ X, (M.rawM ⟨n, l, g, f, p⟩ [] true).1 = X := ⟨_, rfl⟩
        rw [hXX] at q1
        have Q1 := Lib.hid q1
        have HT2 := Lib.hid (show xs = acc ++ X by rw [HT.out, hdn, hXX])
        have hXl : X.length ≤ 3004 := by
          have := congrArg List.length HT2.out
          rw [List.length_append] at this
          omega
        clear hdn q1 hXX HT HR
        rename World => R
        go_wp2_with fail
        refine (feed_sl n ⟨l.toArray⟩ g f p ⟨#[]⟩ true _ _ _ _ _ _ _ Q1.out _).mono ?_
        rintro e w4 ⟨A4, c4, rfl, o4, b4⟩
        have hown4 := hown.bel (b4.alloc (.cells #[.int .i64 n, .string ⟨#[]⟩, .int .i64 0, .bool false, .bool false] 40))
        have i4 := o4.ints.bel ((Bel.refl w4).alloc (.cells #[.int .i64 n, .string ⟨#[]⟩, .int .i64 0, .bool false, .bool false] 40))
        have iL := i1.bel (b4.alloc (.cells #[.int .i64 n, .string ⟨#[]⟩, .int .i64 0, .bool false, .bool false] 40))
        have hs4 : x + 1 ≤ (w4.alloc (.cells #[.int .i64 n, .string ⟨#[]⟩, .int .i64 0, .bool false, .bool false] 40)).heap.size := by have := b4.size; simp; omega
        have hP4 : Bel w (w4.alloc (.cells #[.int .i64 n, .string ⟨#[]⟩, .int .i64 0, .bool false, .bool false] 40)) := (hP.trans b4).alloc _
        go_wp2_with (first | (at_builtin; refine wpList_appIntsX (.tmp 76) (.tmp 77) 22 rfl elemInt (by decide) (x + 1) _ _ hown4 _ X i4 (by simp; omega) hs4 rfl rfl rfl ?_; intro v5 w5 o5 b5 n5; have i5 := (Own.upto iL b5 (fun k hk => Nat.lt_succ_of_lt (hloc k hk))).ints))
        have i6 : IntSl w5 v5 xs := by rw [HT2.out]; exact Own.ints (by simpa using o5)
        refine (sameInts_yes _ _ _ _ _ i6 i5 rfl).mono ?_
        rintro e w6 ⟨rfl, b6⟩
        go_wp2_with fail
        go_ret
        exact ⟨rfl, (Bel.upto hP4 b5 (by omega)).trans b6⟩
  · have HD := Lib.hid (show M.decE n s.data.toList = ([], k) by rw [M.decE, hk, if_neg hk0])
    have e1 : (k != 0) = true := by simpa using hk0
    have e2 : (k == 0) = false := by simpa using hk0
    clear hk hk0
    go_enter Try.func8, Try.ntmps8
    go_wp2_with fail
    refine (decE_sl n s _ _ HD.out _).mono ?_
    rintro e w1 ⟨A1, c1, rfl, o1, b1⟩
    go_wp2_with fail
    refine (streamBegun_any _).mono ?_
    rintro e w2 ⟨rfl, b2⟩
    go_wp2_with fail
    go_ret
    exact ⟨rfl, (by repeat (first | exact Bel.refl _ | refine Bel.drewN ?_ _ | refine Bel.drew ?_ | refine Bel.alloc ?_ _ | refine Bel.trans ?_ (by assumption) | refine Bel.setCell ?_ (by simp; omega) _))⟩
end Go.Proofs.Ythjafhoahhdlnaa

/-
  Package attr: All, charset, Told, Charset.
-/
import Derived.Test.YthaoohckgilahaaDoorAttr4
import Derived.Test.YthaoohckgilahaaDoorLabel3
namespace Go.Proofs.YthaoohckgilahaaDoor
open Go.RowKit
set_option maxRecDepth 1000000

theorem allBad_any (s : ByteArray) (at_ : Int) (x : Int) (hx : (x != 0) = true) (h : readyA s.data.toList at_ = x) (w : World) : Calls Tryd.prog 9 #[.string s, .int .i64 at_] w fun e w' => e = .returned (.tuple #[.slice none 0 0, .int .i64 0, .int .i64 x]) ∧ Bel w w' := by
  have H := Lib.hid h
  clear h
  go_enter Tryd.func9, Tryd.ntmps9
  go_wp2_with (go_at_call 25; refine (ready_any s at_ _).mono ?_; rintro e w' ⟨rfl, rfl⟩; rw [H.out])
  exact bodyPost_ret (v := .tuple #[.slice none 0 0, .int .i64 0, .int .i64 x]) (by simp [results, Tryd.results9, go_sem]) rfl ⟨rfl, Bel.refl w⟩
theorem allOk_any (s : ByteArray) (k : Nat) (hk : k ≤ s.size) (hs : s.size ≤ 3000) (xs : List (List UInt8 × List UInt8)) (r : List UInt8) (hn : M.attrsA (s.data.toList.drop k) = (xs, r)) (h : readyA s.data.toList (k : Int) = 0) (w : World) : Calls Tryd.prog 9 #[.string s, .int .i64 (k : Int)] w fun e w' => ∃ v, e = .returned (.tuple #[v, .int .i64 ((s.size - r.length : Nat) : Int), .int .i64 0]) ∧ OwnA w.heap.size w' v xs ∧ Bel w w' := by
  have H := Lib.hid h
  have HN := Lib.hid hn
  clear h hn
  go_enter Tryd.func9, Tryd.ntmps9
  go_wp2_with (first | (go_at_call 25; refine (ready_any s k _).mono ?_; rintro e w' ⟨rfl, rfl⟩; rw [H.out]) | (go_at_call 27; refine (from_any s k hk hs xs r HN.out _).mono ?_; rintro e w' ⟨v, rfl, hown, hb⟩))
  exact bodyPost_ret (v := .tuple #[v, .int .i64 ((s.size - r.length : Nat) : Int), .int .i64 0]) (by simp [results, Tryd.results9, go_sem]) rfl ⟨v, rfl, hown, hb⟩
theorem charset_any (g : Nat) (s : ByteArray) (k : Nat) (l : List UInt8) (w : World) (hr : Rd w g s k) (hk : k ≤ s.size) (hl : s.data.toList.drop k = l) (hs : s.size ≤ 68719476735) :
    Calls Tryd.prog 53 #[.pointer (some ⟨g, 0, none⟩)] w fun e w' => e = .returned (.int .i64 (M.charOf l)) ∧ Bes g w w' := by
  have hgl : g < w.heap.size := Box.lt hr
  have hll : l.length ≤ s.size := by rw [← hl, List.length_drop, ← Lib.size_eq]; omega
  go_enter Tryd.func53, Tryd.ntmps53
  go_wp2_with fail
  refine (pass_to g s k 45 #[] M.white l w hr hk hl hs (enters_of Tryd.func45 (by kernel_rfl) rfl) (says_white g s w)).mono ?_
  rintro e W1 ⟨rfl, k1, hk1, hr1, hl1, hB1⟩
  go_wp2_with fail
  refine (one_any _ _).mono ?_
  rintro e W2 ⟨rfl, rfl⟩
  have hbq := Box.new W1 9 [.string ⟨#[34, 39]⟩]
  have hbb : Bel W1 (W1.alloc (.cells #[.string ⟨#[34, 39]⟩] 9)) := (Bel.refl W1).alloc _
  have hne : W1.heap.size ≠ g := by have := hB1.size; omega
  have hr2 := hr1.bel hbb
  have hB2 := hB1.trans (Bes.of_bel hbb)
  generalize (W1.alloc (.cells #[.string ⟨#[34, 39]⟩] 9)) = W2 at *
  have hq0 : ∃ b, headP attrOne (l.dropWhile M.white) = b := ⟨_, rfl⟩
  obtain ⟨b, hq0⟩ := hq0
  go_wp2_with fail
  refine (here_to g s k1 65 #[.pointer (some ⟨W1.heap.size, 0, none⟩)] attrOne _ b W2 hr2 hk1 hl1 hq0 (enters_of Tryd.func65 (by kernel_rfl) rfl) (says_one g s W2 _ ⟨#[34, 39]⟩ hne hbq attrOne isQuote)).mono ?_
  rintro e W3 ⟨rfl, hr3, hb3⟩
  have hB3 := hB2.trans (Bes.of_bel hb3)
  have hdl := M.dropWhile_le M.white l
  clear hr hr1 hr2 hB1 hB2 hb3 hbq hbb
  cases b with
  | true =>
    cases hd : l.dropWhile M.white with
    | nil => rw [hd] at hq0; cases hq0
    | cons q t =>
      rw [hd] at hl1 hq0 hdl
      rw [List.length_cons] at hdl
      have hq1 : q = 34 ∨ q = 39 := by simpa [headP, attrOne] using hq0
      have hvl : ((M.quotedA q t).1.getD []).length ≤ t.length := by
        unfold M.quotedA
        have h1 := (List.takeWhile_prefix (fun c => c != q) (l := t)).length_le
        split
        · exact Nat.zero_le _
        · exact h1
      have qq := quoted_any g s k1 q t W3 hr3 hk1 hl1 hs
      cases ho : (M.quotedA q t).1 with
      | none =>
        have HV := Lib.hid (show M.charOf l = 0 by rw [M.charOf, hd]; simp only; rw [if_pos hq1, ho])
        rw [ho] at qq
        clear hvl ho hd
        go_wp2_with fail
        refine qq.mono ?_
        rintro e W4 ⟨rfl, k4, hk4, hr4, hl4, hB4⟩
        go_wp2_with fail
        go_ret
        rw [HV.out]
        exact ⟨rfl, hB3.trans hB4⟩
      | some v =>
        have HV := Lib.hid (show M.charOf l = M.find v by rw [M.charOf, hd]; simp only; rw [if_pos hq1, ho])
        rw [ho] at qq hvl
        have hvl2 : v.length ≤ t.length := hvl
        clear hvl ho hd
        go_wp2_with fail
        refine qq.mono ?_
        rintro e W4 ⟨rfl, k4, hk4, hr4, hl4, hB4⟩
        go_wp2_with fail
        refine (of_any ⟨v.toArray⟩ W4 (by rw [size_str]; omega)).mono ?_
        rintro e W5 ⟨rfl, hb5⟩
        go_wp2_with fail
        go_ret
        rw [HV.out]
        exact ⟨rfl, (hB3.trans hB4).trans (Bes.of_bel hb5)⟩
  | false =>
    have HV := Lib.hid (show M.charOf l = M.find ((l.dropWhile M.white).takeWhile M.labB) by
      unfold M.charOf
      cases hd : l.dropWhile M.white with
      | nil => rfl
      | cons q t =>
        rw [hd] at hq0
        have hq1 : ¬ (q = 34 ∨ q = 39) := by simpa [headP, attrOne] using hq0
        simp only
        rw [if_neg hq1])
    have htl := (List.takeWhile_prefix M.labB (l := l.dropWhile M.white)).length_le
    go_wp2_with fail
    refine (pass_to g s k1 70 #[] M.labB _ W3 hr3 hk1 hl1 hs (enters_of Tryd.func70 (by kernel_rfl) rfl) (says_lab g s W3)).mono ?_
    rintro e W4 ⟨rfl, k4, hk4, hr4, hl4, hB4⟩
    go_wp2_with fail
    refine (of_any _ W4 (by rw [size_str]; omega)).mono ?_
    rintro e W5 ⟨rfl, hb5⟩
    go_wp2_with fail
    go_ret
    rw [HV.out]
    exact ⟨rfl, (hB3.trans hB4).trans (Bes.of_bel hb5)⟩
theorem index_cases (s sub : List UInt8) (hsub : sub ≠ []) : (Lib.index s sub = -1 ∧ ∀ j, Lib.hasPrefix (s.drop j) sub = false) ∨ ∃ i : Nat, i + sub.length ≤ s.length ∧ Lib.index s sub = (i : Int) ∧ Lib.hasPrefix (s.drop i) sub = true ∧ ∀ j, j < i → Lib.hasPrefix (s.drop j) sub = false := by
  have key : ∀ n : Nat, (∀ j, j < n → Lib.occAt s sub j = false) ∨ ∃ i, Lib.occAt s sub i = true ∧ ∀ j, j < i → Lib.occAt s sub j = false := by
    intro n
    induction n with
    | zero => exact .inl (fun j hj => absurd hj (Nat.not_lt_zero _))
    | succ n ih =>
      rcases ih with ih | ih
      · cases ho : Lib.occAt s sub n with
        | true => exact .inr ⟨n, ho, ih⟩
        | false =>
          refine .inl (fun j hj => ?_)
          by_cases e : j = n
          · subst e; exact ho
          · exact ih j (by omega)
      · exact .inr ih
  rcases key (s.length + 1) with h | ⟨i, h1, h2⟩
  · left
    refine ⟨Lib.index_none (fun j hj => h j (by omega)), fun j => ?_⟩
    by_cases hj : j ≤ s.length
    · exact h j (by omega)
    · cases ho : Lib.occAt s sub j with
      | false => exact ho
      | true =>
        rcases Lib.occAt_room ho with h3 | h3
        · omega
        · exact absurd h3 hsub
  · right
    rcases Lib.occAt_room h1 with h3 | h3
    · exact ⟨i, h3, Lib.index_first (by omega) h1 h2, h1, h2⟩
    · exact absurd h3 hsub
theorem fold_drop (l : List UInt8) (k : Nat) : (M.fold l).drop k = M.fold (l.drop k) := by unfold M.fold; rw [List.map_drop]
theorem told_any2 (s : ByteArray) (hs : s.size ≤ 3000) (w : World) (hL : Len w) : Calls Tryd.prog 28 #[.string s] w fun e w' => e = .returned (.int .i64 (M.charA s.data.toList)) ∧ Bel w w' := by
  have hr0 : Rd (w.alloc (.cells #[.string s, .int .i64 0] 50)) w.heap.size s 0 := Box.new w 50 [.string s, .int .i64 0]
  have hb0 : Bel w (w.alloc (.cells #[.string s, .int .i64 0] 50)) := (Bel.refl w).alloc _
  go_enter Tryd.func28, Tryd.ntmps28
  go_wp2_with fail
  generalize (w.alloc (.cells #[.string s, .int .i64 0] 50)) = W0 at *
  refine (folded_any s W0 (by omega)).mono ?_
  rintro e W1 ⟨rfl, hb1⟩
  have hr1 := hr0.bel hb1
  have hb2 := hb0.trans hb1
  clear hr0 hb0 hb1
  obtain ⟨low, hlow⟩ : ∃ low : ByteArray, low = ⟨(M.fold s.data.toList).toArray⟩ := ⟨_, rfl⟩
  have HLW := Lib.hid (show low.data.toList = M.fold s.data.toList by rw [hlow])
  have hls : low.size = s.size := by rw [Lib.size_eq, HLW.out, M.fold_len, ← Lib.size_eq]
  rw [← hlow]
  clear hlow
  go_wp2_with fail
  go_loopg [5] (s.size + 1) (fun gg _ wr => ∃ (j : Nat), j ≤ s.size ∧ s.size - j ≤ gg ∧ Rd wr w.heap.size s j ∧ Bel w wr ∧ Hid (M.charA s.data.toList = M.charA (s.data.toList.drop j)))
  case atStart => exact ⟨0, by omega, by omega, hr1, hb2, Lib.hid rfl⟩
  case round =>
    clear hr1 hb2
    obtain ⟨j, hj, hg, hr, hb, HJ⟩ := hrel
    have hrl := Box.lt hr
    have c1 := Box.cell hr 1 _ rfl
    have hbd : (0 : Int) ≤ (j : Int) ∧ (j : Int) ≤ (low.size : Int) := by omega
    obtain ⟨m, hm⟩ := hL.bel hb
    have HD := Lib.hid (show (low.extract j low.size).data.toList = M.fold (s.data.toList.drop j) by rw [drop_str, HLW.out, fold_drop])
    have hds : (low.extract j low.size).size = s.size - j := by rw [drop_size, hls]
    have hix := Tryd.strings_Index (low.extract j low.size) ⟨#[99, 104, 97, 114, 115, 101, 116]⟩ m wr (by omega) hm
    rw [HD.out, hls] at hix
    go_wp2_with fail
    rcases index_cases (M.fold (s.data.toList.drop j)) [99, 104, 97, 114, 115, 101, 116] (by decide) with ⟨hi, hno⟩ | ⟨i, hil, hi, hyes, hno⟩
    · rw [hi] at hix
      have HR := Lib.hid (show M.charA s.data.toList = 0 by
        rw [HJ.out, M.charA_skip (s.data.toList.drop j).length _ (fun q _ => by have := hno q; rw [fold_drop] at this; exact this), List.drop_length]; rfl)
      clear hno hi
      refine hix.mono ?_
      rintro e W2 ⟨rfl, rfl⟩
      go_wp2_with fail
      go_ret
      rw [HR.out]
      exact ⟨rfl, hb⟩
    · rw [hi] at hix
      rw [M.fold_len, List.length_drop, ← Lib.size_eq] at hil
      have hil2 : i + 7 ≤ s.size - j := hil
      have HR := Lib.hid (show M.charA s.data.toList = M.charA (s.data.toList.drop (j + i)) by
        rw [HJ.out, M.charA_skip i _ (fun q hq => by have := hno q hq; rw [fold_drop] at this; exact this), List.drop_drop])
      have hpre : Lib.hasPrefix (M.fold (s.data.toList.drop (j + i))) M.charset7 = true := by
        have := hyes
        rw [fold_drop, List.drop_drop] at this
        exact this
      obtain ⟨c0, t0, hct⟩ : ∃ c t, s.data.toList.drop (j + i) = c :: t := by
        cases hd : s.data.toList.drop (j + i) with
        | nil =>
          have := congrArg List.length hd
          rw [List.length_drop, ← Lib.size_eq, List.length_nil] at this
          omega
        | cons c t => exact ⟨c, t, rfl⟩
      rw [hct] at HR hpre
      have h7 : s.data.toList.drop (j + (i + 7)) = (c0 :: t0).drop 7 := by rw [← hct, List.drop_drop, Nat.add_assoc]
      have f1 := Box.frozen hr 1
      have HP := Lib.hid hpre
      clear hno hi hyes hil hct hpre
      refine hix.mono ?_
      rintro e W2 ⟨rfl, rfl⟩
      go_wp2_with fail
      have hr3 : Rd (W2.setCell ⟨w.heap.size, 1, none⟩ (.int .i64 ((j : Int) + ((i : Int) + 7)))) w.heap.size s (j + (i + 7)) := hr.move (j + (i + 7))
      have hb3 : Bel w (W2.setCell ⟨w.heap.size, 1, none⟩ (.int .i64 ((j : Int) + ((i : Int) + 7)))) := hb.setCell (p := ⟨w.heap.size, 1, none⟩) (Nat.le_refl _) _
      generalize (W2.setCell ⟨w.heap.size, 1, none⟩ (.int .i64 ((j : Int) + ((i : Int) + 7)))) = W3 at *
      clear hr hb c1 hm hix f1
      refine (pass_to w.heap.size s (j + (i + 7)) 45 #[] M.white _ W3 hr3 (by omega) h7 (by omega) (enters_of Tryd.func45 (by kernel_rfl) rfl) (says_white w.heap.size s W3)).mono ?_
      rintro e W4 ⟨rfl, k4, hk4, hr4, hl4, hB4⟩
      have hb4 : Bel w W4 := hB4.bel hb3 (Nat.le_refl _)
      have hlen4 := at_of s k4 hk4 _ hl4
      have hdl := M.dropWhile_le M.white ((c0 :: t0).drop 7)
      have hl7 := congrArg List.length h7
      rw [List.length_drop, ← Lib.size_eq] at hl7
      have hk47 : j + 7 ≤ k4 := by omega
      have HK4 := Lib.hid hlen4
      clear hlen4 hdl hl7
      clear hr3 hb3 hB4
      go_wp2_with fail
      refine (one_any _ _).mono ?_
      rintro e W5 ⟨rfl, rfl⟩
      have hbq := Box.new W4 9 [.string ⟨#[61]⟩]
      have hbb : Bel W4 (W4.alloc (.cells #[.string ⟨#[61]⟩] 9)) := (Bel.refl W4).alloc _
      have hne : W4.heap.size ≠ w.heap.size := by have := Box.lt hr4; omega
      have hr5 := hr4.bel hbb
      have hb5 := hb4.trans hbb
      generalize (W4.alloc (.cells #[.string ⟨#[61]⟩] 9)) = W5 at *
      have hq0 : ∃ b, headP (fun c => c == 61) (((c0 :: t0).drop 7).dropWhile M.white) = b := ⟨_, rfl⟩
      obtain ⟨b, hq0⟩ := hq0
      go_wp2_with fail
      refine (here_to w.heap.size s k4 65 #[.pointer (some ⟨W4.heap.size, 0, none⟩)] (fun c => c == 61) _ b W5 hr5 hk4 hl4 hq0 (enters_of Tryd.func65 (by kernel_rfl) rfl) (says_one w.heap.size s W5 _ ⟨#[61]⟩ hne hbq (fun c => c == 61) isEq)).mono ?_
      rintro e W6 ⟨rfl, hr6, hb6⟩
      have hbw := hb5.trans hb6
      clear hr4 hb4 hr5 hb5 hb6 hbq hbb
      cases b with
      | true =>
        cases hd : ((c0 :: t0).drop 7).dropWhile M.white with
        | nil => rw [hd] at hq0; cases hq0
        | cons e5 u5 =>
          rw [hd] at hq0 hl4 HK4
          have he : e5 = 61 := by simpa [headP] using hq0
          have HC := Lib.hid (show M.charA s.data.toList = M.charOf u5 by
            rw [HR.out]
            exact M.charA_eq c0 t0 u5 HP.out (by rw [hd, M.behindEq, if_pos he]))
          have hdl := M.dropWhile_le M.white ((c0 :: t0).drop 7)
          rw [hd, List.length_cons] at hdl
          have hl7 := congrArg List.length h7
          rw [List.length_drop, ← Lib.size_eq] at hl7
          have hk41 : k4 + 1 ≤ s.size := by have := HK4.out; rw [List.length_cons] at this; omega
          clear hdl hl7
          have c1 := Box.cell hr6 1 _ rfl
          have f1 := Box.frozen hr6 1
          clear hd hq0
          go_wp2_with fail
          have hr7 : Rd (W6.setCell ⟨w.heap.size, 1, none⟩ (.int .i64 ((k4 : Int) + 1))) w.heap.size s (k4 + 1) := hr6.move (k4 + 1)
          have hb7 : Bel w (W6.setCell ⟨w.heap.size, 1, none⟩ (.int .i64 ((k4 : Int) + 1))) := hbw.setCell (p := ⟨w.heap.size, 1, none⟩) (Nat.le_refl _) _
          generalize (W6.setCell ⟨w.heap.size, 1, none⟩ (.int .i64 ((k4 : Int) + 1))) = W7 at *
          have hl8 : s.data.toList.drop (k4 + 1) = u5 := by rw [← List.drop_drop, hl4]; rfl
          refine (charset_any w.heap.size s (k4 + 1) u5 W7 hr7 (by omega) hl8 (by omega)).mono ?_
          rintro e W8 ⟨rfl, hB8⟩
          go_wp2_with fail
          go_ret
          rw [HC.out]
          exact ⟨rfl, hB8.bel hb7 (Nat.le_refl _)⟩
      | false =>
        have HC := Lib.hid (show M.charA s.data.toList = M.charA (s.data.toList.drop k4) by
          rw [HR.out, hl4]
          refine M.charA_no c0 t0 HP.out ?_
          cases hd : ((c0 :: t0).drop 7).dropWhile M.white with
          | nil => rfl
          | cons e5 u5 =>
            rw [hd] at hq0
            have he : ¬ e5 = 61 := by simpa [headP] using hq0
            rw [M.behindEq, if_neg he])
        go_wp2_with fail
        go_roundg (s.size - k4)
        case measure => omega
        case rel => exact ⟨k4, hk4, Nat.le_refl _, hr6, hbw, HC⟩
theorem charset_to (s : ByteArray) (n x : Int) (h : M.charE s.data.toList = (n, x)) (w : World) (hL : Len w) : Calls Tryd.prog 10 #[.string s] w fun e w' => e = .returned (.tuple #[.int .i64 n, .int .i64 x]) ∧ Bel w w' := by
  by_cases hl : 3000 < s.size
  · rw [M.charE, if_pos (by rw [← Lib.size_eq]; exact hl)] at h
    injection h with h1 h2
    subst h1; subst h2
    go_enter Tryd.func10, Tryd.ntmps10
    go_wp2
    go_ret2
    exact ⟨rfl, Bel.refl _⟩
  · rw [M.charE, if_neg (by rw [← Lib.size_eq]; exact hl)] at h
    injection h with h1 h2
    subst h2
    have H1 := Lib.hid h1
    clear h1
    go_enter Tryd.func10, Tryd.ntmps10
    go_wp2_with (go_at_call 28; refine (told_any2 s (by omega) _ hL).mono ?_; rintro e w' ⟨rfl, hb⟩; rw [H1.out])
    go_ret2
    exact ⟨rfl, hb⟩
end Go.Proofs.YthaoohckgilahaaDoor

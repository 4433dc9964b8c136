/-
  Texts of the proof, laid together: Attr5, PlainRune, Scan1, Scan2, Scan3, PlainScan2, Scan4. No condition of its own.
-/
import Derived.Test.YtcgdecpjlggekaaGreatDoorG3
import Derived.Test.YtcgdecpjlggekaaGreatDoorG1
import Derived.Shelf.GgClosure.StringsIndexFunc
import Derived.Lib.SpaceUEq
import Derived.Laws.EntriesVeiled
import Derived.BigRegion

/-
  Package attr: All, charset, Told, Charset.
-/
namespace Go.Proofs.YtcgdecpjlggekaaGreatDoor
open Go.RowKit
set_option maxRecDepth 1000000

theorem charset_any (g : Nat) (s : ByteArray) (k : Nat) (l : List UInt8) (w : World) (hr : Rd w g s k) (hk : k ≤ s.size) (hl : s.data.toList.drop k = l) (hs : s.size ≤ 68719476735) :
    Calls Tryz.prog 132 #[.pointer (some ⟨g, 0, none⟩)] w fun e w' => e = .returned (.int .i64 (M.charOf l)) ∧ Bes g w w' := by
  have hgl : g < w.heap.size := Box.lt hr
  have hll : l.length ≤ s.size := by rw [← hl, List.length_drop, ← Lib.size_eq]; omega
  go_enter Tryz.func132, Tryz.ntmps132
  go_wp2_with fail
  refine (pass_to g s k 90 #[] M.white l w hr hk hl hs (enters_of Tryz.func90 (by kernel_rfl) rfl) (says_white g s w)).mono ?_
  rintro e W1 ⟨rfl, k1, hk1, hr1, hl1, hB1⟩
  go_wp2_with fail
  refine (one_any _ _).mono ?_
  rintro e W2 ⟨rfl, rfl⟩
  have hbq := Box.new W1 9 [.string ⟨#[34, 39]⟩]
  have hbb : Bel W1 (W1.alloc (.cells #[.string ⟨#[34, 39]⟩] 9)) := (Bel.refl W1).alloc _
  have hne : W1.heap.size ≠ g := by have := hB1.size; omega
  have hr2 := hr1.bel hbb
  have hB2 := hB1.trans (Bes.of_bel hbb)
  generalize (W1.alloc (.cells #[.string ⟨#[34, 39]⟩] 9)) = W2 at *
  have hq0 : ∃ b, headP attrOne (l.dropWhile M.white) = b := ⟨_, rfl⟩
  obtain ⟨b, hq0⟩ := hq0
  go_wp2_with fail
  refine (here_to g s k1 143 #[.pointer (some ⟨W1.heap.size, 0, none⟩)] attrOne _ b W2 hr2 hk1 hl1 hq0 (enters_of Tryz.func143 (by kernel_rfl) rfl) (says_one g s W2 _ ⟨#[34, 39]⟩ hne hbq attrOne isQuote)).mono ?_
  rintro e W3 ⟨rfl, hr3, hb3⟩
  have hB3 := hB2.trans (Bes.of_bel hb3)
  have hdl := M.dropWhile_le M.white l
  clear hr hr1 hr2 hB1 hB2 hb3 hbq hbb
  cases b with
  | true =>
    cases hd : l.dropWhile M.white with
    | nil => rw [hd] at hq0; cases hq0
    | cons q t =>
      rw [hd] at hl1 hq0 hdl
      rw [List.length_cons] at hdl
      have hq1 : q = 34 ∨ q = 39 := by simpa [headP, attrOne] using hq0
      have hvl : ((M.quotedA q t).1.getD []).length ≤ t.length := by
        unfold M.quotedA
        have h1 := (List.takeWhile_prefix (fun c => c != q) (l := t)).length_le
        split
        · exact Nat.zero_le _
        · exact h1
      have qq := quoted_any g s k1 q t W3 hr3 hk1 hl1 hs
      cases ho : (M.quotedA q t).1 with
      | none =>
        have HV := Lib.hid (show M.charOf l = 0 by rw [M.charOf, hd]; simp only; rw [if_pos hq1, ho])
        rw [ho] at qq
        clear hvl ho hd
        go_wp2_with fail
        refine qq.mono ?_
        rintro e W4 ⟨rfl, k4, hk4, hr4, hl4, hB4⟩
        go_wp2_with fail
        go_ret
        rw [HV.out]
        exact ⟨rfl, hB3.trans hB4⟩
      | some v =>
        have HV := Lib.hid (show M.charOf l = M.find v by rw [M.charOf, hd]; simp only; rw [if_pos hq1, ho])
        rw [ho] at qq hvl
        have hvl2 : v.length ≤ t.length := hvl
        clear hvl ho hd
        go_wp2_with fail
        refine qq.mono ?_
        rintro e W4 ⟨rfl, k4, hk4, hr4, hl4, hB4⟩
        go_wp2_with fail
        refine (of_any ⟨v.toArray⟩ W4 (by rw [size_str]; omega)).mono ?_
        rintro e W5 ⟨rfl, hb5⟩
        go_wp2_with fail
        go_ret
        rw [HV.out]
        exact ⟨rfl, (hB3.trans hB4).trans (Bes.of_bel hb5)⟩
  | false =>
    have HV := Lib.hid (show M.charOf l = M.find ((l.dropWhile M.white).takeWhile M.labB) by
      unfold M.charOf
      cases hd : l.dropWhile M.white with
      | nil => rfl
      | cons q t =>
        rw [hd] at hq0
        have hq1 : ¬ (q = 34 ∨ q = 39) := by simpa [headP, attrOne] using hq0
        simp only
        rw [if_neg hq1])
    have htl := (List.takeWhile_prefix M.labB (l := l.dropWhile M.white)).length_le
    go_wp2_with fail
    refine (pass_to g s k1 146 #[] M.labB _ W3 hr3 hk1 hl1 hs (enters_of Tryz.func146 (by kernel_rfl) rfl) (says_lab g s W3)).mono ?_
    rintro e W4 ⟨rfl, k4, hk4, hr4, hl4, hB4⟩
    go_wp2_with fail
    refine (of_any _ W4 (by rw [size_str]; omega)).mono ?_
    rintro e W5 ⟨rfl, hb5⟩
    go_wp2_with fail
    go_ret
    rw [HV.out]
    exact ⟨rfl, (hB3.trans hB4).trans (Bes.of_bel hb5)⟩
theorem index_cases (s sub : List UInt8) (hsub : sub ≠ []) : (Lib.index s sub = -1 ∧ ∀ j, Lib.hasPrefix (s.drop j) sub = false) ∨ ∃ i : Nat, i + sub.length ≤ s.length ∧ Lib.index s sub = (i : Int) ∧ Lib.hasPrefix (s.drop i) sub = true ∧ ∀ j, j < i → Lib.hasPrefix (s.drop j) sub = false := by
  have key : ∀ n : Nat, (∀ j, j < n → Lib.occAt s sub j = false) ∨ ∃ i, Lib.occAt s sub i = true ∧ ∀ j, j < i → Lib.occAt s sub j = false := by
    intro n
    induction n with
    | zero => exact .inl (fun j hj => absurd hj (Nat.not_lt_zero _))
    | succ n ih =>
      rcases ih with ih | ih
      · cases ho : Lib.occAt s sub n with
        | true => exact .inr ⟨n, ho, ih⟩
        | false =>
          refine .inl (fun j hj => ?_)
          by_cases e : j = n
          · subst e; exact ho
          · exact ih j (by omega)
      · exact .inr ih
  rcases key (s.length + 1) with h | ⟨i, h1, h2⟩
  · left
    refine ⟨Lib.index_none (fun j hj => h j (by omega)), fun j => ?_⟩
    by_cases hj : j ≤ s.length
    · exact h j (by omega)
    · cases ho : Lib.occAt s sub j with
      | false => exact ho
      | true =>
        rcases Lib.occAt_room ho with h3 | h3
        · omega
        · exact absurd h3 hsub
  · right
    rcases Lib.occAt_room h1 with h3 | h3
    · exact ⟨i, h3, Lib.index_first (by omega) h1 h2, h1, h2⟩
    · exact absurd h3 hsub
theorem fold_drop (l : List UInt8) (k : Nat) : (M.fold l).drop k = M.fold (l.drop k) := by unfold M.fold; rw [List.map_drop]
theorem told_any2 (s : ByteArray) (hs : s.size ≤ 3000) (w : World) (hL : Len w) : Calls Tryz.prog 106 #[.string s] w fun e w' => e = .returned (.int .i64 (M.charA s.data.toList)) ∧ Bel w w' := by
  have hr0 : Rd (w.alloc (.cells #[.string s, .int .i64 0] 156)) w.heap.size s 0 := Box.new w 156 [.string s, .int .i64 0]
  have hb0 : Bel w (w.alloc (.cells #[.string s, .int .i64 0] 156)) := (Bel.refl w).alloc _
  go_enter Tryz.func106, Tryz.ntmps106
  go_wp2_with fail
  generalize (w.alloc (.cells #[.string s, .int .i64 0] 156)) = W0 at *
  refine (folded_any s W0 (by omega)).mono ?_
  rintro e W1 ⟨rfl, hb1⟩
  have hr1 := hr0.bel hb1
  have hb2 := hb0.trans hb1
  clear hr0 hb0 hb1
  obtain ⟨low, hlow⟩ : ∃ low : ByteArray, low = ⟨(M.fold s.data.toList).toArray⟩ := ⟨_, rfl⟩
  have HLW := Lib.hid (show low.data.toList = M.fold s.data.toList by rw [hlow])
  have hls : low.size = s.size := by rw [Lib.size_eq, HLW.out, M.fold_len, ← Lib.size_eq]
  rw [← hlow]
  clear hlow
  go_wp2_with fail
  go_loopg [5] (s.size + 1) (fun gg _ wr => ∃ (j : Nat), j ≤ s.size ∧ s.size - j ≤ gg ∧ Rd wr w.heap.size s j ∧ Bel w wr ∧ Hid (M.charA s.data.toList = M.charA (s.data.toList.drop j)))
  case atStart => exact ⟨0, by omega, by omega, hr1, hb2, Lib.hid rfl⟩
  case round =>
    clear hr1 hb2
    obtain ⟨j, hj, hg, hr, hb, HJ⟩ := hrel
    have hrl := Box.lt hr
    have c1 := Box.cell hr 1 _ rfl
    have hbd : (0 : Int) ≤ (j : Int) ∧ (j : Int) ≤ (low.size : Int) := by omega
    obtain ⟨m, hm⟩ := hL.bel hb
    have HD := Lib.hid (show (low.extract j low.size).data.toList = M.fold (s.data.toList.drop j) by rw [drop_str, HLW.out, fold_drop])
    have hds : (low.extract j low.size).size = s.size - j := by rw [drop_size, hls]
    have hix := Tryz.strings_Index (low.extract j low.size) ⟨#[99, 104, 97, 114, 115, 101, 116]⟩ m wr (by omega) hm
    rw [HD.out, hls] at hix
    go_wp2_with fail
    rcases index_cases (M.fold (s.data.toList.drop j)) [99, 104, 97, 114, 115, 101, 116] (by decide) with ⟨hi, hno⟩ | ⟨i, hil, hi, hyes, hno⟩
    · rw [hi] at hix
      have HR := Lib.hid (show M.charA s.data.toList = 0 by
        rw [HJ.out, M.charA_skip (s.data.toList.drop j).length _ (fun q _ => by have := hno q; rw [fold_drop] at this; exact this), List.drop_length]; rfl)
      clear hno hi
      refine hix.mono ?_
      rintro e W2 ⟨rfl, rfl⟩
      go_wp2_with fail
      go_ret
      rw [HR.out]
      exact ⟨rfl, hb⟩
    · rw [hi] at hix
      rw [M.fold_len, List.length_drop, ← Lib.size_eq] at hil
      have hil2 : i + 7 ≤ s.size - j := hil
      have HR := Lib.hid (show M.charA s.data.toList = M.charA (s.data.toList.drop (j + i)) by
        rw [HJ.out, M.charA_skip i _ (fun q hq => by have := hno q hq; rw [fold_drop] at this; exact this), List.drop_drop])
      have hpre : Lib.hasPrefix (M.fold (s.data.toList.drop (j + i))) M.charset7 = true := by
        have := hyes
        rw [fold_drop, List.drop_drop] at this
        exact this
      obtain ⟨c0, t0, hct⟩ : ∃ c t, s.data.toList.drop (j + i) = c :: t := by
        cases hd : s.data.toList.drop (j + i) with
        | nil =>
          have := congrArg List.length hd
          rw [List.length_drop, ← Lib.size_eq, List.length_nil] at this
          omega
        | cons c t => exact ⟨c, t, rfl⟩
      rw [hct] at HR hpre
      have h7 : s.data.toList.drop (j + (i + 7)) = (c0 :: t0).drop 7 := by rw [← hct, List.drop_drop, Nat.add_assoc]
      have f1 := Box.frozen hr 1
      have HP := Lib.hid hpre
      clear hno hi hyes hil hct hpre
      refine hix.mono ?_
      rintro e W2 ⟨rfl, rfl⟩
      go_wp2_with fail
      have hr3 : Rd (W2.setCell ⟨w.heap.size, 1, none⟩ (.int .i64 ((j : Int) + ((i : Int) + 7)))) w.heap.size s (j + (i + 7)) := hr.move (j + (i + 7))
      have hb3 : Bel w (W2.setCell ⟨w.heap.size, 1, none⟩ (.int .i64 ((j : Int) + ((i : Int) + 7)))) := hb.setCell (p := ⟨w.heap.size, 1, none⟩) (Nat.le_refl _) _
      generalize (W2.setCell ⟨w.heap.size, 1, none⟩ (.int .i64 ((j : Int) + ((i : Int) + 7)))) = W3 at *
      clear hr hb c1 hm hix f1
      refine (pass_to w.heap.size s (j + (i + 7)) 90 #[] M.white _ W3 hr3 (by omega) h7 (by omega) (enters_of Tryz.func90 (by kernel_rfl) rfl) (says_white w.heap.size s W3)).mono ?_
      rintro e W4 ⟨rfl, k4, hk4, hr4, hl4, hB4⟩
      have hb4 : Bel w W4 := hB4.bel hb3 (Nat.le_refl _)
      have hlen4 := at_of s k4 hk4 _ hl4
      have hdl := M.dropWhile_le M.white ((c0 :: t0).drop 7)
      have hl7 := congrArg List.length h7
      rw [List.length_drop, ← Lib.size_eq] at hl7
      have hk47 : j + 7 ≤ k4 := by omega
      have HK4 := Lib.hid hlen4
      clear hlen4 hdl hl7
      clear hr3 hb3 hB4
      go_wp2_with fail
      refine (one_any _ _).mono ?_
      rintro e W5 ⟨rfl, rfl⟩
      have hbq := Box.new W4 9 [.string ⟨#[61]⟩]
      have hbb : Bel W4 (W4.alloc (.cells #[.string ⟨#[61]⟩] 9)) := (Bel.refl W4).alloc _
      have hne : W4.heap.size ≠ w.heap.size := by have := Box.lt hr4; omega
      have hr5 := hr4.bel hbb
      have hb5 := hb4.trans hbb
      generalize (W4.alloc (.cells #[.string ⟨#[61]⟩] 9)) = W5 at *
      have hq0 : ∃ b, headP (fun c => c == 61) (((c0 :: t0).drop 7).dropWhile M.white) = b := ⟨_, rfl⟩
      obtain ⟨b, hq0⟩ := hq0
      go_wp2_with fail
      refine (here_to w.heap.size s k4 143 #[.pointer (some ⟨W4.heap.size, 0, none⟩)] (fun c => c == 61) _ b W5 hr5 hk4 hl4 hq0 (enters_of Tryz.func143 (by kernel_rfl) rfl) (says_one w.heap.size s W5 _ ⟨#[61]⟩ hne hbq (fun c => c == 61) isEq)).mono ?_
      rintro e W6 ⟨rfl, hr6, hb6⟩
      have hbw := hb5.trans hb6
      clear hr4 hb4 hr5 hb5 hb6 hbq hbb
      cases b with
      | true =>
        cases hd : ((c0 :: t0).drop 7).dropWhile M.white with
        | nil => rw [hd] at hq0; cases hq0
        | cons e5 u5 =>
          rw [hd] at hq0 hl4 HK4
          have he : e5 = 61 := by simpa [headP] using hq0
          have HC := Lib.hid (show M.charA s.data.toList = M.charOf u5 by
            rw [HR.out]
            exact M.charA_eq c0 t0 u5 HP.out (by rw [hd, M.behindEq, if_pos he]))
          have hdl := M.dropWhile_le M.white ((c0 :: t0).drop 7)
          rw [hd, List.length_cons] at hdl
          have hl7 := congrArg List.length h7
          rw [List.length_drop, ← Lib.size_eq] at hl7
          have hk41 : k4 + 1 ≤ s.size := by have := HK4.out; rw [List.length_cons] at this; omega
          clear hdl hl7
          have c1 := Box.cell hr6 1 _ rfl
          have f1 := Box.frozen hr6 1
          clear hd hq0
          go_wp2_with fail
          have hr7 : Rd (W6.setCell ⟨w.heap.size, 1, none⟩ (.int .i64 ((k4 : Int) + 1))) w.heap.size s (k4 + 1) := hr6.move (k4 + 1)
          have hb7 : Bel w (W6.setCell ⟨w.heap.size, 1, none⟩ (.int .i64 ((k4 : Int) + 1))) := hbw.setCell (p := ⟨w.heap.size, 1, none⟩) (Nat.le_refl _) _
          generalize (W6.setCell ⟨w.heap.size, 1, none⟩ (.int .i64 ((k4 : Int) + 1))) = W7 at *
          have hl8 : s.data.toList.drop (k4 + 1) = u5 := by rw [← List.drop_drop, hl4]; rfl
          refine (charset_any w.heap.size s (k4 + 1) u5 W7 hr7 (by omega) hl8 (by omega)).mono ?_
          rintro e W8 ⟨rfl, hB8⟩
          go_wp2_with fail
          go_ret
          rw [HC.out]
          exact ⟨rfl, hB8.bel hb7 (Nat.le_refl _)⟩
      | false =>
        have HC := Lib.hid (show M.charA s.data.toList = M.charA (s.data.toList.drop k4) by
          rw [HR.out, hl4]
          refine M.charA_no c0 t0 HP.out ?_
          cases hd : ((c0 :: t0).drop 7).dropWhile M.white with
          | nil => rfl
          | cons e5 u5 =>
            rw [hd] at hq0
            have he : ¬ e5 = 61 := by simpa [headP] using hq0
            rw [M.behindEq, if_neg he])
        go_wp2_with fail
        go_roundg (s.size - k4)
        case measure => omega
        case rel => exact ⟨k4, hk4, Nat.le_refl _, hr6, hbw, HC⟩
end Go.Proofs.YtcgdecpjlggekaaGreatDoor

/-
  The first rune that is some byte below 128: the first such byte.
-/
namespace Go.Proofs.YtcgdecpjlggekaaGreatDoor.M
open Go

theorem get_cons (s : ByteArray) (i : Nat) (h : i < s.size) : s.data.toList.drop i = s.get! i :: s.data.toList.drop (i + 1) := by
  have hk : i < s.data.toList.length := by rw [← Lib.size_eq]; exact h
  rw [List.drop_eq_getElem_cons hk]
  congr 1
  show _ = s.data[i]!
  have h2 : i < s.data.size := by simpa using hk
  rw [getElem!_pos s.data i h2, Array.getElem_toList]
theorem dec_low (s : ByteArray) (i : Nat) (h : (s.get! i).toNat < 128) : Utf8.decode s i = ((s.get! i).toNat, 1) := by
  rw [Lib.decode_at, Lib.decodeN_ascii _ _ _ _ _ h]
theorem dec_high (n b0 b1 b2 b3 : Nat) (h : 128 ≤ b0) : 128 ≤ (Lib.decodeN n b0 b1 b2 b3).1 ∧ 1 ≤ (Lib.decodeN n b0 b1 b2 b3).2 := by
  unfold Lib.decodeN
  repeat' split
  all_goals (simp only; omega)
/-- The first place at which q holds, from k on; -1: none. -/
def firstB (q : UInt8 → Bool) (k : Nat) (l : Bs) : Int := if l.dropWhile (fun c => !q c) = [] then -1 else ((k + (l.takeWhile (fun c => !q c)).length : Nat) : Int)
theorem firstB_no (q : UInt8 → Bool) (k : Nat) (c : UInt8) (t : Bs) (h : q c = false) : firstB q k (c :: t) = firstB q (k + 1) t := by
  have hn : (!q c) = true := by rw [h]; rfl
  unfold firstB
  rw [List.dropWhile_cons_of_pos (p := fun c => !q c) hn, List.takeWhile_cons_of_pos (p := fun c => !q c) hn, List.length_cons]
  congr 2
  omega
theorem firstB_yes (q : UInt8 → Bool) (k : Nat) (c : UInt8) (t : Bs) (h : q c = true) : firstB q k (c :: t) = k := by
  have hn : ¬ (!q c) = true := by rw [h]; decide
  unfold firstB
  rw [List.dropWhile_cons_of_neg (p := fun c => !q c) hn, List.takeWhile_cons_of_neg (p := fun c => !q c) hn, if_neg (by simp)]
  rfl
theorem firstB_skip (q : UInt8 → Bool) (s : ByteArray) (pos : Nat) : ∀ (n : Nat), pos + n ≤ s.size → (∀ j, j < n → q (s.get! (pos + j)) = false) → firstB q pos (s.data.toList.drop pos) = firstB q (pos + n) (s.data.toList.drop (pos + n))
  | 0, _, _ => rfl
  | n + 1, h, hq => by
    rw [firstB_skip q s pos n (by omega) (fun j hj => hq j (by omega)), get_cons s (pos + n) (by omega), firstB_no q _ _ _ (hq n (by omega))]
    rfl
theorem idx_byte (p : Nat → Bool) (q : UInt8 → Bool) (hp : ∀ b : UInt8, b.toNat < 128 → p b.toNat = q b) (hh : ∀ r, 128 ≤ r → p r = false) (hq : ∀ b : UInt8, 128 ≤ b.toNat → q b = false) (s : ByteArray) : ∀ (f pos : Nat), pos ≤ s.size → s.size - pos ≤ f → Lib.idxFuncFrom p true s f pos = firstB q pos (s.data.toList.drop pos)
  | 0, pos, h1, h2 => by
    obtain rfl : pos = s.size := by omega
    rw [List.drop_eq_nil_of_le (by rw [← Lib.size_eq]; exact Nat.le_refl _)]
    rfl
  | f + 1, pos, h1, h2 => by
    rw [Lib.idxFuncFrom]
    by_cases hlt : pos < s.size
    · rw [if_pos hlt]
      by_cases hb : (s.get! pos).toNat < 128
      · rw [dec_low s pos hb, get_cons s pos hlt]
        simp only
        rw [hp _ hb]
        cases hc : q (s.get! pos) with
        | true => rw [if_pos rfl, firstB_yes q _ _ _ hc]
        | false =>
          rw [if_neg (by decide), firstB_no q _ _ _ hc]
          exact idx_byte p q hp hh hq s f (pos + 1) (by omega) (by omega)
      · have d1 := dec_high (s.size - pos) (s.get! pos).toNat (s.get! (pos + 1)).toNat (s.get! (pos + 2)).toNat (s.get! (pos + 3)).toNat (by omega)
        have d2 := Lib.decodeN_conts (s.size - pos) (s.get! pos).toNat (s.get! (pos + 1)).toNat (s.get! (pos + 2)).toNat (s.get! (pos + 3)).toNat
        rw [← Lib.decode_at] at d1 d2
        rw [hh _ d1.1, if_neg (by decide)]
        generalize (Utf8.decode s pos).2 = n at *
        obtain ⟨c2, c3, c4, c5⟩ := d2
        rw [firstB_skip q s pos n (by omega) ?_]
        · exact idx_byte p q hp hh hq s f (pos + n) (by omega) (by omega)
        · intro j hj
          apply hq
          rcases j with _ | _ | _ | _ | j
          · show 128 ≤ (s.get! pos).toNat; omega
          · show 128 ≤ (s.get! (pos + 1)).toNat; omega
          · show 128 ≤ (s.get! (pos + 2)).toNat; omega
          · show 128 ≤ (s.get! (pos + 3)).toNat; omega
          · omega
    · obtain rfl : pos = s.size := by omega
      rw [if_neg hlt, List.drop_eq_nil_of_le (by rw [← Lib.size_eq]; exact Nat.le_refl _)]
      rfl
end Go.Proofs.YtcgdecpjlggekaaGreatDoor.M

/-
  Package scan: value, told, meta, Meta.
-/
namespace Go.Proofs.YtcgdecpjlggekaaGreatDoor
open Go.RowKit
set_option maxRecDepth 1000000

theorem ixAttr (b off n c : Nat) (zs : Nat → Value × Value) (p : Nat → Bool) (g : Nat) (lb : Array Value) (eg : ∀ args w, (callFunc g args).run Tryz.prog w = .ok (.enter g args) w) (w : World)
    (hp : ∀ (W : World) (j : Nat), j < n → Below w.heap.size w W → Calls Tryz.prog g (#[.agg #[(zs j).1, (zs j).2]] ++ lb) W fun e w' => e = .returned (.bool (p j)) ∧ Below w.heap.size w w')
    (hbig : n ≤ 9223372036854775807) (hb : b < w.heap.size) (hc : ∀ j, j < n → w.cell? ⟨b, off + j * 2, none⟩ = some (zs j).1 ∧ w.cell? ⟨b, off + j * 2 + 1, none⟩ = some (zs j).2) :
    Calls Tryz.prog 85 #[.slice (some ⟨b, off, none⟩) n c, .func (.func g) #[] lb] w fun e w' => (∃ r : Int, e = .returned (.int .i64 r) ∧ FirstAt n p r) ∧ Below w.heap.size w w' := by
  have hrow : ∀ (W : World), Below w.heap.size w W → ∀ j, j < n → W.cell? ⟨b, off + j * 2, none⟩ = some (zs j).1 ∧ W.cell? ⟨b, off + j * 2 + 1, none⟩ = some (zs j).2 := fun W hW j hj => by
    have h1 := hc j hj
    exact ⟨(hW.cell (p := ⟨b, off + j * 2, none⟩) hb).trans h1.1, (hW.cell (p := ⟨b, off + j * 2 + 1, none⟩) hb).trans h1.2⟩
  clear hc
  go_enter Tryz.func85, Tryz.ntmps85
  go_wp2
  go_loopg [5, 8] n (fun gg _ s8 wr => ∃ kk : Nat, kk ≤ n ∧ n - kk ≤ gg ∧ s8 = .int .i64 kk ∧ Aside (Below w.heap.size w wr) ∧ Aside (∀ j, j < kk → p j = false))
  case atStart => exact ⟨0, Nat.zero_le _, by omega, rfl, Below.refl _ w, fun j hj => absurd hj (Nat.not_lt_zero _)⟩
  case round =>
    obtain ⟨kk, hkk, hg, rfl, BW, A⟩ := hrel
    by_cases hlt : kk < n
    · have hltz : (kk : Int) < (n : Int) := by omega
      obtain ⟨l1, l2⟩ := hrow wr BW.out kk (by omega)
      have hcall := hp wr kk hlt BW.out
      clear hrow hp
      generalize (zs kk) = y at l1 l2 hcall
      obtain ⟨y1, y2⟩ := y
      simp only at l1 l2 hcall
      cases hq : p kk with
      | true =>
        rw [hq] at hcall
        have HQ := Lib.hid hq
        clear hq
        go_wp2_with (go_at_fn g; refine hcall.mono ?_; rintro e w' ⟨rfl, hb'⟩)
        go_ret
        exact ⟨⟨kk, rfl, .inr ⟨kk, hlt, rfl, HQ.out, A.out⟩⟩, hb'⟩
      | false =>
        rw [hq] at hcall
        have HQ := Lib.hid hq
        clear hq
        go_wp2_with (go_at_fn g; refine hcall.mono ?_; rintro e w' ⟨rfl, hb'⟩)
        go_roundg (n - (kk + 1))
        case measure => omega
        case rel =>
          refine ⟨kk + 1, by omega, by omega, by go_num, hb', (show Aside _ from fun j hj => ?_)⟩
          by_cases e : j = kk
          · subst e
            exact HQ.out
          · exact A.out j (by omega)
    · have hltz : ¬ (kk : Int) < (n : Int) := by omega
      have : kk = n := by omega
      subst this
      go_wp2
      go_ret
      exact ⟨⟨-1, rfl, .inl ⟨rfl, A.out⟩⟩, BW.out⟩
theorem ixAttr_nil (a : Option Addr) (f : Value) (c : Nat) (w : World) : Calls Tryz.prog 85 #[.slice a 0 c, f] w fun e w' => e = .returned (.int .i64 (-1)) ∧ Bel w w' := by
  go_enter Tryz.func85, Tryz.ntmps85
  go_wp2
  go_loop [8] (fun v => v = .int .i64 0) (fun _ => 0)
  case atStart => rfl
  case round =>
    subst hrel
    go_wp2
    go_ret
    exact ⟨rfl, Bel.refl _⟩
/-- The first that has it; -1: none has. -/
def FindAt (xs : List (List UInt8 × List UInt8)) (p : List UInt8 × List UInt8 → Bool) (r : Int) : Prop := (r = -1 ∧ xs.find? p = none) ∨ ∃ (k : Nat) (q : List UInt8 × List UInt8), r = k ∧ xs[k]? = some q ∧ xs.find? p = some q
theorem find_at (xs : List (List UInt8 × List UInt8)) (p : List UInt8 × List UInt8 → Bool) (r : Int) (h : FirstAt xs.length (fun j => p (xs.getD j ([], []))) r) : FindAt xs p r := by
  rcases h with ⟨rfl, h⟩ | ⟨k, hk, rfl, hy, hno⟩
  · refine .inl ⟨rfl, List.find?_eq_none.2 fun x hx => ?_⟩
    obtain ⟨j, hj, rfl⟩ := List.getElem_of_mem hx
    have := h j hj
    simp only [List.getD_eq_getElem?_getD, List.getElem?_eq_getElem hj, Option.getD_some] at this
    rw [this]; decide
  · refine .inr ⟨k, xs[k], rfl, List.getElem?_eq_getElem hk, List.find?_eq_some_iff_getElem.2 ⟨?_, k, hk, rfl, fun j hj => ?_⟩⟩
    · simpa only [List.getD_eq_getElem?_getD, List.getElem?_eq_getElem hk, Option.getD_some] using hy
    · have := hno j hj
      simp only [List.getD_eq_getElem?_getD, List.getElem?_eq_getElem (Nat.lt_trans hj hk), Option.getD_some] at this
      rw [this]; rfl
theorem ixSl (v : Value) (xs : List (List UInt8 × List UInt8)) (p : List UInt8 × List UInt8 → Bool) (g : Nat) (lb : Array Value) (eg : ∀ args w, (callFunc g args).run Tryz.prog w = .ok (.enter g args) w) (w : World) (h : AttrSl w v xs)
    (hp : ∀ (W : World) (q : List UInt8 × List UInt8), Below w.heap.size w W → q ∈ xs → Calls Tryz.prog g (#[.agg #[.string ⟨q.1.toArray⟩, .string ⟨q.2.toArray⟩]] ++ lb) W fun e w' => e = .returned (.bool (p q)) ∧ Below w.heap.size w w') :
    Calls Tryz.prog 85 #[v, .func (.func g) #[] lb] w fun e w' => (∃ r : Int, e = .returned (.int .i64 r) ∧ FindAt xs p r) ∧ Below w.heap.size w w' := by
  obtain ⟨a, c, rfl, hc1, hc2, hn, hx⟩ := h
  by_cases h0 : xs = []
  · subst h0
    refine (ixAttr_nil a _ c w).mono ?_
    rintro e w' ⟨rfl, hb⟩
    exact ⟨⟨-1, rfl, .inl ⟨rfl, rfl⟩⟩, hb⟩
  · cases a with
    | none => exact absurd (hn rfl) h0
    | some x =>
      obtain ⟨g1, o, rfl, hy⟩ := hx x rfl h0
      have hat : ∀ j, (hj : j < xs.length) → xs.getD j ([], []) = xs[j] := fun j hj => by simp [hj]
      have hpos : 0 < xs.length := List.length_pos_iff.2 h0
      have hl := (hy 0 xs[0] (List.getElem?_eq_getElem hpos)).1
      have hlt := World.block_lt_of_cell? _ _ hl
      refine (ixAttr g1 o xs.length c (fun j => (.string ⟨(xs.getD j ([], [])).1.toArray⟩, .string ⟨(xs.getD j ([], [])).2.toArray⟩)) (fun j => p (xs.getD j ([], []))) g lb eg w ?_ ?_ hlt ?_).mono ?_
      · intro W j hj hW
        exact hp W _ hW (by rw [hat j hj]; exact List.getElem_mem hj)
      · unfold maxLen at hc2; omega
      · intro j hj
        obtain ⟨c1, c2⟩ := hy j _ (List.getElem?_eq_getElem hj)
        rw [hat j hj]
        exact ⟨c1, c2⟩
      · rintro e w' ⟨⟨r, rfl, hr⟩, hb⟩
        exact ⟨⟨r, rfl, find_at xs p r hr⟩, hb⟩
theorem val1_any (nm a b : ByteArray) (g : Nat) (w : World) (hc : w.cell? ⟨g, 0, none⟩ = some (.string nm)) (hg : g < w.heap.size) : Calls Tryz.prog 128 #[.agg #[.string a, .string b], .pointer (some ⟨g, 0, none⟩)] w fun e w' => e = .returned (.bool (a.toList == nm.toList)) ∧ Bel w w' := by
  go_enter Tryz.func128, Tryz.ntmps128
  have hne : g ≠ w.heap.size := by omega
  go_wp2
  all_goals (go_ret; exact ⟨by simp_all, (by repeat (first | exact Bel.refl _ | refine Bel.drewN ?_ _ | refine Bel.drew ?_ | refine Bel.alloc ?_ _ | refine Bel.trans ?_ (by assumption) | refine Bel.setCell ?_ (by simp; omega) _))⟩)
theorem valOf_some (xs : List (List UInt8 × List UInt8)) (nm : List UInt8) (q : List UInt8 × List UInt8) (h : xs.find? (fun a => a.1 == nm) = some q) : M.valOf xs nm = some q.2 := by rw [M.valOf, h]; rfl
theorem valOf_none (xs : List (List UInt8 × List UInt8)) (nm : List UInt8) (h : xs.find? (fun a => a.1 == nm) = none) : M.valOf xs nm = none := by rw [M.valOf, h]; rfl
theorem valOf_any (v : Value) (xs : List (List UInt8 × List UInt8)) (nm : ByteArray) (w : World) (h : AttrSl w v xs) : Calls Tryz.prog 105 #[v, .string nm] w fun e w' => e = .returned (.tuple #[.string ⟨((M.valOf xs nm.data.toList).getD []).toArray⟩, .bool (M.valOf xs nm.data.toList).isSome]) ∧ Bel w w' := by
  have HS := Lib.hid h
  obtain ⟨a, c, rfl, hc1, hc2, hn, hx⟩ := h
  unfold maxLen at hc2
  have HX := Lib.hid hx
  have HN := Lib.hid hn
  clear hx hn
  go_enter Tryz.func105, Tryz.ntmps105
  go_wp2_with fail
  refine (ixSl _ xs (fun q => q.1 == nm.data.toList) 128 #[.pointer (some ⟨w.heap.size, 0, none⟩)] (enters_of Tryz.func128 (by kernel_rfl) rfl) _ (HS.out.bel ((Bel.refl w).alloc _)) ?_).mono ?_
  · intro W q hW _
    refine (val1_any nm ⟨q.1.toArray⟩ ⟨q.2.toArray⟩ w.heap.size W ?_ ?_).mono ?_
    · rw [hW.cell (p := ⟨w.heap.size, 0, none⟩) (by simp), cell_new]
    · have := hW.size; simp at this; omega
    · rintro e w3 ⟨rfl, b4⟩
      refine ⟨?_, hW.trans (b4.mono hW.size)⟩
      rw [Lib.toList_data, Lib.toList_data]
  rintro e w4 ⟨⟨r, rfl, hr⟩, b4⟩
  have bB := ((Bel.refl w).alloc (.cells #[.string nm] 9)).trans b4
  rcases hr with ⟨rfl, hno⟩ | ⟨k, q, rfl, hk, hyes⟩
  · have HE := Lib.hid (valOf_none _ _ hno)
    clear hno
    go_wp2
    go_ret2
    exact ⟨by rw [HE.out]; rfl, bB⟩
  · have HE := Lib.hid (valOf_some _ _ _ hyes)
    have hkl := (List.getElem?_eq_some_iff.1 hk).1
    cases a with
    | none => exfalso; have h3 := hkl; rw [HN.out rfl] at h3; exact absurd h3 (Nat.not_lt_zero _)
    | some x =>
      obtain ⟨g, o, rfl, hx'⟩ := HX.out x rfl (List.ne_nil_of_length_pos (by omega))
      have c2 := (hx' k q hk).2
      have c2 := (bB.cell (World.block_lt_of_cell? _ _ c2)).trans c2
      clear hyes hk hx'
      go_wp2
      go_ret2
      exact ⟨by rw [HE.out]; rfl, bB⟩
/-- All values are short. -/
def ShortV (xs : List (List UInt8 × List UInt8)) : Prop := ∀ p ∈ xs, p.2.length ≤ 3000
theorem valOf_short (xs : List (List UInt8 × List UInt8)) (nm : List UInt8) (h : ShortV xs) : ((M.valOf xs nm).getD []).length ≤ 3000 := by
  rw [M.valOf]
  cases hf : xs.find? (fun a => a.1 == nm) with
  | none => exact Nat.zero_le _
  | some q => exact h q (List.mem_of_find?_eq_some hf)
theorem toldS_any (v : Value) (xs : List (List UInt8 × List UInt8)) (w : World) (h : AttrSl w v xs) (hs : ShortV xs) (hL : Len w) : Calls Tryz.prog 86 #[v] w fun e w' => e = .returned (.int .i64 (M.toldA xs)) ∧ Bel w w' := by
  have r1 := fun w h => valOf_any v xs ⟨#[99, 104, 97, 114, 115, 101, 116]⟩ w h
  have r2 := fun w h => valOf_any v xs ⟨#[104, 116, 116, 112, 45, 101, 113, 117, 105, 118]⟩ w h
  have r3 := fun w h => valOf_any v xs ⟨#[99, 111, 110, 116, 101, 110, 116]⟩ w h
  have s1 := valOf_short xs M.charset7 hs
  have s3 := valOf_short xs M.contentB hs
  rw [show (⟨#[99, 104, 97, 114, 115, 101, 116]⟩ : ByteArray).data.toList = M.charset7 from rfl] at r1
  rw [show (⟨#[104, 116, 116, 112, 45, 101, 113, 117, 105, 118]⟩ : ByteArray).data.toList = M.httpEquiv from rfl] at r2
  rw [show (⟨#[99, 111, 110, 116, 101, 110, 116]⟩ : ByteArray).data.toList = M.contentB from rfl] at r3
  cases h1 : M.valOf xs M.charset7 with
  | some u =>
    rw [h1] at r1 s1
    have HT := Lib.hid (show M.toldA xs = M.find u by rw [M.toldA, h1])
    have R1 := Lib.hid r1
    clear r1 r2 r3 h1
    go_enter Tryz.func86, Tryz.ntmps86
    go_wp2_with fail
    refine (R1.out w h).mono ?_
    rintro e w1 ⟨rfl, b1⟩
    rw [show (some u).getD [] = u from rfl, show (some u).isSome = true from rfl]
    have s1 : u.length ≤ 3000 := s1
    go_wp2_with fail
    refine (of_any ⟨u.toArray⟩ _ (by rw [size_str]; omega)).mono ?_
    rintro e w2 ⟨rfl, b2⟩
    go_wp2_with fail
    go_ret
    exact ⟨by rw [HT.out]; rfl, b1.trans b2⟩
  | none =>
    rw [h1] at r1
    have R1 := Lib.hid r1
    have R2 := Lib.hid r2
    have R3 := Lib.hid r3
    have hk : ((M.valOf xs M.httpEquiv).getD [] == [99, 111, 110, 116, 101, 110, 116, 45, 116, 121, 112, 101]) = true ↔ M.valOf xs M.httpEquiv = some M.contentType := by
      cases M.valOf xs M.httpEquiv with
      | none => exact ⟨(fun h => by cases h), (fun h => by cases h)⟩
      | some u => simp [M.contentType]
    cases hc : ((M.valOf xs M.httpEquiv).getD [] == [99, 111, 110, 116, 101, 110, 116, 45, 116, 121, 112, 101]) with
    | true =>
      have HT := Lib.hid (show M.toldA xs = M.charA ((M.valOf xs M.contentB).getD []) by rw [M.toldA, h1]; simp only; rw [if_pos (hk.1 hc)])
      clear r1 r2 r3 hk h1
      go_enter Tryz.func86, Tryz.ntmps86
      go_wp2_with fail
      refine (R1.out w h).mono ?_
      rintro e w1 ⟨rfl, b1⟩
      rw [show (none : Option (List UInt8)).getD [] = [] from rfl, show (none : Option (List UInt8)).isSome = false from rfl]
      go_wp2_with fail
      refine (R2.out _ (h.bel b1)).mono ?_
      rintro e w2 ⟨rfl, b2⟩
      have b2 := b1.trans b2
      go_wp2_with fail
      refine (R3.out _ (h.bel b2)).mono ?_
      rintro e w3 ⟨rfl, b3⟩
      have b3 := b2.trans b3
      go_wp2_with fail
      refine (told_any2 ⟨((M.valOf xs M.contentB).getD []).toArray⟩ (by rw [size_str]; exact s3) _ (hL.bel b3)).mono ?_
      rintro e w4 ⟨rfl, b4⟩
      go_wp2_with fail
      go_ret
      exact ⟨by rw [HT.out]; rfl, b3.trans b4⟩
    | false =>
      have HT := Lib.hid (show M.toldA xs = 0 by rw [M.toldA, h1]; simp only; rw [if_neg (fun h9 => by rw [hk.2 h9] at hc; cases hc)])
      clear r1 r2 r3 hk h1
      go_enter Tryz.func86, Tryz.ntmps86
      go_wp2_with fail
      refine (R1.out w h).mono ?_
      rintro e w1 ⟨rfl, b1⟩
      rw [show (none : Option (List UInt8)).getD [] = [] from rfl, show (none : Option (List UInt8)).isSome = false from rfl]
      go_wp2_with fail
      refine (R2.out _ (h.bel b1)).mono ?_
      rintro e w2 ⟨rfl, b2⟩
      have b2 := b1.trans b2
      go_wp2_with fail
      refine (R3.out _ (h.bel b2)).mono ?_
      rintro e w3 ⟨rfl, b3⟩
      have b3 := b2.trans b3
      go_wp2_with fail
      go_ret
      exact ⟨by rw [HT.out]; rfl, b3⟩
theorem metaS_any (v : Value) (xs : List (List UInt8 × List UInt8)) (w : World) (h : AttrSl w v xs) (hs : ShortV xs) (hL : Len w) : Calls Tryz.prog 71 #[v] w fun e w' => e = .returned (.int .i64 (M.metaA xs)) ∧ Bel w w' := by
  have HT := Lib.hid (show M.metaA xs = M.turnA (M.toldA xs) from rfl)
  obtain ⟨n, hn⟩ : ∃ n, M.toldA xs = n := ⟨_, rfl⟩
  have tt := toldS_any v xs w h hs hL
  rw [hn] at tt HT
  have HH := Lib.hid tt
  clear tt hn
  by_cases h2 : n = 2
  · subst h2
    go_enter Tryz.func71, Tryz.ntmps71
    go_wp2_with fail
    refine HH.out.mono ?_
    rintro e w1 ⟨rfl, b1⟩
    go_wp2_with fail
    go_ret
    exact ⟨by rw [HT.out]; rfl, b1⟩
  · by_cases h3 : n = 3
    · subst h3
      go_enter Tryz.func71, Tryz.ntmps71
      go_wp2_with fail
      refine HH.out.mono ?_
      rintro e w1 ⟨rfl, b1⟩
      go_wp2_with fail
      go_ret
      exact ⟨by rw [HT.out]; rfl, b1⟩
    · by_cases h5 : n = 5
      · subst h5
        go_enter Tryz.func71, Tryz.ntmps71
        go_wp2_with fail
        refine HH.out.mono ?_
        rintro e w1 ⟨rfl, b1⟩
        go_wp2_with fail
        go_ret
        exact ⟨by rw [HT.out]; rfl, b1⟩
      · have HX := Lib.hid (show M.turnA n = n by unfold M.turnA; rw [if_neg (by omega), if_neg h5])
        have e2 : (n == 2) = false := by simp [h2]
        have e3 : (n == 3) = false := by simp [h3]
        have e5 : (n == 5) = false := by simp [h5]
        clear h2 h3 h5
        go_enter Tryz.func71, Tryz.ntmps71
        go_wp2_with fail
        refine HH.out.mono ?_
        rintro e w1 ⟨rfl, b1⟩
        go_wp2_with fail
        go_ret
        exact ⟨by rw [HT.out, HX.out]; rfl, b1⟩
theorem longA_len (xs : List (List UInt8 × List UInt8)) (h : M.longA xs = false) : xs.length ≤ 3000 ∧ ShortV xs := by
  unfold M.longA at h
  rw [Bool.or_eq_false_iff] at h
  refine ⟨by have := h.1; simp at this; omega, fun p hp => ?_⟩
  have := List.any_eq_false.1 h.2 p hp
  simp at this
  omega
theorem meta1_any (s : ByteArray) (w : World) : Calls Tryz.prog 68 #[.string s] w fun e w' => e = .returned (.bool (decide (3000 < s.size))) ∧ w = w' := by
  go_enter Tryz.func68, Tryz.ntmps68
  go_wp2
  all_goals go_ret
  all_goals exact ⟨by simp; omega, rfl⟩
theorem meta2_any (a b : ByteArray) (g : Nat) (w : World) (hc : w.cell? ⟨g, 0, none⟩ = some (.func (.func 68) #[] #[])) (hg : g < w.heap.size) : Calls Tryz.prog 70 #[.agg #[.string a, .string b], .pointer (some ⟨g, 0, none⟩)] w fun e w' => e = .returned (.bool (decide (3000 < a.size) || decide (3000 < b.size))) ∧ Bel w w' := by
  go_enter Tryz.func70, Tryz.ntmps70
  have hne : g ≠ w.heap.size := by omega
  go_wp2_with (go_at_call 68; refine (meta1_any _ _).mono ?_; rintro e w' ⟨rfl, rfl⟩)
  all_goals (go_ret; exact ⟨by simp_all <;> omega, (by repeat (first | exact Bel.refl _ | refine Bel.drewN ?_ _ | refine Bel.drew ?_ | refine Bel.alloc ?_ _ | refine Bel.trans ?_ (by assumption) | refine Bel.setCell ?_ (by simp; omega) _))⟩)
theorem containsSl (v : Value) (xs : List (List UInt8 × List UInt8)) (p : List UInt8 × List UInt8 → Bool) (g : Nat) (lb : Array Value) (eg : ∀ args w, (callFunc g args).run Tryz.prog w = .ok (.enter g args) w) (w : World) (h : AttrSl w v xs)
    (hp : ∀ (W : World) (q : List UInt8 × List UInt8), Below w.heap.size w W → q ∈ xs → Calls Tryz.prog g (#[.agg #[.string ⟨q.1.toArray⟩, .string ⟨q.2.toArray⟩]] ++ lb) W fun e w' => e = .returned (.bool (p q)) ∧ Below w.heap.size w w') :
    Calls Tryz.prog 69 #[v, .func (.func g) #[] lb] w fun e w' => e = .returned (.bool (xs.any p)) ∧ Bel w w' := by
  have HI := Lib.hid (ixSl v xs p g lb eg w h hp)
  clear hp h
  go_enter Tryz.func69, Tryz.ntmps69
  go_wp2_with fail
  refine HI.out.mono ?_
  rintro e w1 ⟨⟨r, rfl, hr⟩, b1⟩
  rcases hr with ⟨rfl, hno⟩ | ⟨k, q, rfl, hk, hyes⟩
  · have HE := Lib.hid (show xs.any p = false by rw [List.any_eq_false]; exact List.find?_eq_none.1 hno)
    clear hno
    go_wp2
    go_ret
    exact ⟨by rw [HE.out]; rfl, b1⟩
  · have HE := Lib.hid (show xs.any p = true by rw [List.any_eq_true]; exact ⟨q, List.mem_of_find?_eq_some hyes, List.find?_some hyes⟩)
    clear hyes hk
    go_wp2
    go_ret
    exact ⟨by rw [HE.out]; simp, b1⟩
theorem metaS_to (v : Value) (xs : List (List UInt8 × List UInt8)) (n x : Int) (hE : M.metaE xs = (n, x)) (w : World) (h : AttrSl w v xs) (hL : Len w) : Calls Tryz.prog 38 #[v] w fun e w' => e = .returned (.tuple #[.int .i64 n, .int .i64 x]) ∧ Bel w w' := by
  have HS := Lib.hid h
  obtain ⟨a, c, rfl, hc1, hc2, hn, hx⟩ := h
  unfold maxLen at hc2
  clear hn hx
  by_cases hl : 3000 < xs.length
  · rw [M.metaE, if_pos (show M.longA xs = true by rw [M.longA, decide_eq_true hl]; rfl)] at hE
    injection hE with e1 e2
    subst e1; subst e2
    go_enter Tryz.func38, Tryz.ntmps38
    go_wp2_with fail
    go_ret2
    exact ⟨rfl, (by repeat (first | exact Bel.refl _ | refine Bel.drewN ?_ _ | refine Bel.drew ?_ | refine Bel.alloc ?_ _ | refine Bel.trans ?_ (by assumption) | refine Bel.setCell ?_ (by simp; omega) _))⟩
  · obtain ⟨b, hb⟩ : ∃ b, (xs.any fun a => decide (3000 < a.1.length) || decide (3000 < a.2.length)) = b := ⟨_, rfl⟩
    have hlong : M.longA xs = b := by rw [M.longA, hb, decide_eq_false hl]; rfl
    have hm := metaS_any (.slice a xs.length c) xs
    have hcs := fun W hW hp => containsSl (.slice a xs.length c) xs (fun a => decide (3000 < a.1.length) || decide (3000 < a.2.length)) 70 #[.pointer (some ⟨w.heap.size, 0, none⟩)] (enters_of Tryz.func70 (by kernel_rfl) rfl) W hW hp
    rw [hb] at hcs
    have HCS := Lib.hid hcs
    have HHL := Lib.hid hlong
    rw [M.metaE, hlong] at hE
    clear hcs hb hlong
    have hp : ∀ (W : World) (q : List UInt8 × List UInt8), Below (w.heap.size + 1) (w.alloc (.cells #[.func (.func 68) #[] #[]] 48)) W → q ∈ xs → Calls Tryz.prog 70 (#[.agg #[.string ⟨q.1.toArray⟩, .string ⟨q.2.toArray⟩]] ++ #[.pointer (some ⟨w.heap.size, 0, none⟩)]) W fun e w' => e = .returned (.bool (decide (3000 < q.1.length) || decide (3000 < q.2.length))) ∧ Below (w.heap.size + 1) (w.alloc (.cells #[.func (.func 68) #[] #[]] 48)) w' := by
      intro W q hW _
      have hsz := hW.size
      rw [World.size_alloc] at hsz
      refine (meta2_any ⟨q.1.toArray⟩ ⟨q.2.toArray⟩ w.heap.size W ?_ (by omega)).mono ?_
      · rw [hW.cell (p := ⟨w.heap.size, 0, none⟩) (by simp), cell_new]
      · rintro e w3 ⟨rfl, b4⟩
        refine ⟨by rw [size_str, size_str], hW.trans (b4.mono hsz)⟩
    have HP := Lib.hid hp
    clear hp
    cases b with
    | true =>
      rw [if_pos rfl] at hE
      injection hE with e1 e2
      subst e1; subst e2
      go_enter Tryz.func38, Tryz.ntmps38
      go_wp2_with fail
      refine (HCS.out _ (HS.out.bel ((Bel.refl w).alloc _)) (by rw [World.size_alloc]; exact HP.out)).mono ?_
      rintro e w1 ⟨rfl, b1⟩
      go_wp2_with fail
      go_ret2
      exact ⟨rfl, ((Bel.refl w).alloc _).trans b1⟩
    | false =>
      rw [if_neg (by decide)] at hE
      injection hE with e1 e2
      subst e1; subst e2
      go_enter Tryz.func38, Tryz.ntmps38
      go_wp2_with fail
      refine (HCS.out _ (HS.out.bel ((Bel.refl w).alloc _)) (by rw [World.size_alloc]; exact HP.out)).mono ?_
      rintro e w1 ⟨rfl, b1⟩
      have bB := ((Bel.refl w).alloc (.cells #[.func (.func 68) #[] #[]] 48)).trans b1
      go_wp2_with fail
      refine (hm _ (HS.out.bel bB) (longA_len xs HHL.out).2 (hL.bel bB)).mono ?_
      rintro e w2 ⟨rfl, b2⟩
      go_wp2_with fail
      go_ret2
      exact ⟨rfl, bB.trans b2⟩
end Go.Proofs.YtcgdecpjlggekaaGreatDoor

/-
  Package scan: the looker: begins, byteAt, to, tag.
-/
namespace Go.Proofs.YtcgdecpjlggekaaGreatDoor
open Go.RowKit
set_option maxRecDepth 1000000
set_option maxHeartbeats 1000000

/-- A looker at g: it holds a text, the text in small letters, and a place. -/
def Lk (w : World) (g : Nat) (s low : ByteArray) (k : Nat) : Prop := Box w g 104 [.string s, .string low, .int .i64 (k : Int)]
theorem Lk.bel {w w' : World} {g : Nat} {s low : ByteArray} {k : Nat} (h : Lk w g s low k) (hb : Bel w w') : Lk w' g s low k := Box.bel h hb
theorem Lk.move {w : World} {g : Nat} {s low : ByteArray} {k : Nat} (h : Lk w g s low k) (j : Nat) : Lk (w.setCell ⟨g, 2, none⟩ (.int .i64 (j : Int))) g s low j := Box.set h 2 _
/-- low is s in small letters. -/
def Low (s low : ByteArray) : Prop := low.data.toList = M.fold s.data.toList
theorem Low.size {s low : ByteArray} (h : Low s low) : low.size = s.size := by rw [Lib.size_eq, h, M.fold_len, ← Lib.size_eq]
theorem Low.drop {s low : ByteArray} (h : Low s low) (k : Nat) : (low.extract k low.size).data.toList = M.fold (s.data.toList.drop k) := by rw [drop_str, h, fold_drop]
theorem begins_any (g : Nat) (s low p : ByteArray) (k : Nat) (w : World) (h : Lk w g s low k) (hl : Low s low) (hk : k ≤ s.size) : Calls Tryz.prog 88 #[.pointer (some ⟨g, 0, none⟩), .string p] w fun e w' => e = .returned (.bool (Lib.hasPrefix (M.fold (s.data.toList.drop k)) p.data.toList)) ∧ ∃ m, w' = w.drewN m := by
  have c1 := Box.cell h 1 _ rfl
  have c2 := Box.cell h 2 _ rfl
  have hsz := hl.size
  have hbd : (0 : Int) ≤ (k : Int) ∧ (k : Int) ≤ (low.size : Int) := by omega
  have hcall := fun n => Tryz.strings_HasPrefix (low.extract k low.size) p (w.drewN n)
  rw [hl.drop k] at hcall
  have HC := Lib.hid hcall
  clear hcall hl hsz
  go_enter Tryz.func88, Tryz.ntmps88
  go_wp2_with fail
  go_quiet (first | (go_at_call 40; exact Calls.quiet_of_same (HC.out _)))
  go_wp2
  go_ret
  exact ⟨rfl, _, rfl⟩
/-- The byte so many further on, in small letters; 0: there is none. -/
def byteN (l : List UInt8) (more : Nat) : UInt8 := ((M.fold l)[more]?).getD 0
theorem byteAt_any (g : Nat) (s low : ByteArray) (k more : Nat) (w : World) (h : Lk w g s low k) (hl : Low s low) (hk : k ≤ s.size) (hs : s.size ≤ 3000) (hm : more ≤ 9) : Calls Tryz.prog 91 #[.pointer (some ⟨g, 0, none⟩), .int .i64 (more : Int)] w fun e w' => e = .returned (.int .u8 ((byteN (s.data.toList.drop k) more).toNat : Int)) ∧ ∃ m, w' = w.drewN m := by
  have c0 := Box.cell h 0 _ rfl
  have c1 := Box.cell h 1 _ rfl
  have c2 := Box.cell h 2 _ rfl
  have hsz := hl.size
  obtain ⟨km, hkm⟩ : ∃ km : Nat, km = k + more := ⟨_, rfl⟩
  have hki : (k : Int) + (more : Int) = (km : Int) := by omega
  by_cases hlt : km < s.size
  · have hb : byteN (s.data.toList.drop k) more = low[km] := by
      subst hkm
      rw [byteN, ← fold_drop, List.getElem?_drop, ← hl, byte_at low (k + more) (by omega)]
      rfl
    have HB := Lib.hid hb
    have hlt2 : km < low.size := by omega
    have hf : decide ((s.size : Int) ≤ (km : Int)) = false := by simp; omega
    clear hb hl hkm
    go_enter Tryz.func91, Tryz.ntmps91
    go_wp2_with fail
    go_quiet (fail)
    go_wp2_with fail
    go_quiet (fail)
    go_wp2_with fail
    go_ret
    exact ⟨by rw [HB.out]; rfl, _, World.drewN_drewN _ _ _⟩
  · have HB := Lib.hid (show byteN (s.data.toList.drop k) more = 0 by
      rw [byteN, ← fold_drop, List.getElem?_drop, List.getElem?_eq_none (by rw [M.fold_len, ← Lib.size_eq]; omega)]
      rfl)
    have hf : decide ((s.size : Int) ≤ (km : Int)) = true := by simp; omega
    clear hl hkm
    go_enter Tryz.func91, Tryz.ntmps91
    go_wp2_with fail
    go_quiet (fail)
    go_wp2_with fail
    go_ret
    exact ⟨by rw [HB.out]; rfl, _, rfl⟩
theorem behindF_no (sub : List UInt8) : ∀ l : List UInt8, (∀ j, Lib.hasPrefix (M.fold (l.drop j)) sub = false) → M.behindF sub l = []
  | [], _ => rfl
  | c :: t, h => by
    rw [M.behindF, if_neg (by have := h 0; rw [List.drop_zero] at this; rw [this]; decide)]
    exact behindF_no sub t (fun j => h (j + 1))
theorem behindF_at (sub : List UInt8) (hs : sub ≠ []) : ∀ (i : Nat) (l : List UInt8), Lib.hasPrefix (M.fold (l.drop i)) sub = true → (∀ j, j < i → Lib.hasPrefix (M.fold (l.drop j)) sub = false) → M.behindF sub l = l.drop (i + sub.length)
  | i, [], h, _ => by
    rw [List.drop_nil] at h
    cases sub with
    | nil => exact absurd rfl hs
    | cons x y => cases h
  | 0, c :: t, h, _ => by
    rw [M.behindF, if_pos (by rw [List.drop_zero] at h; exact h), Nat.zero_add]
  | i + 1, c :: t, h, hno => by
    rw [M.behindF, if_neg (by have := hno 0 (by omega); rw [List.drop_zero] at this; rw [this]; decide), behindF_at sub hs i t h (fun j hj => hno (j + 1) (by omega)), show i + 1 + sub.length = i + sub.length + 1 by omega, List.drop_succ_cons]
theorem to_any (g : Nat) (s low sub : ByteArray) (k more : Nat) (w : World) (h : Lk w g s low k) (hl : Low s low) (hk : k + more ≤ s.size) (hs : s.size ≤ 3000) (hsub : sub.data.toList ≠ []) (hm : more ≤ 9) (hsl : sub.size ≤ 9) (hL : Len w) : Calls Tryz.prog 89 #[.pointer (some ⟨g, 0, none⟩), .string sub, .int .i64 (more : Int)] w fun e w' => e = .returned (.tuple #[]) ∧ (∃ k', k' ≤ s.size ∧ Lk w' g s low k' ∧ s.data.toList.drop k' = M.behindF sub.data.toList (s.data.toList.drop (k + more))) ∧ Bes g w w' := by
  have c0 := Box.cell h 0 _ rfl
  have c1 := Box.cell h 1 _ rfl
  have c2 := Box.cell h 2 _ rfl
  have f2 := Box.frozen h 2
  have hsz := hl.size
  obtain ⟨m, hm2⟩ := hL
  obtain ⟨km, hkm⟩ : ∃ km : Nat, km = k + more := ⟨_, rfl⟩
  rw [← hkm] at hk ⊢
  have hki : (k : Int) + (more : Int) = (km : Int) := by omega
  have hbd : (0 : Int) ≤ (km : Int) ∧ (km : Int) ≤ (low.size : Int) := by omega
  have hw : IntKind.i64.wrap (km : Int) = (km : Int) := by rw [IntKind.wrap_i64]; omega
  have hcall := fun n => Tryz.strings_Index (low.extract km low.size) sub m (w.drewN n) (by rw [drop_size]; omega) hm2
  rw [hl.drop km] at hcall
  rcases index_cases (M.fold (s.data.toList.drop km)) sub.data.toList hsub with ⟨hi, hno⟩ | ⟨i, hil, hi, hyes, hno⟩
  · rw [hi] at hcall
    have HC := Lib.hid hcall
    have HB := Lib.hid (behindF_no sub.data.toList (s.data.toList.drop km) (fun j => by rw [← fold_drop]; exact hno j))
    clear hcall hl hno hi hkm hsz
    go_enter Tryz.func89, Tryz.ntmps89
    go_wp2_with fail
    go_quiet (first | (go_at_call 110; exact Calls.quiet_of_same (HC.out _)))
    go_wp2_with fail
    exact bodyPost_ret (v := .tuple #[]) (by simp [results, Tryz.results89, go_sem]) rfl ⟨rfl, ⟨s.size, Nat.le_refl _, Lk.move (Box.drewN h nq) s.size, by rw [HB.out]; exact List.drop_eq_nil_of_le (by rw [← Lib.size_eq]; exact Nat.le_refl _)⟩, (Bes.of_bel ((Bel.refl w).drewN nq)).setCell 2 _⟩
  · rw [hi] at hcall
    have HC := Lib.hid hcall
    have HB := Lib.hid (behindF_at sub.data.toList hsub i (s.data.toList.drop km) (by rw [← fold_drop]; exact hyes) (fun j hj => by rw [← fold_drop]; exact hno j hj))
    rw [M.fold_len, List.length_drop, ← Lib.size_eq, ← Lib.size_eq] at hil
    clear hcall hl hno hi hyes hkm hsz
    go_enter Tryz.func89, Tryz.ntmps89
    go_wp2_with fail
    go_quiet (first | (go_at_call 110; exact Calls.quiet_of_same (HC.out _)))
    go_wp2_with fail
    go_end0
    rw [show (k : Int) + ((more : Int) + (i : Int) + (sub.size : Int)) = ((km + (i + sub.size) : Nat) : Int) by omega]
    exact ⟨rfl, ⟨km + (i + sub.size), by omega, Lk.move (Box.drewN h nq) _, by rw [HB.out, List.drop_drop, ← Lib.size_eq]⟩, (Bes.of_bel ((Bel.refl w).drewN nq)).setCell 2 _⟩
theorem drop_min (s : ByteArray) (en : Nat) (h : en ≤ s.size) : s.data.toList.drop (min s.size (en + 1)) = (s.data.toList.drop en).drop 1 := by
  rw [List.drop_drop]
  by_cases e : en + 1 ≤ s.size
  · rw [Nat.min_eq_right e]
  · rw [Nat.min_eq_left (by omega), List.drop_eq_nil_of_le (by rw [← Lib.size_eq]; exact Nat.le_refl _), List.drop_eq_nil_of_le (by rw [← Lib.size_eq]; omega)]
theorem tag_any (g : Nat) (s low : ByteArray) (k fr : Nat) (w : World) (h : Lk w g s low k) (hk : fr ≤ s.size) (hs : s.size ≤ 3000) (xs : List (List UInt8 × List UInt8)) (r : List UInt8) (hn : M.attrsA (s.data.toList.drop fr) = (xs, r)) : Calls Tryz.prog 92 #[.pointer (some ⟨g, 0, none⟩), .int .i64 (fr : Int)] w fun e w' => ∃ v, e = .returned v ∧ AttrSl w' v xs ∧ (∃ k', k' ≤ s.size ∧ Lk w' g s low k' ∧ s.data.toList.drop k' = r.drop 1) ∧ Bes g w w' := by
  have c0 := Box.cell h 0 _ rfl
  have hgl := Box.lt h
  have hsuf := (M.attrsA_suf _ (s.data.toList.drop fr) (Nat.le_refl _)).1
  rw [hn] at hsuf
  have hd := M.Suf.at (M.Suf.trans (a := r) hsuf (M.Suf.drop s.data.toList fr))
  rw [← Lib.size_eq] at hd
  have hrl : r.length ≤ s.size := by
    have := hsuf.len
    rw [List.length_drop, ← Lib.size_eq] at this
    have h9 : r.length ≤ s.size - fr := this
    omega
  have ff := from_any s fr hk hs xs r hn
  obtain ⟨en, hen⟩ : ∃ en : Nat, en = s.size - r.length := ⟨_, rfl⟩
  rw [← hen] at ff hd
  have HF := Lib.hid ff
  have HD := Lib.hid hd
  have henl : en ≤ s.size := by omega
  clear ff hd hsuf hn hen
  go_enter Tryz.func92, Tryz.ntmps92
  go_wp2_with fail
  refine (HF.out _).mono ?_
  rintro e w1 ⟨v, rfl, hown, b1⟩
  have h1 := h.bel b1
  have c0 := Box.cell h1 0 _ rfl
  have c2 := Box.cell h1 2 _ rfl
  have f2 := Box.frozen h1 2
  go_wp2_with fail
  rw [show min (s.size : Int) ((en : Int) + 1) = ((min s.size (en + 1) : Nat) : Int) by omega]
  go_ret
  exact ⟨v, rfl, OwnA.sl (B := w.heap.size) (hown.keep (fun kk hkk => Below.heap_setCell w1 _ _ kk (by have := (hown.lt kk hkk).1; show kk ≠ g; omega))), ⟨min s.size (en + 1), Nat.min_le_left _ _, h1.move _, by rw [drop_min s en henl, HD.out]⟩, (Bes.of_bel b1).setCell 2 _⟩
end Go.Proofs.YtcgdecpjlggekaaGreatDoor

/-
  Package scan: letter, named.
-/
namespace Go.Proofs.YtcgdecpjlggekaaGreatDoor
open Go.RowKit
set_option maxRecDepth 1000000
set_option maxHeartbeats 1000000

theorem letter_int (c : UInt8) : M.letterB c = (decide (97 ≤ (c.toNat : Int)) && decide ((c.toNat : Int) ≤ 122)) := by
  unfold M.letterB
  rw [Bool.eq_iff_iff]
  simp only [decide_eq_true_eq, Bool.and_eq_true]
  omega
theorem letter_to (c : UInt8) (b : Bool) (h : M.letterB c = b) (w : World) : Calls Tryz.prog 107 #[.int .u8 (c.toNat : Int)] w fun e w' => e = .returned (.bool b) ∧ w' = w := by
  rw [letter_int] at h
  have H := Lib.hid h
  clear h
  go_enter Tryz.func107, Tryz.ntmps107
  go_wp2
  · rename_i h9
    go_ret
    exact ⟨by rw [← H.out, decide_eq_true h9]; rfl, rfl⟩
  · rename_i h9
    go_ret
    exact ⟨by rw [← H.out, decide_eq_false (by omega)]; rfl, rfl⟩
/-- A rune that ends a name. -/
def endP (r : Nat) : Bool := if r < 128 then M.endB (UInt8.ofNat r) else false
theorem endP_byte (b : UInt8) (h : b.toNat < 128) : endP b.toNat = M.endB b := by
  rw [endP, if_pos h, UInt8.ofNat_toNat]
theorem endB_low (b : UInt8) (h : 128 ≤ b.toNat) : M.endB b = false := by
  unfold M.endB
  rw [Bool.or_eq_false_iff]
  constructor
  · rw [M.white_nat, decide_eq_false_iff_not]; omega
  · rw [decide_eq_false_iff_not]; rintro rfl; exact absurd h (by decide)
theorem named1_any (r : Nat) (hr : r ≤ 1114111) (w : World) : Calls Tryz.prog 109 #[.int .i32 (r : Int)] w fun e w' => e = .returned (.bool (endP r)) ∧ w' = w := by
  by_cases h128 : r < 128
  · obtain ⟨c, hc⟩ : ∃ c : UInt8, c.toNat = r := ⟨UInt8.ofNat r, by rw [UInt8.toNat_ofNat']; omega⟩
    subst hc
    have HP := Lib.hid (show endP c.toNat = (((c.toNat : Int) == 62) || M.white c) by
      rw [endP_byte c h128, M.endB, Bool.or_comm]
      congr 1
      rw [Bool.eq_iff_iff]
      simp only [decide_eq_true_eq, beq_iff_eq]
      rw [← UInt8.toNat_inj]
      show c.toNat = 62 ↔ _
      omega)
    obtain ⟨b, hb⟩ : ∃ b, M.white c = b := ⟨_, rfl⟩
    have HW := Lib.hid hb
    rw [hb] at HP
    clear hb
    have hl : decide ((c.toNat : Int) < 128) = true := by simp; omega
    go_enter Tryz.func109, Tryz.ntmps109
    go_wp2_with (go_at_call 90; refine (white_to c b HW.out _).mono ?_; rintro e w' ⟨rfl, rfl⟩)
    · rename_i h9
      go_ret
      exact ⟨by rw [HP.out, show ((c.toNat : Int) == 62) = true by simp [h9]]; rfl, rfl⟩
    · go_ret
      exact ⟨by rw [HP.out]; rfl, rfl⟩
  · have HP := Lib.hid (show endP r = false by rw [endP, if_neg h128])
    have h1 : ((r : Int) == 62) = false := by simp; omega
    have h2 : decide ((r : Int) < 128) = false := by simp; omega
    go_enter Tryz.func109, Tryz.ntmps109
    go_wp2
    go_ret
    exact ⟨by rw [HP.out]; rfl, rfl⟩
/-- Does the name of a tag begin here? -/
def nameQ (l : List UInt8) : Bool := ((byteN l 0).toNat == 60) && M.letterB (byteN l (if (byteN l 1).toNat = 47 then 2 else 1))
theorem fold1_47 (c : UInt8) : (M.fold1 c).toNat = 47 ↔ c = 47 := by
  rw [← UInt8.toNat_inj, M.fold1_nat]
  show _ ↔ c.toNat = 47
  split <;> omega
theorem fold1_60 (c : UInt8) : (M.fold1 c).toNat = 60 ↔ c = 60 := by
  rw [← UInt8.toNat_inj, M.fold1_nat]
  show _ ↔ c.toNat = 60
  split <;> omega
theorem nameEnd_eq (l : List UInt8) : M.nameEnd l = if nameQ l = true then some (l.dropWhile (fun c => !M.endB c)) else none := by
  match l with
  | [] => rfl
  | [c] =>
    have : nameQ [c] = false := by
      have h1 : byteN [c] 1 = 0 := rfl
      rw [nameQ, if_neg (by rw [h1]; decide), h1, show M.letterB 0 = false by decide, Bool.and_false]
    rw [this]; rfl
  | c :: d :: t =>
    have e0 : byteN (c :: d :: t) 0 = M.fold1 c := rfl
    have e1 : byteN (c :: d :: t) 1 = M.fold1 d := rfl
    have e2 : byteN (c :: d :: t) 2 = (t.head?.map M.fold1).getD 0 := by cases t <;> rfl
    have key : (c = 60 ∧ (M.letterB (M.fold1 d) = true ∨ (d = 47 ∧ ∃ x, t.head? = some x ∧ M.letterB (M.fold1 x) = true))) ↔ nameQ (c :: d :: t) = true := by
      rw [nameQ, e0, Bool.and_eq_true, beq_iff_eq, fold1_60, e1]
      refine and_congr_right fun _ => ?_
      by_cases h47 : d = 47
      · subst h47
        rw [if_pos (by decide), e2, show M.letterB (M.fold1 47) = false by decide]
        cases t with
        | nil => simp [show M.letterB 0 = false by decide]
        | cons x y => simp
      · rw [if_neg (by rw [fold1_47]; exact h47), e1]
        simp [h47]
    rw [M.nameEnd]
    by_cases hc : (c = 60 ∧ (M.letterB (M.fold1 d) = true ∨ (d = 47 ∧ ∃ x, t.head? = some x ∧ M.letterB (M.fold1 x) = true)))
    · rw [if_pos hc, if_pos (key.1 hc)]
    · rw [if_neg hc, if_neg (fun h9 => hc (key.2 h9))]
def endOf (s : ByteArray) : Option (List UInt8) → Int
  | some e => ((s.size - e.length : Nat) : Int)
  | none => 0
theorem pred_end (W : World) : PredAtRunes Tryz.prog 109 #[] endP W := fun W' x hx _ => (named1_any x hx W').mono (fun _ _ h => ⟨h.1, 0, h.2⟩)
theorem ix_any (s : ByteArray) (k : Nat) (r : Int) (h : Lib.idxFunc endP true (s.extract k s.size) = r) (W : World) : Calls Tryz.prog 108 #[.string (s.extract k s.size), .func (.func 109) #[] #[]] W fun e w' => e = .returned (.int .i64 r) ∧ Bel W w' := by
  subst h
  exact Tryz.strings_IndexFunc_runes 109 #[] (enters_of Tryz.func109 (by kernel_rfl) rfl) endP (s.extract k s.size) W (pred_end W)
theorem ix_end (s : ByteArray) (k : Nat) : Lib.idxFunc endP true (s.extract k s.size) = M.firstB M.endB 0 (s.data.toList.drop k) := by
  have h := M.idx_byte endP M.endB endP_byte (fun r hr => by rw [endP, if_neg (by omega)]) endB_low (s.extract k s.size) (s.extract k s.size).size 0 (Nat.zero_le _) (Nat.le_refl _)
  rw [drop_str, List.drop_zero] at h
  exact h
theorem first_end (s : ByteArray) (k : Nat) (hk : k ≤ s.size) : (M.firstB M.endB 0 (s.data.toList.drop k) = -1 ∧ endOf s (some ((s.data.toList.drop k).dropWhile (fun c => !M.endB c))) = (s.size : Int)) ∨ ∃ n : Nat, M.firstB M.endB 0 (s.data.toList.drop k) = (n : Int) ∧ endOf s (some ((s.data.toList.drop k).dropWhile (fun c => !M.endB c))) = ((k + n : Nat) : Int) ∧ k + n ≤ s.size := by
  have hl := congrArg List.length (List.takeWhile_append_dropWhile (p := fun c => !M.endB c) (l := s.data.toList.drop k))
  rw [List.length_append, List.length_drop, ← Lib.size_eq] at hl
  unfold M.firstB endOf
  by_cases hd : (s.data.toList.drop k).dropWhile (fun c => !M.endB c) = []
  · left
    rw [if_pos hd, hd]
    exact ⟨rfl, by simp⟩
  · right
    rw [if_neg hd, Nat.zero_add]
    exact ⟨_, rfl, by simp only; omega, by omega⟩
theorem named_any (g : Nat) (s low : ByteArray) (k : Nat) (w : World) (h : Lk w g s low k) (hl : Low s low) (hk : k ≤ s.size) (hs : s.size ≤ 3000) (o : Option (List UInt8)) (ho : M.nameEnd (s.data.toList.drop k) = o) : Calls Tryz.prog 87 #[.pointer (some ⟨g, 0, none⟩)] w fun e w' => e = .returned (.tuple #[.int .i64 (endOf s o), .bool o.isSome]) ∧ Bel w w' := by
  rw [nameEnd_eq, nameQ] at ho
  obtain ⟨c0, hc0⟩ : ∃ c, byteN (s.data.toList.drop k) 0 = c := ⟨_, rfl⟩
  have B0 : ∀ W, Lk W g s low k → Calls Tryz.prog 91 #[.pointer (some ⟨g, 0, none⟩), .int .i64 0] W fun e w' => e = .returned (.int .u8 (c0.toNat : Int)) ∧ ∃ m, w' = W.drewN m := fun W hW => by
    have := byteAt_any g s low k 0 W hW hl hk hs (by decide)
    rw [hc0] at this
    exact this
  obtain ⟨c1, hc1⟩ : ∃ c, byteN (s.data.toList.drop k) 1 = c := ⟨_, rfl⟩
  have B1 : ∀ W, Lk W g s low k → Calls Tryz.prog 91 #[.pointer (some ⟨g, 0, none⟩), .int .i64 1] W fun e w' => e = .returned (.int .u8 (c1.toNat : Int)) ∧ ∃ m, w' = W.drewN m := fun W hW => by
    have := byteAt_any g s low k 1 W hW hl hk hs (by decide)
    rw [hc1] at this
    exact this
  obtain ⟨c2, hc2⟩ : ∃ c, byteN (s.data.toList.drop k) 2 = c := ⟨_, rfl⟩
  have B2 : ∀ W, Lk W g s low k → Calls Tryz.prog 91 #[.pointer (some ⟨g, 0, none⟩), .int .i64 2] W fun e w' => e = .returned (.int .u8 (c2.toNat : Int)) ∧ ∃ m, w' = W.drewN m := fun W hW => by
    have := byteAt_any g s low k 2 W hW hl hk hs (by decide)
    rw [hc2] at this
    exact this
  rw [hc0, hc1] at ho
  cases h60 : ((c0.toNat : Int) != 60) with
  | true =>
    have HO := Lib.hid (show o = none by rw [← ho, if_neg (by simp at h60; simp; omega)])
    cases h47 : ((c1.toNat : Int) == 47) with
    | true =>
      clear ho hc0 hc1 hc2
      go_enter Tryz.func87, Tryz.ntmps87
      go_wp2_with fail
      refine (B1 _ h).mono ?_
      rintro e W1 ⟨rfl, m1, rfl⟩
      have h1 := Box.drewN h m1
      have hb1 : Bel w (w.drewN m1) := (Bel.refl w).drewN m1
      generalize w.drewN m1 = W1 at *
      go_wp2_with fail
      refine (B0 _ h1).mono ?_
      rintro e W2 ⟨rfl, m2, rfl⟩
      have h2 := Box.drewN h1 m2
      have hb2 : Bel w (W1.drewN m2) := hb1.drewN m2
      generalize W1.drewN m2 = W2 at *
      go_wp2_with fail
      go_ret2
      exact ⟨by rw [HO.out]; rfl, hb2⟩
    | false =>
      clear ho hc0 hc1 hc2
      go_enter Tryz.func87, Tryz.ntmps87
      go_wp2_with fail
      refine (B1 _ h).mono ?_
      rintro e W1 ⟨rfl, m1, rfl⟩
      have h1 := Box.drewN h m1
      have hb1 : Bel w (w.drewN m1) := (Bel.refl w).drewN m1
      generalize w.drewN m1 = W1 at *
      go_wp2_with fail
      refine (B0 _ h1).mono ?_
      rintro e W2 ⟨rfl, m2, rfl⟩
      have h2 := Box.drewN h1 m2
      have hb2 : Bel w (W1.drewN m2) := hb1.drewN m2
      generalize W1.drewN m2 = W2 at *
      go_wp2_with fail
      go_ret2
      exact ⟨by rw [HO.out]; rfl, hb2⟩
  | false =>
    have e60 : (c0.toNat == 60) = true := by simp at h60; simp; omega
    rw [e60, Bool.true_and] at ho
    clear e60
    have hix := ix_end s k
    have hir := first_end s k hk
    cases h47 : ((c1.toNat : Int) == 47) with
    | true =>
      have e47 : c1.toNat = 47 := by simp at h47; omega
      rw [if_pos e47, hc2] at ho
      clear e47
      cases hb : M.letterB c2 with
      | false =>
        have HB := Lib.hid hb
        have HO := Lib.hid (show o = none by rw [← ho, hb]; rfl)
        clear ho hc0 hc1 hc2 hb hix hir
        skip
        go_enter Tryz.func87, Tryz.ntmps87
        go_wp2_with fail
        refine (B1 _ h).mono ?_
        rintro e W1 ⟨rfl, m1, rfl⟩
        have h1 := Box.drewN h m1
        have hb1 : Bel w (w.drewN m1) := (Bel.refl w).drewN m1
        generalize w.drewN m1 = W1 at *
        go_wp2_with fail
        refine (B0 _ h1).mono ?_
        rintro e W2 ⟨rfl, m2, rfl⟩
        have h2 := Box.drewN h1 m2
        have hb2 : Bel w (W1.drewN m2) := hb1.drewN m2
        generalize W1.drewN m2 = W2 at *
        go_wp2_with fail
        refine (B2 _ h2).mono ?_
        rintro e W3 ⟨rfl, m3, rfl⟩
        have h3 := Box.drewN h2 m3
        have hb3 : Bel w (W2.drewN m3) := hb2.drewN m3
        generalize W2.drewN m3 = W3 at *
        go_wp2_with fail
        refine (letter_to c2 _ HB.out _).mono ?_
        rintro e W4 ⟨rfl, rfl⟩
        have c0 := Box.cell h3 0 _ rfl
        have c2 := Box.cell h3 2 _ rfl
        clear h1 h2
        go_wp2_with fail
        go_ret2
        exact ⟨by rw [HO.out]; rfl, hb3⟩
      | true =>
        have HB := Lib.hid hb
        have HO := Lib.hid (show o = some ((s.data.toList.drop k).dropWhile (fun c => !M.endB c)) by rw [← ho, hb]; rfl)
        clear ho hc0 hc1 hc2 hb
        rcases hir with ⟨hr, he⟩ | ⟨n, hr, he, hkn⟩
        · rw [hr] at hix
          have HX := Lib.hid hix
          have HE := Lib.hid he
          clear hix hr he
          skip
          go_enter Tryz.func87, Tryz.ntmps87
          go_wp2_with fail
          refine (B1 _ h).mono ?_
          rintro e W1 ⟨rfl, m1, rfl⟩
          have h1 := Box.drewN h m1
          have hb1 : Bel w (w.drewN m1) := (Bel.refl w).drewN m1
          generalize w.drewN m1 = W1 at *
          go_wp2_with fail
          refine (B0 _ h1).mono ?_
          rintro e W2 ⟨rfl, m2, rfl⟩
          have h2 := Box.drewN h1 m2
          have hb2 : Bel w (W1.drewN m2) := hb1.drewN m2
          generalize W1.drewN m2 = W2 at *
          go_wp2_with fail
          refine (B2 _ h2).mono ?_
          rintro e W3 ⟨rfl, m3, rfl⟩
          have h3 := Box.drewN h2 m3
          have hb3 : Bel w (W2.drewN m3) := hb2.drewN m3
          generalize W2.drewN m3 = W3 at *
          go_wp2_with fail
          refine (letter_to c2 _ HB.out _).mono ?_
          rintro e W4 ⟨rfl, rfl⟩
          have c0 := Box.cell h3 0 _ rfl
          have c2 := Box.cell h3 2 _ rfl
          clear h1 h2
          go_wp2_with fail
          go_region_with ((go_at_call 108; refine (ix_any s k _ HX.out _).mono ?_; rintro e W5 ⟨rfl, b5⟩))
          all_goals (
            have hb5 := (Bel.drew hb3).trans b5
            have h5 := Box.bel h3 ((Bel.drew (Bel.refl W4)).trans b5)
            have e0 := Box.cell h5 0 _ rfl
            have e2 := Box.cell h5 2 _ rfl
            go_wp2_with fail
            go_ret2
            exact ⟨by rw [HO.out, HE.out]; rfl, hb5⟩)
        · rw [hr] at hix
          have HX := Lib.hid hix
          have HE := Lib.hid he
          clear hix hr he
          skip
          go_enter Tryz.func87, Tryz.ntmps87
          go_wp2_with fail
          refine (B1 _ h).mono ?_
          rintro e W1 ⟨rfl, m1, rfl⟩
          have h1 := Box.drewN h m1
          have hb1 : Bel w (w.drewN m1) := (Bel.refl w).drewN m1
          generalize w.drewN m1 = W1 at *
          go_wp2_with fail
          refine (B0 _ h1).mono ?_
          rintro e W2 ⟨rfl, m2, rfl⟩
          have h2 := Box.drewN h1 m2
          have hb2 : Bel w (W1.drewN m2) := hb1.drewN m2
          generalize W1.drewN m2 = W2 at *
          go_wp2_with fail
          refine (B2 _ h2).mono ?_
          rintro e W3 ⟨rfl, m3, rfl⟩
          have h3 := Box.drewN h2 m3
          have hb3 : Bel w (W2.drewN m3) := hb2.drewN m3
          generalize W2.drewN m3 = W3 at *
          go_wp2_with fail
          refine (letter_to c2 _ HB.out _).mono ?_
          rintro e W4 ⟨rfl, rfl⟩
          have c0 := Box.cell h3 0 _ rfl
          have c2 := Box.cell h3 2 _ rfl
          clear h1 h2
          go_wp2_with fail
          go_region_with ((go_at_call 108; refine (ix_any s k _ HX.out _).mono ?_; rintro e W5 ⟨rfl, b5⟩))
          all_goals (
            have hb5 := (Bel.drew hb3).trans b5
            have h5 := Box.bel h3 ((Bel.drew (Bel.refl W4)).trans b5)
            have e0 := Box.cell h5 0 _ rfl
            have e2 := Box.cell h5 2 _ rfl
            go_wp2_with fail
            go_ret2
            exact ⟨by rw [HO.out, HE.out]; rfl, hb5⟩)
    | false =>
      have e47 : ¬ c1.toNat = 47 := by simp at h47; omega
      rw [if_neg e47, hc1] at ho
      clear e47
      cases hb : M.letterB c1 with
      | false =>
        have HB := Lib.hid hb
        have HO := Lib.hid (show o = none by rw [← ho, hb]; rfl)
        clear ho hc0 hc1 hc2 hb hix hir
        skip
        go_enter Tryz.func87, Tryz.ntmps87
        go_wp2_with fail
        refine (B1 _ h).mono ?_
        rintro e W1 ⟨rfl, m1, rfl⟩
        have h1 := Box.drewN h m1
        have hb1 : Bel w (w.drewN m1) := (Bel.refl w).drewN m1
        generalize w.drewN m1 = W1 at *
        go_wp2_with fail
        refine (B0 _ h1).mono ?_
        rintro e W2 ⟨rfl, m2, rfl⟩
        have h2 := Box.drewN h1 m2
        have hb2 : Bel w (W1.drewN m2) := hb1.drewN m2
        generalize W1.drewN m2 = W2 at *
        go_wp2_with fail
        refine (B1 _ h2).mono ?_
        rintro e W3 ⟨rfl, m3, rfl⟩
        have h3 := Box.drewN h2 m3
        have hb3 : Bel w (W2.drewN m3) := hb2.drewN m3
        generalize W2.drewN m3 = W3 at *
        go_wp2_with fail
        refine (letter_to c1 _ HB.out _).mono ?_
        rintro e W4 ⟨rfl, rfl⟩
        have c0 := Box.cell h3 0 _ rfl
        have c2 := Box.cell h3 2 _ rfl
        clear h1 h2
        go_wp2_with fail
        go_ret2
        exact ⟨by rw [HO.out]; rfl, hb3⟩
      | true =>
        have HB := Lib.hid hb
        have HO := Lib.hid (show o = some ((s.data.toList.drop k).dropWhile (fun c => !M.endB c)) by rw [← ho, hb]; rfl)
        clear ho hc0 hc1 hc2 hb
        rcases hir with ⟨hr, he⟩ | ⟨n, hr, he, hkn⟩
        · rw [hr] at hix
          have HX := Lib.hid hix
          have HE := Lib.hid he
          clear hix hr he
          skip
          go_enter Tryz.func87, Tryz.ntmps87
          go_wp2_with fail
          refine (B1 _ h).mono ?_
          rintro e W1 ⟨rfl, m1, rfl⟩
          have h1 := Box.drewN h m1
          have hb1 : Bel w (w.drewN m1) := (Bel.refl w).drewN m1
          generalize w.drewN m1 = W1 at *
          go_wp2_with fail
          refine (B0 _ h1).mono ?_
          rintro e W2 ⟨rfl, m2, rfl⟩
          have h2 := Box.drewN h1 m2
          have hb2 : Bel w (W1.drewN m2) := hb1.drewN m2
          generalize W1.drewN m2 = W2 at *
          go_wp2_with fail
          refine (B1 _ h2).mono ?_
          rintro e W3 ⟨rfl, m3, rfl⟩
          have h3 := Box.drewN h2 m3
          have hb3 : Bel w (W2.drewN m3) := hb2.drewN m3
          generalize W2.drewN m3 = W3 at *
          go_wp2_with fail
          refine (letter_to c1 _ HB.out _).mono ?_
          rintro e W4 ⟨rfl, rfl⟩
          have c0 := Box.cell h3 0 _ rfl
          have c2 := Box.cell h3 2 _ rfl
          clear h1 h2
          go_wp2_with fail
          go_region_with ((go_at_call 108; refine (ix_any s k _ HX.out _).mono ?_; rintro e W5 ⟨rfl, b5⟩))
          all_goals (
            have hb5 := (Bel.drew hb3).trans b5
            have h5 := Box.bel h3 ((Bel.drew (Bel.refl W4)).trans b5)
            have e0 := Box.cell h5 0 _ rfl
            have e2 := Box.cell h5 2 _ rfl
            go_wp2_with fail
            go_ret2
            exact ⟨by rw [HO.out, HE.out]; rfl, hb5⟩)
        · rw [hr] at hix
          have HX := Lib.hid hix
          have HE := Lib.hid he
          clear hix hr he
          skip
          go_enter Tryz.func87, Tryz.ntmps87
          go_wp2_with fail
          refine (B1 _ h).mono ?_
          rintro e W1 ⟨rfl, m1, rfl⟩
          have h1 := Box.drewN h m1
          have hb1 : Bel w (w.drewN m1) := (Bel.refl w).drewN m1
          generalize w.drewN m1 = W1 at *
          go_wp2_with fail
          refine (B0 _ h1).mono ?_
          rintro e W2 ⟨rfl, m2, rfl⟩
          have h2 := Box.drewN h1 m2
          have hb2 : Bel w (W1.drewN m2) := hb1.drewN m2
          generalize W1.drewN m2 = W2 at *
          go_wp2_with fail
          refine (B1 _ h2).mono ?_
          rintro e W3 ⟨rfl, m3, rfl⟩
          have h3 := Box.drewN h2 m3
          have hb3 : Bel w (W2.drewN m3) := hb2.drewN m3
          generalize W2.drewN m3 = W3 at *
          go_wp2_with fail
          refine (letter_to c1 _ HB.out _).mono ?_
          rintro e W4 ⟨rfl, rfl⟩
          have c0 := Box.cell h3 0 _ rfl
          have c2 := Box.cell h3 2 _ rfl
          clear h1 h2
          go_wp2_with fail
          go_region_with ((go_at_call 108; refine (ix_any s k _ HX.out _).mono ?_; rintro e W5 ⟨rfl, b5⟩))
          all_goals (
            have hb5 := (Bel.drew hb3).trans b5
            have h5 := Box.bel h3 ((Bel.drew (Bel.refl W4)).trans b5)
            have e0 := Box.cell h5 0 _ rfl
            have e2 := Box.cell h5 2 _ rfl
            go_wp2_with fail
            go_ret2
            exact ⟨by rw [HO.out, HE.out]; rfl, hb5⟩)
end Go.Proofs.YtcgdecpjlggekaaGreatDoor

/-
  What a scan needs of attributes and of first bytes, in plain laws.
-/
namespace Go.Proofs.YtcgdecpjlggekaaGreatDoor.M
open Go

theorem quotedA_val (q : UInt8) (t v : Bs) (h : (quotedA q t).1 = some v) : v.length ≤ t.length := by
  unfold quotedA at h
  split at h
  · cases h
  · injection h with h
    subst h
    exact (List.takeWhile_prefix (fun c => c != q) (l := t)).length_le
theorem valueA_val (l v : Bs) (h : (valueA l).1 = some v) : v.length ≤ l.length := by
  have h0 := (suf_dropWhile white l).len
  unfold valueA at h
  split at h
  · injection h with h
    subst h
    exact Nat.zero_le _
  · rename_i q t ht
    rw [ht, List.length_cons] at h0
    split at h
    · have := quotedA_val q t v h
      omega
    · injection h with h
      subst h
      have := (List.takeWhile_prefix valB (l := q :: t)).length_le
      rw [List.length_cons] at this
      omega
theorem nextA_val (l : Bs) (p : Bs × Bs) (r : Bs) (h : nextA l = (some p, r)) : p.2.length ≤ l.length := by
  have h0 := (suf_dropWhile skipB l).len
  unfold nextA at h
  split at h
  · cases h
  · rename_i c t hc
    rw [hc, List.length_cons] at h0
    split at h
    · cases h
    · have h2 := (suf_dropWhile white (t.dropWhile nameB)).len
      have h3 := (suf_dropWhile nameB t).len
      unfold afterA at h
      split at h
      · injection h with h _
        injection h with h
        subst h
        exact Nat.zero_le _
      · rename_i e u he
        rw [he, List.length_cons] at h2
        split at h
        · injection h with h _
          cases hv : (valueA u).1 with
          | none => rw [hv] at h; cases h
          | some v =>
            rw [hv] at h
            injection h with h
            subst h
            have := valueA_val u v hv
            show (fold v).length ≤ _
            rw [fold_len]
            omega
        · injection h with h _
          injection h with h
          subst h
          exact Nat.zero_le _
theorem attrsA_val : ∀ (k : Nat) (l : Bs), l.length ≤ k → ∀ p ∈ (attrsA l).1, p.2.length ≤ l.length
  | k, l, h => by
    cases hn : nextA l with
    | mk o r =>
      cases o with
      | none => rw [attrsA_none l r hn]; intro p hp; cases hp
      | some a =>
        have hl := nextA_less l a (by rw [hn])
        rw [hn] at hl
        simp only at hl
        match k, h with
        | 0, h => omega
        | k + 1, h =>
          have ih := attrsA_val k r (by omega)
          rw [attrsA_some l a r hn]
          intro p hp
          rcases List.mem_cons.1 hp with rfl | hp
          · exact nextA_val l _ r hn
          · have := ih p hp; omega
theorem fold1_eq (x : UInt8) (hx : x.toNat < 65 ∨ (90 < x.toNat ∧ x.toNat < 97)) (c : UInt8) : fold1 c = x ↔ c = x := by
  rw [← UInt8.toNat_inj, ← UInt8.toNat_inj, fold1_nat]
  split <;> omega
theorem pre2_fold (x : UInt8) (hx : x.toNat < 65 ∨ (90 < x.toNat ∧ x.toNat < 97)) (l : Bs) : Lib.hasPrefix (fold l) [60, x] = Lib.hasPrefix l [60, x] := by
  have e1 := fold1_eq 60 (.inl (by decide))
  have e2 := fold1_eq x hx
  match l with
  | [] => rfl
  | [c] =>
    show ((60 == fold1 c) && false) = ((60 == c) && false)
    rw [Bool.and_false, Bool.and_false]
  | c :: d :: t =>
    show ((60 == fold1 c) && ((x == fold1 d) && true)) = ((60 == c) && ((x == d) && true))
    have a1 : (60 == fold1 c) = (60 == c) := by rw [Bool.eq_iff_iff, beq_iff_eq, beq_iff_eq]; exact ⟨fun h => ((e1 c).1 h.symm).symm, fun h => ((e1 c).2 h.symm).symm⟩
    have a2 : (x == fold1 d) = (x == d) := by rw [Bool.eq_iff_iff, beq_iff_eq, beq_iff_eq]; exact ⟨fun h => ((e2 d).1 h.symm).symm, fun h => ((e2 d).2 h.symm).symm⟩
    rw [a1, a2]
theorem nameEnd_suf (l e : Bs) (h : nameEnd l = some e) : Suf e l := by
  unfold nameEnd at h
  split at h
  · split at h
    · injection h with h
      subst h
      exact suf_dropWhile _ _
    · cases h
  · cases h
end Go.Proofs.YtcgdecpjlggekaaGreatDoor.M

/-
  Package scan: the looker's step.
-/
namespace Go.Proofs.YtcgdecpjlggekaaGreatDoor
open Go.RowKit
set_option maxRecDepth 1000000
set_option maxHeartbeats 4000000

theorem pre_roomS (l sub : List UInt8) (h : Lib.hasPrefix (M.fold l) sub = true) (hs : sub ≠ []) : sub.length ≤ l.length := by
  have h1 : Lib.occAt (M.fold l) sub 0 = true := h
  rcases Lib.occAt_room h1 with h2 | h2
  · rw [M.fold_len] at h2
    omega
  · exact absurd h2 hs
theorem byteN_slash (l : List UInt8) : M.slashW (l.drop 5) = (M.white (byteN l 5) || (((byteN l 5).toNat : Int) == 47)) := by
  have e : byteN l 5 = (((l.drop 5).head?).map M.fold1).getD 0 := by
    unfold byteN M.fold
    rw [List.head?_drop, List.getElem?_map]
  rw [e]
  cases l.drop 5 with
  | nil => decide
  | cons c t =>
    show M.skipB c = (M.white (M.fold1 c) || (((M.fold1 c).toNat : Int) == 47))
    have hw : M.white (M.fold1 c) = M.white c := by
      rw [M.white_nat, M.white_nat, Bool.eq_iff_iff, decide_eq_true_eq, decide_eq_true_eq, M.fold1_nat]
      split <;> omega
    rw [hw, M.skipB]
    congr 1
    rw [Bool.eq_iff_iff, decide_eq_true_eq, beq_iff_eq, ← fold1_47]
    omega
theorem Len.bes {g : Nat} {w w' : World} {s low : ByteArray} {k : Nat} (hL : Len w) (h : Lk w g s low k) (hb : Bes g w w') : Len w' := by
  obtain ⟨m, hm⟩ := hL
  have hg : 0 ≠ g := by
    rintro rfl
    have := Box.cell h 0 _ rfl
    rw [hm] at this
    cases this
  refine ⟨m, ?_⟩
  have hlt := World.block_lt_of_cell? w _ hm
  have hblk := hb.block _ hlt hg
  unfold World.cell? at hm ⊢
  rw [hblk]
  exact hm
theorem step_any (g : Nat) (s low : ByteArray) (k : Nat) (w : World) (h : Lk w g s low k) (hl : Low s low) (hk : k ≤ s.size) (hlt : k < s.size) (hs : s.size ≤ 3000) (hL : Len w) (n : Int) (t : List UInt8) (hst : M.stepS (s.data.toList.drop k) = (n, t)) : Calls Tryz.prog 75 #[.pointer (some ⟨g, 0, none⟩)] w fun e w' => e = .returned (.int .i64 n) ∧ (∃ k', k' ≤ s.size ∧ Lk w' g s low k' ∧ s.data.toList.drop k' = t) ∧ Bes g w w' := by
  have h0 := h
  obtain ⟨o, ho⟩ : ∃ o, M.nameEnd (s.data.toList.drop k) = o := ⟨_, rfl⟩
  have NM := Lib.hid (fun W hW => named_any g s low k W hW hl hk hs o ho)
  obtain ⟨c5, hc5⟩ : ∃ c, byteN (s.data.toList.drop k) 5 = c := ⟨_, rfl⟩
  have B5 : ∀ W, Lk W g s low k → Calls Tryz.prog 91 #[.pointer (some ⟨g, 0, none⟩), .int .i64 5] W fun e w' => e = .returned (.int .u8 (c5.toNat : Int)) ∧ ∃ m, w' = W.drewN m := fun W hW => by
    have := byteAt_any g s low k 5 W hW hl hk hs (by decide)
    rw [hc5] at this
    exact this
  have G5 := Lib.hid B5
  obtain ⟨b1, hb1⟩ : ∃ b, Lib.hasPrefix (M.fold (s.data.toList.drop k)) M.openS = b := ⟨_, rfl⟩
  have B1 := fun W hW => begins_any g s low ⟨#[60, 33, 45, 45]⟩ k W hW hl hk
  rw [show (⟨#[60, 33, 45, 45]⟩ : ByteArray).data.toList = M.openS from rfl, hb1] at B1
  have G1 := Lib.hid B1
  obtain ⟨b2, hb2⟩ : ∃ b, Lib.hasPrefix (M.fold (s.data.toList.drop k)) M.metaS = b := ⟨_, rfl⟩
  have B2 := fun W hW => begins_any g s low ⟨#[60, 109, 101, 116, 97]⟩ k W hW hl hk
  rw [show (⟨#[60, 109, 101, 116, 97]⟩ : ByteArray).data.toList = M.metaS from rfl, hb2] at B2
  have G2 := Lib.hid B2
  obtain ⟨b3, hb3⟩ : ∃ b, Lib.hasPrefix (M.fold (s.data.toList.drop k)) [60, 33] = b := ⟨_, rfl⟩
  have B3 := fun W hW => begins_any g s low ⟨#[60, 33]⟩ k W hW hl hk
  rw [show (⟨#[60, 33]⟩ : ByteArray).data.toList = [60, 33] from rfl, hb3] at B3
  have G3 := Lib.hid B3
  obtain ⟨b4, hb4⟩ : ∃ b, Lib.hasPrefix (M.fold (s.data.toList.drop k)) [60, 47] = b := ⟨_, rfl⟩
  have B4 := fun W hW => begins_any g s low ⟨#[60, 47]⟩ k W hW hl hk
  rw [show (⟨#[60, 47]⟩ : ByteArray).data.toList = [60, 47] from rfl, hb4] at B4
  have G4 := Lib.hid B4
  obtain ⟨b6, hb6⟩ : ∃ b, Lib.hasPrefix (M.fold (s.data.toList.drop k)) [60, 63] = b := ⟨_, rfl⟩
  have B6 := fun W hW => begins_any g s low ⟨#[60, 63]⟩ k W hW hl hk
  rw [show (⟨#[60, 63]⟩ : ByteArray).data.toList = [60, 63] from rfl, hb6] at B6
  have G6 := Lib.hid B6
  rw [M.pre2_fold _ (by decide)] at hb3 hb4 hb6
  have HST := Lib.hid hst
  unfold M.stepS at hst
  rw [byteN_slash, hc5, ho, hb1, hb2, hb3, hb4, hb6] at hst
  have hroom1 := pre_roomS (s.data.toList.drop k) M.openS
  rw [hb1, List.length_drop, ← Lib.size_eq, show M.openS.length = 4 from rfl] at hroom1
  have hroom2 := pre_roomS (s.data.toList.drop k) M.metaS
  rw [hb2, List.length_drop, ← Lib.size_eq, show M.metaS.length = 5 from rfl] at hroom2
  clear hc5 hb1 hb2 hb3 hb4 hb6 HST B5 B1 B2 B3 B4 B6
  cases b1 with
  | true =>
    have hr4 := hroom1 rfl (by decide)
    rw [if_pos rfl] at hst
    injection hst with e1 e2
    subst e1
    have HE := Lib.hid e2
    clear e2 hroom1 hroom2 ho
    go_enter Tryz.func75, Tryz.ntmps75
    go_wp2_with fail
    refine (NM.out _ h).mono ?_
    rintro e W1 ⟨rfl, b1⟩
    have h := Box.bel h b1
    have hB : Bes g w W1 := Bes.of_bel b1
    clear b1
    go_wp2_with fail
    refine (G1.out _ h).mono ?_
    rintro e W2 ⟨rfl, m, rfl⟩
    have h := Box.drewN h m
    have hB := hB.trans (Bes.of_bel ((Bel.refl W1).drewN m))
    generalize World.drewN W1 m = W2 at h hB ⊢
    go_wp2_with fail
    refine (to_any g s low ⟨#[45, 45, 62]⟩ k 2 _ h hl (by omega) hs (by decide) (by decide) (by decide) (Len.bes hL h0 hB)).mono ?_
    rintro e W9 ⟨rfl, ⟨k', hk', h9, hd⟩, hB9⟩
    go_wp2_with fail
    go_ret
    exact ⟨rfl, ⟨k', hk', h9, by rw [hd, ← HE.out]; first | rfl | (rw [List.drop_drop]; rfl)⟩, hB.trans hB9⟩
  | false =>
    rw [if_neg (by decide)] at hst
    cases b2 with
    | false =>
      rw [if_neg (by rintro ⟨h9, _⟩; cases h9)] at hst
      cases o with
      | some en =>
        have hsuf := M.nameEnd_suf _ _ ho
        have hd0 := M.Suf.at (M.Suf.trans (a := en) hsuf (M.Suf.drop s.data.toList k))
        rw [← Lib.size_eq] at hd0
        obtain ⟨xs, r, hn⟩ : ∃ xs r, M.attrsA en = (xs, r) := ⟨_, _, rfl⟩
        have hst : ((0 : Int), (M.attrsA en).2.drop 1) = (n, t) := hst
        rw [hn] at hst
        rw [hd0] at hn
        have T := fun W hW => tag_any g s low k (s.size - en.length) W hW (by omega) hs xs r hn
        rw [show ((s.size - en.length : Nat) : Int) = endOf s (some en) from rfl] at T
        have TG := Lib.hid T
        clear T hn hd0 hsuf
        injection hst with e1 e2
        subst e1
        have HE := Lib.hid e2
        clear e2 hroom1 hroom2 ho
        have ho9 : (some en).isSome = true := rfl
        go_enter Tryz.func75, Tryz.ntmps75
        go_wp2_with fail
        refine (NM.out _ h).mono ?_
        rintro e W1 ⟨rfl, b1⟩
        have h := Box.bel h b1
        have hB : Bes g w W1 := Bes.of_bel b1
        clear b1
        go_wp2_with fail
        refine (G1.out _ h).mono ?_
        rintro e W2 ⟨rfl, m, rfl⟩
        have h := Box.drewN h m
        have hB := hB.trans (Bes.of_bel ((Bel.refl W1).drewN m))
        generalize World.drewN W1 m = W2 at h hB ⊢
        go_wp2_with fail
        refine (G2.out _ h).mono ?_
        rintro e W3 ⟨rfl, m, rfl⟩
        have h := Box.drewN h m
        have hB := hB.trans (Bes.of_bel ((Bel.refl W2).drewN m))
        generalize World.drewN W2 m = W3 at h hB ⊢
        go_wp2_with fail
        refine (TG.out _ h).mono ?_
        rintro e W9 ⟨v, rfl, hsl, ⟨k', hk', h9, hd⟩, hB9⟩
        go_wp2_with fail
        go_ret
        exact ⟨rfl, ⟨k', hk', h9, hd.trans HE.out⟩, hB.trans hB9⟩
      | none =>
        have ho9 : (none : Option (List UInt8)).isSome = false := rfl
        have hst : (if b3 = true ∨ b4 = true ∨ b6 = true then ((0 : Int), M.behindF [62] (s.data.toList.drop k)) else (0, (s.data.toList.drop k).drop 1)) = (n, t) := hst
        cases b3 with
        | true =>
          rw [if_pos (.inl rfl)] at hst
          injection hst with e1 e2
          subst e1
          have HE := Lib.hid e2
          clear e2 hroom1 hroom2 ho
          go_enter Tryz.func75, Tryz.ntmps75
          go_wp2_with fail
          refine (NM.out _ h).mono ?_
          rintro e W1 ⟨rfl, b1⟩
          have h := Box.bel h b1
          have hB : Bes g w W1 := Bes.of_bel b1
          clear b1
          go_wp2_with fail
          refine (G1.out _ h).mono ?_
          rintro e W2 ⟨rfl, m, rfl⟩
          have h := Box.drewN h m
          have hB := hB.trans (Bes.of_bel ((Bel.refl W1).drewN m))
          generalize World.drewN W1 m = W2 at h hB ⊢
          go_wp2_with fail
          refine (G2.out _ h).mono ?_
          rintro e W3 ⟨rfl, m, rfl⟩
          have h := Box.drewN h m
          have hB := hB.trans (Bes.of_bel ((Bel.refl W2).drewN m))
          generalize World.drewN W2 m = W3 at h hB ⊢
          go_wp2_with fail
          refine (G3.out _ h).mono ?_
          rintro e W20 ⟨rfl, m, rfl⟩
          have h := Box.drewN h m
          have hB := hB.trans (Bes.of_bel ((Bel.refl W3).drewN m))
          generalize World.drewN W3 m = W20 at h hB ⊢
          go_wp2_with fail
          refine (to_any g s low ⟨#[62]⟩ k 0 _ h hl (by omega) hs (by decide) (by decide) (by decide) (Len.bes hL h0 hB)).mono ?_
          rintro e W9 ⟨rfl, ⟨k', hk', h9, hd⟩, hB9⟩
          go_wp2_with fail
          go_ret
          exact ⟨rfl, ⟨k', hk', h9, by rw [hd, ← HE.out]; first | rfl | (rw [List.drop_drop]; rfl)⟩, hB.trans hB9⟩
        | false =>
          cases b4 with
          | true =>
            rw [if_pos (.inr (.inl rfl))] at hst
            injection hst with e1 e2
            subst e1
            have HE := Lib.hid e2
            clear e2 hroom1 hroom2 ho
            go_enter Tryz.func75, Tryz.ntmps75
            go_wp2_with fail
            refine (NM.out _ h).mono ?_
            rintro e W1 ⟨rfl, b1⟩
            have h := Box.bel h b1
            have hB : Bes g w W1 := Bes.of_bel b1
            clear b1
            go_wp2_with fail
            refine (G1.out _ h).mono ?_
            rintro e W2 ⟨rfl, m, rfl⟩
            have h := Box.drewN h m
            have hB := hB.trans (Bes.of_bel ((Bel.refl W1).drewN m))
            generalize World.drewN W1 m = W2 at h hB ⊢
            go_wp2_with fail
            refine (G2.out _ h).mono ?_
            rintro e W3 ⟨rfl, m, rfl⟩
            have h := Box.drewN h m
            have hB := hB.trans (Bes.of_bel ((Bel.refl W2).drewN m))
            generalize World.drewN W2 m = W3 at h hB ⊢
            go_wp2_with fail
            refine (G3.out _ h).mono ?_
            rintro e W20 ⟨rfl, m, rfl⟩
            have h := Box.drewN h m
            have hB := hB.trans (Bes.of_bel ((Bel.refl W3).drewN m))
            generalize World.drewN W3 m = W20 at h hB ⊢
            go_wp2_with fail
            refine (G4.out _ h).mono ?_
            rintro e W21 ⟨rfl, m, rfl⟩
            have h := Box.drewN h m
            have hB := hB.trans (Bes.of_bel ((Bel.refl W20).drewN m))
            generalize World.drewN W20 m = W21 at h hB ⊢
            go_wp2_with fail
            refine (to_any g s low ⟨#[62]⟩ k 0 _ h hl (by omega) hs (by decide) (by decide) (by decide) (Len.bes hL h0 hB)).mono ?_
            rintro e W9 ⟨rfl, ⟨k', hk', h9, hd⟩, hB9⟩
            go_wp2_with fail
            go_ret
            exact ⟨rfl, ⟨k', hk', h9, by rw [hd, ← HE.out]; first | rfl | (rw [List.drop_drop]; rfl)⟩, hB.trans hB9⟩
          | false =>
            cases b6 with
            | true =>
              rw [if_pos (.inr (.inr rfl))] at hst
              injection hst with e1 e2
              subst e1
              have HE := Lib.hid e2
              clear e2 hroom1 hroom2 ho
              go_enter Tryz.func75, Tryz.ntmps75
              go_wp2_with fail
              refine (NM.out _ h).mono ?_
              rintro e W1 ⟨rfl, b1⟩
              have h := Box.bel h b1
              have hB : Bes g w W1 := Bes.of_bel b1
              clear b1
              go_wp2_with fail
              refine (G1.out _ h).mono ?_
              rintro e W2 ⟨rfl, m, rfl⟩
              have h := Box.drewN h m
              have hB := hB.trans (Bes.of_bel ((Bel.refl W1).drewN m))
              generalize World.drewN W1 m = W2 at h hB ⊢
              go_wp2_with fail
              refine (G2.out _ h).mono ?_
              rintro e W3 ⟨rfl, m, rfl⟩
              have h := Box.drewN h m
              have hB := hB.trans (Bes.of_bel ((Bel.refl W2).drewN m))
              generalize World.drewN W2 m = W3 at h hB ⊢
              go_wp2_with fail
              refine (G3.out _ h).mono ?_
              rintro e W20 ⟨rfl, m, rfl⟩
              have h := Box.drewN h m
              have hB := hB.trans (Bes.of_bel ((Bel.refl W3).drewN m))
              generalize World.drewN W3 m = W20 at h hB ⊢
              go_wp2_with fail
              refine (G4.out _ h).mono ?_
              rintro e W21 ⟨rfl, m, rfl⟩
              have h := Box.drewN h m
              have hB := hB.trans (Bes.of_bel ((Bel.refl W20).drewN m))
              generalize World.drewN W20 m = W21 at h hB ⊢
              go_wp2_with fail
              refine (G6.out _ h).mono ?_
              rintro e W22 ⟨rfl, m, rfl⟩
              have h := Box.drewN h m
              have hB := hB.trans (Bes.of_bel ((Bel.refl W21).drewN m))
              generalize World.drewN W21 m = W22 at h hB ⊢
              go_wp2_with fail
              refine (to_any g s low ⟨#[62]⟩ k 0 _ h hl (by omega) hs (by decide) (by decide) (by decide) (Len.bes hL h0 hB)).mono ?_
              rintro e W9 ⟨rfl, ⟨k', hk', h9, hd⟩, hB9⟩
              go_wp2_with fail
              go_ret
              exact ⟨rfl, ⟨k', hk', h9, by rw [hd, ← HE.out]; first | rfl | (rw [List.drop_drop]; rfl)⟩, hB.trans hB9⟩
            | false =>
              rw [if_neg (by decide)] at hst
              injection hst with e1 e2
              subst e1
              have HE := Lib.hid e2
              clear e2 hroom1 hroom2 ho
              go_enter Tryz.func75, Tryz.ntmps75
              go_wp2_with fail
              refine (NM.out _ h).mono ?_
              rintro e W1 ⟨rfl, b1⟩
              have h := Box.bel h b1
              have hB : Bes g w W1 := Bes.of_bel b1
              clear b1
              go_wp2_with fail
              refine (G1.out _ h).mono ?_
              rintro e W2 ⟨rfl, m, rfl⟩
              have h := Box.drewN h m
              have hB := hB.trans (Bes.of_bel ((Bel.refl W1).drewN m))
              generalize World.drewN W1 m = W2 at h hB ⊢
              go_wp2_with fail
              refine (G2.out _ h).mono ?_
              rintro e W3 ⟨rfl, m, rfl⟩
              have h := Box.drewN h m
              have hB := hB.trans (Bes.of_bel ((Bel.refl W2).drewN m))
              generalize World.drewN W2 m = W3 at h hB ⊢
              go_wp2_with fail
              refine (G3.out _ h).mono ?_
              rintro e W20 ⟨rfl, m, rfl⟩
              have h := Box.drewN h m
              have hB := hB.trans (Bes.of_bel ((Bel.refl W3).drewN m))
              generalize World.drewN W3 m = W20 at h hB ⊢
              go_wp2_with fail
              refine (G4.out _ h).mono ?_
              rintro e W21 ⟨rfl, m, rfl⟩
              have h := Box.drewN h m
              have hB := hB.trans (Bes.of_bel ((Bel.refl W20).drewN m))
              generalize World.drewN W20 m = W21 at h hB ⊢
              go_wp2_with fail
              refine (G6.out _ h).mono ?_
              rintro e W22 ⟨rfl, m, rfl⟩
              have h := Box.drewN h m
              have hB := hB.trans (Bes.of_bel ((Bel.refl W21).drewN m))
              generalize World.drewN W21 m = W22 at h hB ⊢
              have c2 := Box.cell h 2 _ rfl
              have f2 := Box.frozen h 2
              go_wp2_with fail
              go_ret
              exact ⟨rfl, ⟨k + 1, by omega, by rw [show (k : Int) + 1 = ((k + 1 : Nat) : Int) by omega]; exact Lk.move h (k + 1), by rw [← HE.out, List.drop_drop]⟩, hB.setCell 2 _⟩
    | true =>
      cases hw : M.white c5 with
      | true =>
        rw [if_pos ⟨rfl, by rw [hw]; rfl⟩] at hst
        have HW := Lib.hid hw
        clear hw
        have hr5 := hroom2 rfl (by decide)
        obtain ⟨xs, r, hn⟩ : ∃ xs r, M.attrsA ((s.data.toList.drop k).drop 5) = (xs, r) := ⟨_, _, rfl⟩
        rw [hn] at hst
        rw [List.drop_drop] at hn
        have hshort : ShortV xs := fun q hq => by have h9 := M.attrsA_val _ (s.data.toList.drop (k + 5)) (Nat.le_refl _) q (by rw [hn]; exact hq); rw [List.length_drop, ← Lib.size_eq] at h9; omega
        have T := fun W hW => tag_any g s low k (k + 5) W hW (by omega) hs xs r hn
        rw [show ((k + 5 : Nat) : Int) = (k : Int) + 5 by omega] at T
        have TG := Lib.hid T
        clear T hn
        injection hst with e1 e2
        subst e1
        have HE := Lib.hid e2
        clear e2 hroom1 hroom2 ho
        go_enter Tryz.func75, Tryz.ntmps75
        go_wp2_with fail
        refine (NM.out _ h).mono ?_
        rintro e W1 ⟨rfl, b1⟩
        have h := Box.bel h b1
        have hB : Bes g w W1 := Bes.of_bel b1
        clear b1
        go_wp2_with fail
        refine (G1.out _ h).mono ?_
        rintro e W2 ⟨rfl, m, rfl⟩
        have h := Box.drewN h m
        have hB := hB.trans (Bes.of_bel ((Bel.refl W1).drewN m))
        generalize World.drewN W1 m = W2 at h hB ⊢
        go_wp2_with fail
        refine (G2.out _ h).mono ?_
        rintro e W3 ⟨rfl, m, rfl⟩
        have h := Box.drewN h m
        have hB := hB.trans (Bes.of_bel ((Bel.refl W2).drewN m))
        generalize World.drewN W2 m = W3 at h hB ⊢
        go_wp2_with fail
        refine (G5.out _ h).mono ?_
        rintro e W4 ⟨rfl, m, rfl⟩
        have h := Box.drewN h m
        have hB := hB.trans (Bes.of_bel ((Bel.refl W3).drewN m))
        generalize World.drewN W3 m = W4 at h hB ⊢
        have c2 := Box.cell h 2 _ rfl
        go_wp2_with fail
        refine (white_to c5 _ HW.out _).mono ?_
        rintro e W' ⟨rfl, hW'⟩
        have hW' := hW'.symm
        subst hW'
        go_wp2_with fail
        refine (TG.out _ h).mono ?_
        rintro e W9 ⟨v, rfl, hsl, ⟨k', hk', h9, hd⟩, hB9⟩
        have hB9 := hB.trans hB9
        have hL9 := Len.bes hL h0 hB9
        go_wp2_with fail
        refine (metaS_any v xs W9 hsl hshort hL9).mono ?_
        rintro e W10 ⟨rfl, b10⟩
        go_wp2_with fail
        go_ret
        exact ⟨rfl, ⟨k', hk', Lk.bel h9 b10, hd.trans HE.out⟩, hB9.trans (Bes.of_bel b10)⟩
      | false =>
        have HW := Lib.hid hw
        cases h47 : ((c5.toNat : Int) == 47) with
        | true =>
          rw [if_pos ⟨rfl, by rw [hw, h47]; rfl⟩] at hst
          clear hw
          have hr5 := hroom2 rfl (by decide)
          obtain ⟨xs, r, hn⟩ : ∃ xs r, M.attrsA ((s.data.toList.drop k).drop 5) = (xs, r) := ⟨_, _, rfl⟩
          rw [hn] at hst
          rw [List.drop_drop] at hn
          have hshort : ShortV xs := fun q hq => by have h9 := M.attrsA_val _ (s.data.toList.drop (k + 5)) (Nat.le_refl _) q (by rw [hn]; exact hq); rw [List.length_drop, ← Lib.size_eq] at h9; omega
          have T := fun W hW => tag_any g s low k (k + 5) W hW (by omega) hs xs r hn
          rw [show ((k + 5 : Nat) : Int) = (k : Int) + 5 by omega] at T
          have TG := Lib.hid T
          clear T hn
          injection hst with e1 e2
          subst e1
          have HE := Lib.hid e2
          clear e2 hroom1 hroom2 ho
          go_enter Tryz.func75, Tryz.ntmps75
          go_wp2_with fail
          refine (NM.out _ h).mono ?_
          rintro e W1 ⟨rfl, b1⟩
          have h := Box.bel h b1
          have hB : Bes g w W1 := Bes.of_bel b1
          clear b1
          go_wp2_with fail
          refine (G1.out _ h).mono ?_
          rintro e W2 ⟨rfl, m, rfl⟩
          have h := Box.drewN h m
          have hB := hB.trans (Bes.of_bel ((Bel.refl W1).drewN m))
          generalize World.drewN W1 m = W2 at h hB ⊢
          go_wp2_with fail
          refine (G2.out _ h).mono ?_
          rintro e W3 ⟨rfl, m, rfl⟩
          have h := Box.drewN h m
          have hB := hB.trans (Bes.of_bel ((Bel.refl W2).drewN m))
          generalize World.drewN W2 m = W3 at h hB ⊢
          go_wp2_with fail
          refine (G5.out _ h).mono ?_
          rintro e W4 ⟨rfl, m, rfl⟩
          have h := Box.drewN h m
          have hB := hB.trans (Bes.of_bel ((Bel.refl W3).drewN m))
          generalize World.drewN W3 m = W4 at h hB ⊢
          go_wp2_with fail
          refine (white_to c5 _ HW.out _).mono ?_
          rintro e W' ⟨rfl, hW'⟩
          have hW' := hW'.symm
          subst hW'
          go_wp2_with fail
          refine (G5.out _ h).mono ?_
          rintro e W5 ⟨rfl, m, rfl⟩
          have h := Box.drewN h m
          have hB := hB.trans (Bes.of_bel ((Bel.refl W4).drewN m))
          generalize World.drewN W4 m = W5 at h hB ⊢
          have c2 := Box.cell h 2 _ rfl
          go_wp2_with fail
          refine (TG.out _ h).mono ?_
          rintro e W9 ⟨v, rfl, hsl, ⟨k', hk', h9, hd⟩, hB9⟩
          have hB9 := hB.trans hB9
          have hL9 := Len.bes hL h0 hB9
          go_wp2_with fail
          refine (metaS_any v xs W9 hsl hshort hL9).mono ?_
          rintro e W10 ⟨rfl, b10⟩
          go_wp2_with fail
          go_ret
          exact ⟨rfl, ⟨k', hk', Lk.bel h9 b10, hd.trans HE.out⟩, hB9.trans (Bes.of_bel b10)⟩
        | false =>
          rw [if_neg (by rintro ⟨_, h9⟩; rw [hw, h47] at h9; cases h9)] at hst
          clear hw
          cases o with
          | some en =>
            have hsuf := M.nameEnd_suf _ _ ho
            have hd0 := M.Suf.at (M.Suf.trans (a := en) hsuf (M.Suf.drop s.data.toList k))
            rw [← Lib.size_eq] at hd0
            obtain ⟨xs, r, hn⟩ : ∃ xs r, M.attrsA en = (xs, r) := ⟨_, _, rfl⟩
            have hst : ((0 : Int), (M.attrsA en).2.drop 1) = (n, t) := hst
            rw [hn] at hst
            rw [hd0] at hn
            have T := fun W hW => tag_any g s low k (s.size - en.length) W hW (by omega) hs xs r hn
            rw [show ((s.size - en.length : Nat) : Int) = endOf s (some en) from rfl] at T
            have TG := Lib.hid T
            clear T hn hd0 hsuf
            injection hst with e1 e2
            subst e1
            have HE := Lib.hid e2
            clear e2 hroom1 hroom2 ho
            have ho9 : (some en).isSome = true := rfl
            go_enter Tryz.func75, Tryz.ntmps75
            go_wp2_with fail
            refine (NM.out _ h).mono ?_
            rintro e W1 ⟨rfl, b1⟩
            have h := Box.bel h b1
            have hB : Bes g w W1 := Bes.of_bel b1
            clear b1
            go_wp2_with fail
            refine (G1.out _ h).mono ?_
            rintro e W2 ⟨rfl, m, rfl⟩
            have h := Box.drewN h m
            have hB := hB.trans (Bes.of_bel ((Bel.refl W1).drewN m))
            generalize World.drewN W1 m = W2 at h hB ⊢
            go_wp2_with fail
            refine (G2.out _ h).mono ?_
            rintro e W3 ⟨rfl, m, rfl⟩
            have h := Box.drewN h m
            have hB := hB.trans (Bes.of_bel ((Bel.refl W2).drewN m))
            generalize World.drewN W2 m = W3 at h hB ⊢
            go_wp2_with fail
            refine (G5.out _ h).mono ?_
            rintro e W4 ⟨rfl, m, rfl⟩
            have h := Box.drewN h m
            have hB := hB.trans (Bes.of_bel ((Bel.refl W3).drewN m))
            generalize World.drewN W3 m = W4 at h hB ⊢
            go_wp2_with fail
            refine (white_to c5 _ HW.out _).mono ?_
            rintro e W' ⟨rfl, hW'⟩
            have hW' := hW'.symm
            subst hW'
            go_wp2_with fail
            refine (G5.out _ h).mono ?_
            rintro e W5 ⟨rfl, m, rfl⟩
            have h := Box.drewN h m
            have hB := hB.trans (Bes.of_bel ((Bel.refl W4).drewN m))
            generalize World.drewN W4 m = W5 at h hB ⊢
            have c2 := Box.cell h 2 _ rfl
            go_wp2_with fail
            refine (TG.out _ h).mono ?_
            rintro e W9 ⟨v, rfl, hsl, ⟨k', hk', h9, hd⟩, hB9⟩
            go_wp2_with fail
            go_ret
            exact ⟨rfl, ⟨k', hk', h9, hd.trans HE.out⟩, hB.trans hB9⟩
          | none =>
            have ho9 : (none : Option (List UInt8)).isSome = false := rfl
            have hst : (if b3 = true ∨ b4 = true ∨ b6 = true then ((0 : Int), M.behindF [62] (s.data.toList.drop k)) else (0, (s.data.toList.drop k).drop 1)) = (n, t) := hst
            cases b3 with
            | true =>
              rw [if_pos (.inl rfl)] at hst
              injection hst with e1 e2
              subst e1
              have HE := Lib.hid e2
              clear e2 hroom1 hroom2 ho
              go_enter Tryz.func75, Tryz.ntmps75
              go_wp2_with fail
              refine (NM.out _ h).mono ?_
              rintro e W1 ⟨rfl, b1⟩
              have h := Box.bel h b1
              have hB : Bes g w W1 := Bes.of_bel b1
              clear b1
              go_wp2_with fail
              refine (G1.out _ h).mono ?_
              rintro e W2 ⟨rfl, m, rfl⟩
              have h := Box.drewN h m
              have hB := hB.trans (Bes.of_bel ((Bel.refl W1).drewN m))
              generalize World.drewN W1 m = W2 at h hB ⊢
              go_wp2_with fail
              refine (G2.out _ h).mono ?_
              rintro e W3 ⟨rfl, m, rfl⟩
              have h := Box.drewN h m
              have hB := hB.trans (Bes.of_bel ((Bel.refl W2).drewN m))
              generalize World.drewN W2 m = W3 at h hB ⊢
              go_wp2_with fail
              refine (G5.out _ h).mono ?_
              rintro e W4 ⟨rfl, m, rfl⟩
              have h := Box.drewN h m
              have hB := hB.trans (Bes.of_bel ((Bel.refl W3).drewN m))
              generalize World.drewN W3 m = W4 at h hB ⊢
              go_wp2_with fail
              refine (white_to c5 _ HW.out _).mono ?_
              rintro e W' ⟨rfl, hW'⟩
              have hW' := hW'.symm
              subst hW'
              go_wp2_with fail
              refine (G5.out _ h).mono ?_
              rintro e W5 ⟨rfl, m, rfl⟩
              have h := Box.drewN h m
              have hB := hB.trans (Bes.of_bel ((Bel.refl W4).drewN m))
              generalize World.drewN W4 m = W5 at h hB ⊢
              have c2 := Box.cell h 2 _ rfl
              go_wp2_with fail
              refine (G3.out _ h).mono ?_
              rintro e W20 ⟨rfl, m, rfl⟩
              have h := Box.drewN h m
              have hB := hB.trans (Bes.of_bel ((Bel.refl W5).drewN m))
              generalize World.drewN W5 m = W20 at h hB ⊢
              go_wp2_with fail
              refine (to_any g s low ⟨#[62]⟩ k 0 _ h hl (by omega) hs (by decide) (by decide) (by decide) (Len.bes hL h0 hB)).mono ?_
              rintro e W9 ⟨rfl, ⟨k', hk', h9, hd⟩, hB9⟩
              go_wp2_with fail
              go_ret
              exact ⟨rfl, ⟨k', hk', h9, by rw [hd, ← HE.out]; first | rfl | (rw [List.drop_drop]; rfl)⟩, hB.trans hB9⟩
            | false =>
              cases b4 with
              | true =>
                rw [if_pos (.inr (.inl rfl))] at hst
                injection hst with e1 e2
                subst e1
                have HE := Lib.hid e2
                clear e2 hroom1 hroom2 ho
                go_enter Tryz.func75, Tryz.ntmps75
                go_wp2_with fail
                refine (NM.out _ h).mono ?_
                rintro e W1 ⟨rfl, b1⟩
                have h := Box.bel h b1
                have hB : Bes g w W1 := Bes.of_bel b1
                clear b1
                go_wp2_with fail
                refine (G1.out _ h).mono ?_
                rintro e W2 ⟨rfl, m, rfl⟩
                have h := Box.drewN h m
                have hB := hB.trans (Bes.of_bel ((Bel.refl W1).drewN m))
                generalize World.drewN W1 m = W2 at h hB ⊢
                go_wp2_with fail
                refine (G2.out _ h).mono ?_
                rintro e W3 ⟨rfl, m, rfl⟩
                have h := Box.drewN h m
                have hB := hB.trans (Bes.of_bel ((Bel.refl W2).drewN m))
                generalize World.drewN W2 m = W3 at h hB ⊢
                go_wp2_with fail
                refine (G5.out _ h).mono ?_
                rintro e W4 ⟨rfl, m, rfl⟩
                have h := Box.drewN h m
                have hB := hB.trans (Bes.of_bel ((Bel.refl W3).drewN m))
                generalize World.drewN W3 m = W4 at h hB ⊢
                go_wp2_with fail
                refine (white_to c5 _ HW.out _).mono ?_
                rintro e W' ⟨rfl, hW'⟩
                have hW' := hW'.symm
                subst hW'
                go_wp2_with fail
                refine (G5.out _ h).mono ?_
                rintro e W5 ⟨rfl, m, rfl⟩
                have h := Box.drewN h m
                have hB := hB.trans (Bes.of_bel ((Bel.refl W4).drewN m))
                generalize World.drewN W4 m = W5 at h hB ⊢
                have c2 := Box.cell h 2 _ rfl
                go_wp2_with fail
                refine (G3.out _ h).mono ?_
                rintro e W20 ⟨rfl, m, rfl⟩
                have h := Box.drewN h m
                have hB := hB.trans (Bes.of_bel ((Bel.refl W5).drewN m))
                generalize World.drewN W5 m = W20 at h hB ⊢
                go_wp2_with fail
                refine (G4.out _ h).mono ?_
                rintro e W21 ⟨rfl, m, rfl⟩
                have h := Box.drewN h m
                have hB := hB.trans (Bes.of_bel ((Bel.refl W20).drewN m))
                generalize World.drewN W20 m = W21 at h hB ⊢
                go_wp2_with fail
                refine (to_any g s low ⟨#[62]⟩ k 0 _ h hl (by omega) hs (by decide) (by decide) (by decide) (Len.bes hL h0 hB)).mono ?_
                rintro e W9 ⟨rfl, ⟨k', hk', h9, hd⟩, hB9⟩
                go_wp2_with fail
                go_ret
                exact ⟨rfl, ⟨k', hk', h9, by rw [hd, ← HE.out]; first | rfl | (rw [List.drop_drop]; rfl)⟩, hB.trans hB9⟩
              | false =>
                cases b6 with
                | true =>
                  rw [if_pos (.inr (.inr rfl))] at hst
                  injection hst with e1 e2
                  subst e1
                  have HE := Lib.hid e2
                  clear e2 hroom1 hroom2 ho
                  go_enter Tryz.func75, Tryz.ntmps75
                  go_wp2_with fail
                  refine (NM.out _ h).mono ?_
                  rintro e W1 ⟨rfl, b1⟩
                  have h := Box.bel h b1
                  have hB : Bes g w W1 := Bes.of_bel b1
                  clear b1
                  go_wp2_with fail
                  refine (G1.out _ h).mono ?_
                  rintro e W2 ⟨rfl, m, rfl⟩
                  have h := Box.drewN h m
                  have hB := hB.trans (Bes.of_bel ((Bel.refl W1).drewN m))
                  generalize World.drewN W1 m = W2 at h hB ⊢
                  go_wp2_with fail
                  refine (G2.out _ h).mono ?_
                  rintro e W3 ⟨rfl, m, rfl⟩
                  have h := Box.drewN h m
                  have hB := hB.trans (Bes.of_bel ((Bel.refl W2).drewN m))
                  generalize World.drewN W2 m = W3 at h hB ⊢
                  go_wp2_with fail
                  refine (G5.out _ h).mono ?_
                  rintro e W4 ⟨rfl, m, rfl⟩
                  have h := Box.drewN h m
                  have hB := hB.trans (Bes.of_bel ((Bel.refl W3).drewN m))
                  generalize World.drewN W3 m = W4 at h hB ⊢
                  go_wp2_with fail
                  refine (white_to c5 _ HW.out _).mono ?_
                  rintro e W' ⟨rfl, hW'⟩
                  have hW' := hW'.symm
                  subst hW'
                  go_wp2_with fail
                  refine (G5.out _ h).mono ?_
                  rintro e W5 ⟨rfl, m, rfl⟩
                  have h := Box.drewN h m
                  have hB := hB.trans (Bes.of_bel ((Bel.refl W4).drewN m))
                  generalize World.drewN W4 m = W5 at h hB ⊢
                  have c2 := Box.cell h 2 _ rfl
                  go_wp2_with fail
                  refine (G3.out _ h).mono ?_
                  rintro e W20 ⟨rfl, m, rfl⟩
                  have h := Box.drewN h m
                  have hB := hB.trans (Bes.of_bel ((Bel.refl W5).drewN m))
                  generalize World.drewN W5 m = W20 at h hB ⊢
                  go_wp2_with fail
                  refine (G4.out _ h).mono ?_
                  rintro e W21 ⟨rfl, m, rfl⟩
                  have h := Box.drewN h m
                  have hB := hB.trans (Bes.of_bel ((Bel.refl W20).drewN m))
                  generalize World.drewN W20 m = W21 at h hB ⊢
                  go_wp2_with fail
                  refine (G6.out _ h).mono ?_
                  rintro e W22 ⟨rfl, m, rfl⟩
                  have h := Box.drewN h m
                  have hB := hB.trans (Bes.of_bel ((Bel.refl W21).drewN m))
                  generalize World.drewN W21 m = W22 at h hB ⊢
                  go_wp2_with fail
                  refine (to_any g s low ⟨#[62]⟩ k 0 _ h hl (by omega) hs (by decide) (by decide) (by decide) (Len.bes hL h0 hB)).mono ?_
                  rintro e W9 ⟨rfl, ⟨k', hk', h9, hd⟩, hB9⟩
                  go_wp2_with fail
                  go_ret
                  exact ⟨rfl, ⟨k', hk', h9, by rw [hd, ← HE.out]; first | rfl | (rw [List.drop_drop]; rfl)⟩, hB.trans hB9⟩
                | false =>
                  rw [if_neg (by decide)] at hst
                  injection hst with e1 e2
                  subst e1
                  have HE := Lib.hid e2
                  clear e2 hroom1 hroom2 ho
                  go_enter Tryz.func75, Tryz.ntmps75
                  go_wp2_with fail
                  refine (NM.out _ h).mono ?_
                  rintro e W1 ⟨rfl, b1⟩
                  have h := Box.bel h b1
                  have hB : Bes g w W1 := Bes.of_bel b1
                  clear b1
                  go_wp2_with fail
                  refine (G1.out _ h).mono ?_
                  rintro e W2 ⟨rfl, m, rfl⟩
                  have h := Box.drewN h m
                  have hB := hB.trans (Bes.of_bel ((Bel.refl W1).drewN m))
                  generalize World.drewN W1 m = W2 at h hB ⊢
                  go_wp2_with fail
                  refine (G2.out _ h).mono ?_
                  rintro e W3 ⟨rfl, m, rfl⟩
                  have h := Box.drewN h m
                  have hB := hB.trans (Bes.of_bel ((Bel.refl W2).drewN m))
                  generalize World.drewN W2 m = W3 at h hB ⊢
                  go_wp2_with fail
                  refine (G5.out _ h).mono ?_
                  rintro e W4 ⟨rfl, m, rfl⟩
                  have h := Box.drewN h m
                  have hB := hB.trans (Bes.of_bel ((Bel.refl W3).drewN m))
                  generalize World.drewN W3 m = W4 at h hB ⊢
                  go_wp2_with fail
                  refine (white_to c5 _ HW.out _).mono ?_
                  rintro e W' ⟨rfl, hW'⟩
                  have hW' := hW'.symm
                  subst hW'
                  go_wp2_with fail
                  refine (G5.out _ h).mono ?_
                  rintro e W5 ⟨rfl, m, rfl⟩
                  have h := Box.drewN h m
                  have hB := hB.trans (Bes.of_bel ((Bel.refl W4).drewN m))
                  generalize World.drewN W4 m = W5 at h hB ⊢
                  have c2 := Box.cell h 2 _ rfl
                  go_wp2_with fail
                  refine (G3.out _ h).mono ?_
                  rintro e W20 ⟨rfl, m, rfl⟩
                  have h := Box.drewN h m
                  have hB := hB.trans (Bes.of_bel ((Bel.refl W5).drewN m))
                  generalize World.drewN W5 m = W20 at h hB ⊢
                  go_wp2_with fail
                  refine (G4.out _ h).mono ?_
                  rintro e W21 ⟨rfl, m, rfl⟩
                  have h := Box.drewN h m
                  have hB := hB.trans (Bes.of_bel ((Bel.refl W20).drewN m))
                  generalize World.drewN W20 m = W21 at h hB ⊢
                  go_wp2_with fail
                  refine (G6.out _ h).mono ?_
                  rintro e W22 ⟨rfl, m, rfl⟩
                  have h := Box.drewN h m
                  have hB := hB.trans (Bes.of_bel ((Bel.refl W21).drewN m))
                  generalize World.drewN W21 m = W22 at h hB ⊢
                  have c2 := Box.cell h 2 _ rfl
                  have f2 := Box.frozen h 2
                  go_wp2_with fail
                  go_ret
                  exact ⟨rfl, ⟨k + 1, by omega, by rw [show (k : Int) + 1 = ((k + 1 : Nat) : Int) by omega]; exact Lk.move h (k + 1), by rw [← HE.out, List.drop_drop]⟩, hB.setCell 2 _⟩
end Go.Proofs.YtcgdecpjlggekaaGreatDoor

/-
  Texts of the proof, laid together: Kana2, Kana3, Stream, Stream2, PlainWait, Stream3, Stream4. No condition of its own.
-/
import Derived.Test.YtcgdecpjlggekaaGreatDoorG5
import Derived.Test.YtcgdecpjlggekaaGreatDoorG3
import Derived.Test.YtcgdecpjlggekaaGreatDoorG2

/-
  Package kana: Told, All, Decode.
-/
namespace Go.Proofs.YtcgdecpjlggekaaGreatDoor
open Go.RowKit
set_option maxRecDepth 1000000

theorem shifts_to (s : ByteArray) (c : UInt8) (t : List UInt8) (k : Int) (b : Bool) (h : shiftsM t = (k, b)) (hs : s.data.toList = c :: t) (hsz : s.size ≤ 68719476735) (w : World) : Calls Tryz.prog 118 #[.string s] w fun e w' => e = .returned (.tuple #[.int .i64 k, .bool b]) ∧ ∃ q, w.drewN q = w' := by
  have := shifts_any s c t hs hsz w; rw [h] at this; exact this
theorem sign_to (g : Int) (c : Nat) (n : Int) (h : M.signK g c = n) (hc : c < 256) (w : World) : Calls Tryz.prog 117 #[.int .i64 g, .int .u8 (c : Int)] w fun e w' => e = .returned (.int .i64 n) ∧ w = w' := by
  have := sign_any g c hc w; rw [h] at this; exact this
set_option maxHeartbeats 4000000 in
theorem toldK_any (g : Int) (f : Bool) (s : ByteArray) (last : Bool) (hs : s.size ≤ 68719476735) (w : World) : Calls Tryz.prog 95 #[.agg #[.int .i64 g, .bool f], .string s, .bool last] w fun e w' =>
    ∃ v, e = .returned (.tuple #[v, .agg #[.int .i64 (M.toldK last g f s.data.toList).2.1, .bool (M.toldK last g f s.data.toList).2.2.1], .string ⟨(M.toldK last g f s.data.toList).2.2.2.toArray⟩]) ∧ Own w.heap.size 3 w' v ((M.toldK last g f s.data.toList).1.map (Value.int .i64)) ∧ Bel w w' := by
  go_enter Tryz.func95, Tryz.ntmps95
  go_wp2_with fail
  go_loopw [] (fun wr => ∃ (s' : ByteArray) (xs : List Int) (sg : Int) (fr : Bool) (v : Value), Box wr (w.heap.size + 2) 148 [.int .i64 sg, .bool fr, .string s', v] ∧ Box wr (w.heap.size + 1) 123 [.int .i64 0, .bool false] ∧ xs.length + s'.size ≤ s.size ∧ Hid (M.toldK last g f s.data.toList = (xs ++ (M.toldK last sg fr s'.data.toList).1, (M.toldK last sg fr s'.data.toList).2)) ∧ Own (w.heap.size + 3) 3 wr v (xs.map (Value.int .i64)) ∧ Bel w wr) (fun wr => cellLen wr ⟨w.heap.size + 2, 2, none⟩)
  case atStart =>
    exact ⟨s, [], g, f, .slice none 0 0, (by have := Box.new ((w.alloc (.cells #[.int .i64 g, .bool f] 123)).alloc (.cells #[.int .i64 0, .bool false] 123)) 148 [.int .i64 g, .bool f, .string s, .slice none 0 0]; simpa using this), (by have := (Box.new (w.alloc (.cells #[.int .i64 g, .bool f] 123)) 123 [.int .i64 0, .bool false]).bel ((Bel.refl _).alloc (.cells #[.int .i64 g, .bool f, .string s, .slice none 0 0] 148)); simpa using this), by simp, Lib.hid (by simp), Own.nil _ _ _, (by repeat (first | exact Bel.refl _ | refine Bel.drewN ?_ _ | refine Bel.drew ?_ | refine Bel.alloc ?_ _ | refine Bel.trans ?_ (by assumption) | refine Bel.setCell ?_ (by simp; omega) _))⟩
  case round =>
    obtain ⟨s', xs, sg, fr, v, hB, hR, hle, HT, hown, hb⟩ := hrel
    have c0 := hB.cell 0 _ rfl
    have c1 := hB.cell 1 _ rfl
    have c2 := hB.cell 2 _ rfl
    have c3 := hB.cell 3 _ rfl
    have r0 := hR.cell 0 _ rfl
    have r1 := hR.cell 1 _ rfl
    have q0 := hR.frozen 0
    have q1 := hR.frozen 1
    have hsz : w.heap.size + 3 ≤ wr.heap.size := hB.lt
    by_cases he : s'.size = 0
    · have e0 : s'.data.toList = [] := List.eq_nil_of_length_eq_zero (by rw [← Lib.size_eq]; exact he)
      have HF := Lib.hid (show M.toldK last g f s.data.toList = (xs, sg, fr, []) by
        rw [HT.out, e0, M.toldK_nil]; simp)
      have e1 : (!s'.toList.isEmpty) = false := by rw [Lib.toList_data, e0]; rfl
      clear he e0
      go_wp2_with fail
      go_region
      go_wp2_with fail
      have d0 : ((wr.setCell ⟨w.heap.size + 1, 0, none⟩ (.int .i64 sg)).setCell ⟨w.heap.size + 1, 1, none⟩ (.bool fr)).drew.cell? ⟨w.heap.size + 1, 0, none⟩ = some (.int .i64 sg) := ((hR.set 0 _).set 1 _).cell 0 _ rfl
      have d1 : ((wr.setCell ⟨w.heap.size + 1, 0, none⟩ (.int .i64 sg)).setCell ⟨w.heap.size + 1, 1, none⟩ (.bool fr)).drew.cell? ⟨w.heap.size + 1, 1, none⟩ = some (.bool fr) := ((hR.set 0 _).set 1 _).cell 1 _ rfl
      refine bodyPost_ret (v := .tuple #[v, .agg #[.int .i64 sg, .bool fr], .string ⟨#[]⟩]) (by simp [results, Tryz.results95, go_sem, d0, d1]) rfl ?_
      rw [HF.out]
      exact ⟨_, rfl, (((hown.setCell (p := ⟨w.heap.size + 1, 0, none⟩) (by simp) _).setCell (p := ⟨w.heap.size + 1, 1, none⟩) (by simp) _).mono (by omega)).drew, ((hb.setCell (p := ⟨w.heap.size + 1, 0, none⟩) (by simp) _).setCell (p := ⟨w.heap.size + 1, 1, none⟩) (by simp) _).drew⟩
    · have hpos : 0 < s'.size := by omega
      obtain ⟨c, t, hct⟩ := cons_of_pos s' hpos
      obtain ⟨k0, h0⟩ := head_at s' 0 c (by rw [hct]; rfl)
      have e1 : (!s'.toList.isEmpty) = true := by rw [Lib.toList_data, hct]; rfl
      have hcl := c.toNat_lt
      have hts : s'.size = t.length + 1 := by rw [Lib.size_eq, hct]; rfl
      have HB2 := Lib.hid hB
      rcases M.sayK last sg fr c t with ⟨hc, e⟩ | ⟨rfl, k, x, u, rfl, hk, hh, e⟩ | ⟨rfl, hw, hh, rfl, e⟩ | ⟨rfl, hh, hw, e⟩
      · have e27 : ((c.toNat : Int) != 27) = true := by
          rw [bne_iff_ne]; intro h; apply hc; apply UInt8.toNat_inj.1; show c.toNat = 27; omega
        obtain ⟨n, hn⟩ : ∃ n, M.signK sg c.toNat = n := ⟨_, rfl⟩
        have HN := Lib.hid hn
        have HF := Lib.hid (show M.toldK last g f s.data.toList = ((xs ++ [n]) ++ (M.toldK last sg false (s'.extract 1 s'.size).data.toList).1, (M.toldK last sg false (s'.extract 1 s'.size).data.toList).2) by
          rw [HT.out, drop_str, hct, e, hn]; simp)
        have HS := Lib.hid (drop_size s' 1)
        clear he hct hc hn e hts
        go_wp2_with fail
        go_region_with ((first | (go_at_call 117; refine (sign_to sg c.toNat n HN.out (by omega) _).mono ?_; rintro e w1 ⟨rfl, rfl⟩) | (go_at_call 116; refine (tellK_any (w.heap.size + 2) sg fr s' v xs n (w.heap.size + 3) wr.drew HB2.out hown (by omega) hsz hpos (by omega) (by omega)).mono ?_; rintro e w1 ⟨rfl, v1, hB1, hown1, hb1⟩)))
        all_goals
          go_wp2_with fail
          go_roundw
          case rel => exact ⟨s'.extract 1 s'.size, xs ++ [n], sg, false, v1, hB1, Box.upto (B := w.heap.size + 2) (w := wr.drew) hR hb1 (by omega), by rw [HS.out, List.length_append, List.length_singleton]; omega, HF, hown1, Bel.upto (Bel.drew hb) hb1 (by omega)⟩
          case measure => rw [cellLen_of c2, cellLen_of (hB1.cell 2 _ rfl), HS.out]; omega
      · -- an escape
        obtain ⟨k2, hk2⟩ : ∃ r, (xs ++ if fr = true then [(65533 : Int)] else []) = r := ⟨_, rfl⟩
        have HK2 := Lib.hid hk2
        have HF := Lib.hid (show M.toldK last g f s.data.toList = (k2 ++ (M.toldK last k true (s'.extract 3 s'.size).data.toList).1, (M.toldK last k true (s'.extract 3 s'.size).data.toList).2) by
          rw [HT.out, drop_str, hct, e, ← hk2]; simp)
        have HS := Lib.hid (drop_size s' 3)
        have hk20 : k2.length ≤ xs.length + 1 := by rw [← hk2, List.length_append]; split <;> simp
        have HC := Lib.hid hct
        have HSH := Lib.hid (show shiftsM (40 :: x :: u) = (k, true) by rw [shiftsM, hh])
        have hk0 : 0 ≤ k := by
          unfold M.escK at hk
          (repeat' split at hk) <;> first | (injection hk with hk; omega) | cases hk
        have h3 : 3 ≤ s'.size := by rw [hts]; simp only [List.length_cons]; omega
        have c27 : ((27 : UInt8).toNat : Int) = 27 := rfl
        clear he hct hk hh e hts hk2
        go_wp2_with fail
        refine (shifts_to s' 27 (40 :: x :: u) k true HSH.out HC.out (by omega) _).mono ?_
        rintro e w1 ⟨rfl, q, rfl⟩
        have hsz2 : w.heap.size + 3 ≤ (wr.drewN q).heap.size := hsz
        go_wp2_with fail
        refine (shiftK_any (w.heap.size + 2) sg k fr s' v xs (w.heap.size + 3) (wr.drewN q) (HB2.out.drewN q) (hown.drewN q) (by omega) hsz2 h3 (by omega) (by omega)).mono ?_
        rintro e w1 ⟨rfl, v1, hB1, hown1, hb1⟩
        rw [HK2.out] at hown1
        go_wp2_with fail
        go_roundw
        case rel => exact ⟨s'.extract 3 s'.size, k2, k, true, v1, hB1, Box.upto (B := w.heap.size + 2) (hR.drewN q) hb1 (by omega), by rw [HS.out]; omega, HF, hown1, Bel.upto (Bel.drewN hb q) hb1 (by omega)⟩
        case measure => rw [cellLen_of c2, cellLen_of (hB1.cell 2 _ rfl), HS.out]; omega
      · -- more must come
        have HF := Lib.hid (show M.toldK false g f s.data.toList = (xs, sg, fr, s'.data.toList) by
          rw [HT.out, hct, e]; simp)
        have HC := Lib.hid hct
        have HSH := Lib.hid (show shiftsM t = (-1, false) by rw [shiftsM, hh]; simp [hw])
        clear he hct hw hh e hts
        go_wp2_with fail
        refine (shifts_to s' 27 t (-1) false HSH.out HC.out (by omega) _).mono ?_
        rintro e w1 ⟨rfl, q, rfl⟩
        go_wp2_with fail
        go_region
        go_wp2_with fail
        have d0 : (((wr.drewN (q + 1)).setCell ⟨w.heap.size + 1, 0, none⟩ (.int .i64 sg)).setCell ⟨w.heap.size + 1, 1, none⟩ (.bool fr)).cell? ⟨w.heap.size + 1, 0, none⟩ = some (.int .i64 sg) := (((hR.drewN (q + 1)).set 0 _).set 1 _).cell 0 _ rfl
        have d1 : (((wr.drewN (q + 1)).setCell ⟨w.heap.size + 1, 0, none⟩ (.int .i64 sg)).setCell ⟨w.heap.size + 1, 1, none⟩ (.bool fr)).cell? ⟨w.heap.size + 1, 1, none⟩ = some (.bool fr) := (((hR.drewN (q + 1)).set 0 _).set 1 _).cell 1 _ rfl
        refine bodyPost_ret (v := .tuple #[v, .agg #[.int .i64 sg, .bool fr], .string s']) (by simp [results, Tryz.results95, go_sem, d0, d1]) rfl ?_
        rw [HF.out]
        exact ⟨_, by rw [str_eq], (((hown.drewN (q + 1)).setCell (p := ⟨w.heap.size + 1, 0, none⟩) (by simp) _).setCell (p := ⟨w.heap.size + 1, 1, none⟩) (by simp) _).mono (by omega), ((Bel.drewN hb (q + 1)).setCell (p := ⟨w.heap.size + 1, 0, none⟩) (by simp) _).setCell (p := ⟨w.heap.size + 1, 1, none⟩) (by simp) _⟩
      · -- no escape
        have HF := Lib.hid (show M.toldK last g f s.data.toList = ((xs ++ [65533]) ++ (M.toldK last sg false (s'.extract 1 s'.size).data.toList).1, (M.toldK last sg false (s'.extract 1 s'.size).data.toList).2) by
          rw [HT.out, drop_str, hct, e]; simp)
        have HS := Lib.hid (drop_size s' 1)
        have HC := Lib.hid hct
        obtain ⟨b, hb0⟩ : ∃ b, shiftsM t = (-1, b) := ⟨_, by rw [shiftsM, hh]⟩
        have hbl : b = true ∨ (b = false ∧ last = true) := by
          rcases hw with hw | hw
          · left
            rw [shiftsM, hh, hw] at hb0
            simpa using hb0.symm
          · cases b
            · exact .inr ⟨rfl, hw⟩
            · exact .inl rfl
        have HSH := Lib.hid hb0
        clear he hct hw hh e hts hb0
        rcases hbl with rfl | ⟨rfl, rfl⟩
        all_goals
          go_wp2_with fail
          refine (shifts_to s' 27 t (-1) _ HSH.out HC.out (by omega) _).mono ?_
          rintro e w1 ⟨rfl, q, rfl⟩
          have hsz2 : w.heap.size + 3 ≤ (wr.drewN q).heap.size := hsz
          go_wp2_with fail
          refine (tellK_any (w.heap.size + 2) sg fr s' v xs 65533 (w.heap.size + 3) (wr.drewN q) (HB2.out.drewN q) (hown.drewN q) (by omega) hsz2 hpos (by omega) (by omega)).mono ?_
          rintro e w1 ⟨rfl, v1, hB1, hown1, hb1⟩
          go_wp2_with fail
          go_roundw
          case rel => exact ⟨s'.extract 1 s'.size, xs ++ [65533], sg, false, v1, hB1, Box.upto (B := w.heap.size + 2) (hR.drewN q) hb1 (by omega), by rw [HS.out, List.length_append, List.length_singleton]; omega, HF, hown1, Bel.upto (Bel.drewN hb q) hb1 (by omega)⟩
          case measure => rw [cellLen_of c2, cellLen_of (hB1.cell 2 _ rfl), HS.out]; omega
end Go.Proofs.YtcgdecpjlggekaaGreatDoor

/-
  Package kana: All, Decode, byteOf, find, escape, Raw, Encode.
-/
namespace Go.Proofs.YtcgdecpjlggekaaGreatDoor
open Go.RowKit
set_option maxRecDepth 1000000

theorem toldK_to (g : Int) (f : Bool) (s : ByteArray) (last : Bool) (xs : List Int) (g2 : Int) (f2 : Bool) (l : List UInt8) (h : M.toldK last g f s.data.toList = (xs, g2, f2, l)) (hs : s.size ≤ 68719476735) (w : World) : Calls Tryz.prog 95 #[.agg #[.int .i64 g, .bool f], .string s, .bool last] w fun e w' =>
    ∃ v, e = .returned (.tuple #[v, .agg #[.int .i64 g2, .bool f2], .string ⟨l.toArray⟩]) ∧ Own w.heap.size 3 w' v (xs.map (Value.int .i64)) ∧ Bel w w' := by
  have := toldK_any g f s last hs w; rw [h] at this; exact this
theorem allKana_any (s : ByteArray) (hs : s.size ≤ 68719476735) (w : World) : Calls Tryz.prog 123 #[.string s] w fun e w' => ∃ v, e = .returned v ∧ Own w.heap.size 3 w' v ((M.allK s.data.toList).map (Value.int .i64)) ∧ Bel w w' := by
  obtain ⟨⟨xs, g, f, l⟩, ht⟩ : ∃ r, M.toldK true 0 false s.data.toList = r := ⟨_, rfl⟩
  have Ht := Lib.hid ht
  have HA := Lib.hid (show M.allK s.data.toList = xs by rw [M.allK, ht])
  clear ht
  go_enter Tryz.func123, Tryz.ntmps123
  go_wp2_with (go_at_call 95; refine (toldK_to _ _ _ _ _ _ _ _ Ht.out hs _).mono ?_; rintro e w' ⟨v, rfl, ho, hb⟩)
  go_ret
  rw [HA.out]
  exact ⟨_, rfl, ho.alloc _, hb.alloc _⟩
end Go.Proofs.YtcgdecpjlggekaaGreatDoor

/-
  Package stream: All, ready, Decode, Open.
-/
namespace Go.Proofs.YtcgdecpjlggekaaGreatDoor
open Go.RowKit
set_option maxRecDepth 1000000

/-- A state's five values. -/
def stC (d : M.St) : List Value := [.int .i64 d.enc, .string ⟨d.rest.toArray⟩, .int .i64 d.signs, .bool d.fresh, .bool d.stopped]
def stV (d : M.St) : Value := .agg #[.int .i64 d.enc, .string ⟨d.rest.toArray⟩, .int .i64 d.signs, .bool d.fresh, .bool d.stopped]
theorem streamAll_any (n : Int) (h : M.isEnc n = true) (s : ByteArray) (hs : s.size ≤ 68719476734) (w : World) : Calls Tryz.prog 96 #[.int .i64 n, .string s] w fun e w' => ∃ v, e = .returned v ∧ Own w.heap.size 3 w' v ((M.allE n s.data.toList).map (Value.int .i64)) ∧ Bel w w' := by
  rcases M.enc_cases n h with rfl | h1 | h1 | rfl | rfl
  · have H := Lib.hid (show M.allE 1 s.data.toList = M.all8 s.data.toList by rw [M.allE, if_pos rfl])
    clear h
    go_enter Tryz.func96, Tryz.ntmps96
    go_wp2_with (go_at_call 120; refine (all8_any _ hs _).mono ?_; rintro e w' ⟨v, rfl, ho, hb⟩)
    go_ret
    rw [H.out]
    exact ⟨_, rfl, by assumption, by assumption⟩
  · have H := Lib.hid (show M.allE n s.data.toList = M.all16 (n == 3) s.data.toList by rw [M.allE, if_neg (by omega), if_pos h1])
    clear h
    rcases h1 with rfl | rfl
    all_goals
      go_enter Tryz.func96, Tryz.ntmps96
      go_wp2_with (go_at_call 121; refine (all16_any _ _ hs _).mono ?_; rintro e w' ⟨v, rfl, ho, hb⟩)
      go_ret
      rw [H.out]
      exact ⟨_, rfl, by assumption, by assumption⟩
  · have H := Lib.hid (show M.allE n s.data.toList = M.decodeS (n == 5) s.data.toList by rw [M.allE, if_neg (by omega), if_neg (by omega), if_pos h1])
    clear h
    rcases h1 with rfl | rfl
    all_goals
      go_enter Tryz.func96, Tryz.ntmps96
      go_wp2_with (go_at_call 122; refine (all_any _ _ _ (by omega)).mono ?_; rintro e w' ⟨v, rfl, ho, hb⟩)
      go_ret
      rw [H.out]
      exact ⟨_, rfl, by assumption, by assumption⟩
  · have H := Lib.hid (show M.allE 6 s.data.toList = M.allK s.data.toList by rw [M.allE, if_neg (by omega), if_neg (by omega), if_neg (by omega), if_pos rfl])
    clear h
    go_enter Tryz.func96, Tryz.ntmps96
    go_wp2_with (go_at_call 123; refine (allKana_any _ (by omega) _).mono ?_; rintro e w' ⟨v, rfl, ho, hb⟩)
    go_ret
    rw [H.out]
    exact ⟨_, rfl, by assumption, by assumption⟩
  · have H0 : M.allE 7 s.data.toList = if s.data.toList = [] then [] else [65533] := by rw [M.allE, if_neg (by omega), if_neg (by omega), if_neg (by omega), if_neg (by omega)]
    clear h
    by_cases he : s.data.toList = []
    · have H := Lib.hid (show M.allE 7 s.data.toList = [] by rw [H0, if_pos he])
      have e1 : (!s.toList.isEmpty) = false := by rw [Lib.toList_data, he]; rfl
      have e2 : s.toList.isEmpty = true := by rw [Lib.toList_data, he]; rfl
      clear H0 he
      go_enter Tryz.func96, Tryz.ntmps96
      go_wp2_with fail
      go_ret
      rw [H.out]
      exact ⟨_, rfl, Own.nil _ _ _, Bel.refl _⟩
    · have H := Lib.hid (show M.allE 7 s.data.toList = [65533] by rw [H0, if_neg he])
      have e1 : (!s.toList.isEmpty) = true := by rw [Lib.toList_data]; simpa using he
      have e2 : s.toList.isEmpty = false := by rw [Lib.toList_data]; simpa using he
      clear H0 he
      go_enter Tryz.func96, Tryz.ntmps96
      go_wp2_with fail
      go_ret
      rw [H.out]
      exact ⟨_, rfl, Own.made w [.int .i64 65533] (Nat.le_refl _) (by simp [maxLen]), (Bel.refl _).alloc _⟩
end Go.Proofs.YtcgdecpjlggekaaGreatDoor

/-
  Package stream: the decoder's two methods.
-/
namespace Go.Proofs.YtcgdecpjlggekaaGreatDoor
open Go.RowKit
set_option maxRecDepth 1000000

theorem tell8_any (g : Nat) (r : List UInt8)
 (sg : Int) (fr st : Bool) (b : ByteArray) (xs : List Int) (l : List UInt8) (ht : M.told8 (r ++ b.data.toList) = (xs, l)) (hsz : r.length + b.size ≤ 68719476734) (w : World) (hB : Box w g 108 [.int .i64 1, .string ⟨r.toArray⟩, .int .i64 sg, .bool fr, .bool st]) :
    Calls Tryz.prog 76 #[.pointer (some ⟨g, 0, none⟩), .string b] w fun e w' => ∃ v, e = .returned v ∧ Own w.heap.size 3 w' v (xs.map (Value.int .i64)) ∧ Box w' g 108 [.int .i64 1, .string ⟨l.toArray⟩, .int .i64 sg, .bool fr, .bool st] ∧ Below g w w' := by
  have Ht := Lib.hid (show M.told8 ((⟨r.toArray⟩ : ByteArray) ++ b).data.toList = (xs, l) by rw [data_append]; exact ht)
  have HS2 := Lib.hid (show ((⟨r.toArray⟩ : ByteArray) ++ b).size ≤ 68719476734 by rw [Lib.size_eq, data_append, List.length_append, ← Lib.size_eq, ← Lib.size_eq, size_str]; omega)
  have hgl := hB.lt
  have HB := Lib.hid hB
  have c0 := hB.cell 0 _ rfl
  have c1 := hB.cell 1 _ rfl
  have c2 := hB.cell 2 _ rfl
  have c3 := hB.cell 3 _ rfl
  have c4 := hB.cell 4 _ rfl
  have z0 := hB.frozen 0
  have z1 := hB.frozen 1
  have z2 := hB.frozen 2
  have z3 := hB.frozen 3
  have z4 := hB.frozen 4
  clear ht hB
  go_enter Tryz.func76, Tryz.ntmps76
  go_wp2_with (first | (go_at_call 93; refine (told8_to _ _ _ Ht.out (Nat.le_succ_of_le HS2.out) _).mono ?_; rintro e w' ⟨v, rfl, ho, hb1⟩; have hB1 := HB.out.bel hb1; have d0 := hB1.cell 0 _ rfl; have d1 := hB1.cell 1 _ rfl; have d2 := hB1.cell 2 _ rfl; have d3 := hB1.cell 3 _ rfl; have d4 := hB1.cell 4 _ rfl; have y0 := hB1.frozen 0; have y1 := hB1.frozen 1; have y2 := hB1.frozen 2; have y3 := hB1.frozen 3; have y4 := hB1.frozen 4))
  go_ret
  exact ⟨_, rfl, ho.setCell (p := ⟨g, 1, none⟩) hgl _, hB1.set 1 _, below_set (Below.mono hb1 (Nat.le_of_lt hgl)) _ _⟩
theorem tell16_any (g : Nat) (n : Int) (big : Bool) (hn : (n = 2 ∧ big = false) ∨ (n = 3 ∧ big = true)) (r : List UInt8)
 (sg : Int) (fr st : Bool) (b : ByteArray) (xs : List Int) (l : List UInt8) (ht : M.told16 big (r ++ b.data.toList) = (xs, l)) (hsz : r.length + b.size ≤ 68719476734) (w : World) (hB : Box w g 108 [.int .i64 n, .string ⟨r.toArray⟩, .int .i64 sg, .bool fr, .bool st]) :
    Calls Tryz.prog 76 #[.pointer (some ⟨g, 0, none⟩), .string b] w fun e w' => ∃ v, e = .returned v ∧ Own w.heap.size 3 w' v (xs.map (Value.int .i64)) ∧ Box w' g 108 [.int .i64 n, .string ⟨l.toArray⟩, .int .i64 sg, .bool fr, .bool st] ∧ Below g w w' := by
  have Ht := Lib.hid (show M.told16 big ((⟨r.toArray⟩ : ByteArray) ++ b).data.toList = (xs, l) by rw [data_append]; exact ht)
  have HS2 := Lib.hid (show ((⟨r.toArray⟩ : ByteArray) ++ b).size ≤ 68719476734 by rw [Lib.size_eq, data_append, List.length_append, ← Lib.size_eq, ← Lib.size_eq, size_str]; omega)
  have hgl := hB.lt
  have HB := Lib.hid hB
  have c0 := hB.cell 0 _ rfl
  have c1 := hB.cell 1 _ rfl
  have c2 := hB.cell 2 _ rfl
  have c3 := hB.cell 3 _ rfl
  have c4 := hB.cell 4 _ rfl
  have z0 := hB.frozen 0
  have z1 := hB.frozen 1
  have z2 := hB.frozen 2
  have z3 := hB.frozen 3
  have z4 := hB.frozen 4
  clear ht hB
  rcases hn with ⟨rfl, rfl⟩ | ⟨rfl, rfl⟩
  all_goals
    go_enter Tryz.func76, Tryz.ntmps76
    go_wp2_with (first | (go_at_call 94; refine (told16_to _ _ _ _ Ht.out (Nat.le_succ_of_le HS2.out) _).mono ?_; rintro e w' ⟨v, rfl, ho, hb1⟩; have hB1 := HB.out.bel hb1; have d0 := hB1.cell 0 _ rfl; have d1 := hB1.cell 1 _ rfl; have d2 := hB1.cell 2 _ rfl; have d3 := hB1.cell 3 _ rfl; have d4 := hB1.cell 4 _ rfl; have y0 := hB1.frozen 0; have y1 := hB1.frozen 1; have y2 := hB1.frozen 2; have y3 := hB1.frozen 3; have y4 := hB1.frozen 4))
    go_ret
    exact ⟨_, rfl, ho.setCell (p := ⟨g, 1, none⟩) hgl _, hB1.set 1 _, below_set (Below.mono hb1 (Nat.le_of_lt hgl)) _ _⟩
theorem tellS_any (g : Nat) (n : Int) (hn : n = 4 ∨ n = 5) (r : List UInt8)
 (sg : Int) (fr st : Bool) (b : ByteArray) (xs : List Int) (ht : M.allE n (r ++ b.data.toList) = xs) (hsz : r.length + b.size ≤ 68719476734) (w : World) (hB : Box w g 108 [.int .i64 n, .string ⟨r.toArray⟩, .int .i64 sg, .bool fr, .bool st]) :
    Calls Tryz.prog 76 #[.pointer (some ⟨g, 0, none⟩), .string b] w fun e w' => ∃ v, e = .returned v ∧ Own w.heap.size 3 w' v (xs.map (Value.int .i64)) ∧ Box w' g 108 [.int .i64 n, .string ⟨r.toArray⟩, .int .i64 sg, .bool fr, .bool st] ∧ Below g w w' := by
  have Ht := Lib.hid (show M.allE n ((⟨r.toArray⟩ : ByteArray) ++ b).data.toList = xs by rw [data_append]; exact ht)
  have HS2 := Lib.hid (show ((⟨r.toArray⟩ : ByteArray) ++ b).size ≤ 68719476734 by rw [Lib.size_eq, data_append, List.length_append, ← Lib.size_eq, ← Lib.size_eq, size_str]; omega)
  have hgl := hB.lt
  have HB := Lib.hid hB
  have c0 := hB.cell 0 _ rfl
  have c1 := hB.cell 1 _ rfl
  have c2 := hB.cell 2 _ rfl
  have c3 := hB.cell 3 _ rfl
  have c4 := hB.cell 4 _ rfl
  have z0 := hB.frozen 0
  have z1 := hB.frozen 1
  have z2 := hB.frozen 2
  have z3 := hB.frozen 3
  have z4 := hB.frozen 4
  have HI := Lib.hid (show M.isEnc n = true by rw [M.isEnc, decide_eq_true_eq]; omega)
  clear ht hB
  rcases hn with rfl | rfl
  all_goals
    go_enter Tryz.func76, Tryz.ntmps76
    go_wp2_with (first | (go_at_call 96; refine (streamAll_any _ HI.out _ HS2.out _).mono ?_; rintro e w' ⟨v, rfl, ho, hb1⟩; have hB1 := HB.out.bel hb1))
    go_ret
    rw [Ht.out] at ho
    exact ⟨_, rfl, ho, hB1, Below.mono hb1 (Nat.le_of_lt hgl)⟩
theorem tell7_any (g : Nat) (r : List UInt8)
 (sg : Int) (fr st : Bool) (b : ByteArray) (xs : List Int) (hs : st = true ∨ r ++ b.data.toList = []) (hx : xs = []) (hsz : r.length + b.size ≤ 68719476734) (w : World) (hB : Box w g 108 [.int .i64 7, .string ⟨r.toArray⟩, .int .i64 sg, .bool fr, .bool st]) :
    Calls Tryz.prog 76 #[.pointer (some ⟨g, 0, none⟩), .string b] w fun e w' => ∃ v, e = .returned v ∧ Own w.heap.size 3 w' v (xs.map (Value.int .i64)) ∧ Box w' g 108 [.int .i64 7, .string ⟨r.toArray⟩, .int .i64 sg, .bool fr, .bool st] ∧ Below g w w' := by
  subst hx
  have HS2 := Lib.hid (show ((⟨r.toArray⟩ : ByteArray) ++ b).size ≤ 68719476734 by rw [Lib.size_eq, data_append, List.length_append, ← Lib.size_eq, ← Lib.size_eq, size_str]; omega)
  have hgl := hB.lt
  have HB := Lib.hid hB
  have c0 := hB.cell 0 _ rfl
  have c1 := hB.cell 1 _ rfl
  have c2 := hB.cell 2 _ rfl
  have c3 := hB.cell 3 _ rfl
  have c4 := hB.cell 4 _ rfl
  have z0 := hB.frozen 0
  have z1 := hB.frozen 1
  have z2 := hB.frozen 2
  have z3 := hB.frozen 3
  have z4 := hB.frozen 4
  clear hB
  rcases hs with rfl | hs
  · go_enter Tryz.func76, Tryz.ntmps76
    go_wp2_with fail
    go_ret
    exact ⟨_, rfl, Own.nil _ _ _, HB.out, Below.refl _ _⟩
  · have e0 : ((⟨r.toArray⟩ : ByteArray) ++ b).data.toList = [] := by rw [data_append]; exact hs
    have e1 : ((⟨r.toArray⟩ : ByteArray) ++ b).toList.isEmpty = true := by rw [Lib.toList_data, e0]; rfl
    clear e0 hs
    cases st
    · go_enter Tryz.func76, Tryz.ntmps76
      go_wp2_with fail
      go_ret
      exact ⟨_, rfl, Own.nil _ _ _, HB.out, Below.refl _ _⟩
    · go_enter Tryz.func76, Tryz.ntmps76
      go_wp2_with fail
      go_ret
      exact ⟨_, rfl, Own.nil _ _ _, HB.out, Below.refl _ _⟩
theorem tell7_one (g : Nat) (r : List UInt8)
 (sg : Int) (fr st : Bool) (b : ByteArray) (xs : List Int) (hst : st = false) (hs : r ++ b.data.toList ≠ []) (hx : xs = [65533]) (hsz : r.length + b.size ≤ 68719476734) (w : World) (hB : Box w g 108 [.int .i64 7, .string ⟨r.toArray⟩, .int .i64 sg, .bool fr, .bool st]) :
    Calls Tryz.prog 76 #[.pointer (some ⟨g, 0, none⟩), .string b] w fun e w' => ∃ v, e = .returned v ∧ Own w.heap.size 3 w' v (xs.map (Value.int .i64)) ∧ Box w' g 108 [.int .i64 7, .string ⟨r.toArray⟩, .int .i64 sg, .bool fr, .bool true] ∧ Below g w w' := by
  subst hx
  subst hst
  have HS2 := Lib.hid (show ((⟨r.toArray⟩ : ByteArray) ++ b).size ≤ 68719476734 by rw [Lib.size_eq, data_append, List.length_append, ← Lib.size_eq, ← Lib.size_eq, size_str]; omega)
  have hgl := hB.lt
  have HB := Lib.hid hB
  have c0 := hB.cell 0 _ rfl
  have c1 := hB.cell 1 _ rfl
  have c2 := hB.cell 2 _ rfl
  have c3 := hB.cell 3 _ rfl
  have c4 := hB.cell 4 _ rfl
  have z0 := hB.frozen 0
  have z1 := hB.frozen 1
  have z2 := hB.frozen 2
  have z3 := hB.frozen 3
  have z4 := hB.frozen 4
  clear hB
  have e0 : ((⟨r.toArray⟩ : ByteArray) ++ b).data.toList ≠ [] := by rw [data_append]; exact hs
  have e1 : ((⟨r.toArray⟩ : ByteArray) ++ b).toList.isEmpty = false := by rw [Lib.toList_data]; simpa using e0
  have Ht := Lib.hid (show M.allE 7 ((⟨r.toArray⟩ : ByteArray) ++ b).data.toList = [65533] by
    rw [M.allE, if_neg (by omega), if_neg (by omega), if_neg (by omega), if_neg (by omega), if_neg e0])
  have HI := Lib.hid (show M.isEnc 7 = true from rfl)
  have HB2 := Lib.hid (show Box (w.setCell ⟨g, 4, none⟩ (.bool true)) g 108 [.int .i64 7, .string ⟨r.toArray⟩, .int .i64 sg, .bool fr, .bool true] from HB.out.set 4 _)
  clear e0 hs
  go_enter Tryz.func76, Tryz.ntmps76
  go_wp2_with (first | (go_at_call 96; refine (streamAll_any _ HI.out _ HS2.out _).mono ?_; rintro e w' ⟨v, rfl, ho, hb1⟩; have hB1 := HB2.out.bel hb1))
  go_ret
  rw [Ht.out] at ho
  exact ⟨_, rfl, by simpa using ho, hB1, Below.trans (below_set (Below.refl _ _) _ _) (Below.mono hb1 (by simp; omega))⟩
set_option maxHeartbeats 4000000 in
theorem tellK6_any (g : Nat) (r : List UInt8)
 (sg : Int) (fr st : Bool) (b : ByteArray) (xs : List Int) (l : List UInt8) (sg2 : Int) (fr2 : Bool) (ht : M.toldK false sg fr (r ++ b.data.toList) = (xs, sg2, fr2, l)) (hsz : r.length + b.size ≤ 68719476734) (w : World) (hB : Box w g 108 [.int .i64 6, .string ⟨r.toArray⟩, .int .i64 sg, .bool fr, .bool st]) :
    Calls Tryz.prog 76 #[.pointer (some ⟨g, 0, none⟩), .string b] w fun e w' => ∃ v, e = .returned v ∧ Own w.heap.size 3 w' v (xs.map (Value.int .i64)) ∧ Box w' g 108 [.int .i64 6, .string ⟨l.toArray⟩, .int .i64 sg2, .bool fr2, .bool st] ∧ Below g w w' := by
  have Ht := Lib.hid (show M.toldK false sg fr ((⟨r.toArray⟩ : ByteArray) ++ b).data.toList = (xs, sg2, fr2, l) by rw [data_append]; exact ht)
  have HS2 := Lib.hid (show ((⟨r.toArray⟩ : ByteArray) ++ b).size ≤ 68719476734 by rw [Lib.size_eq, data_append, List.length_append, ← Lib.size_eq, ← Lib.size_eq, size_str]; omega)
  have hgl := hB.lt
  have HB := Lib.hid hB
  have c0 := hB.cell 0 _ rfl
  have c1 := hB.cell 1 _ rfl
  have c2 := hB.cell 2 _ rfl
  have c3 := hB.cell 3 _ rfl
  have c4 := hB.cell 4 _ rfl
  have z0 := hB.frozen 0
  have z1 := hB.frozen 1
  have z2 := hB.frozen 2
  have z3 := hB.frozen 3
  have z4 := hB.frozen 4
  clear ht hB
  go_enter Tryz.func76, Tryz.ntmps76
  go_wp2_with fail
  have m2 := World.new_ne w _ c2
  have m3 := World.new_ne w _ c3
  go_region_held3 (fun w' => w'.cell? ⟨g, 2, none⟩ = some (.int .i64 sg) ∧ w'.cell? ⟨g, 3, none⟩ = some (.bool fr)) (go_keep) ((first | (go_at_call 95; refine (toldK_to _ _ _ _ _ _ _ _ Ht.out (Nat.le_succ_of_le HS2.out) _).mono ?_; rintro e w' ⟨v, rfl, ho, hb1⟩; have hB1 := Box.bel (HB.out.bel (by repeat (first | exact Bel.refl _ | refine Bel.drewN ?_ _ | refine Bel.drew ?_ | refine Bel.alloc ?_ _ | refine Bel.trans ?_ (by assumption) | refine Bel.setCell ?_ (by simp; omega) _))) hb1; have d0 := hB1.cell 0 _ rfl; have d1 := hB1.cell 1 _ rfl; have d2 := hB1.cell 2 _ rfl; have d3 := hB1.cell 3 _ rfl; have d4 := hB1.cell 4 _ rfl; have y0 := hB1.frozen 0; have y1 := hB1.frozen 1; have y2 := hB1.frozen 2; have y3 := hB1.frozen 3; have y4 := hB1.frozen 4; have m4 := World.new_ne w' _ d2; have m5 := World.new_ne w' _ d3; try (have hS : Box w' w.heap.size 123 [.int .i64 0, .bool false] := Box.bel (w := (w.alloc (.cells #[.int .i64 0, .bool false] 123)).drew) (Box.new w _ _) hb1; have s0 := hS.cell 0 _ rfl; have s1 := hS.cell 1 _ rfl; have n0 := hS.frozen 0; have n1 := hS.frozen 1))))
  all_goals first
    | (have hA := (hS.set 0 (.int .i64 sg2)).set 1 (.bool fr2)
       have hC := (hB1.far (p := ⟨w.heap.size, 0, none⟩) (by simp; omega) (.int .i64 sg2)).far (p := ⟨w.heap.size, 1, none⟩) (by simp; omega) (.bool fr2)
       have hF := ((Below.mono hb1 (Nat.le_of_lt (show g < (w.alloc (.cells #[.int .i64 0, .bool false] 123)).drew.heap.size by simp; omega))).setCell (p := ⟨w.heap.size, 0, none⟩) (Nat.le_of_lt hgl) (.int .i64 sg2)).setCell (p := ⟨w.heap.size, 1, none⟩) (Nat.le_of_lt hgl) (.bool fr2)
       have hw0 : Below g w (w.alloc (.cells #[.int .i64 0, .bool false] 123)).drew := Below.mono (Bel.drew ((Bel.refl w).alloc _)) (Nat.le_of_lt hgl)
       have hF2 := Below.trans hw0 hF
       have hO : Own w.heap.size 3 _ v (xs.map (Value.int .i64)) := ((ho.setCell (p := ⟨w.heap.size, 0, none⟩) (by simp) (.int .i64 sg2)).setCell (p := ⟨w.heap.size, 1, none⟩) (by simp) (.bool fr2)).mono (by simp)
       clear d0 d1 d2 d3 d4 y0 y1 y2 y3 y4 s0 s1 n0 n1 hF hw0 ho hb1 hB1 hS
       generalize (w'.setCell ⟨w.heap.size, 0, none⟩ (.int .i64 sg2)).setCell ⟨w.heap.size, 1, none⟩ (.bool fr2) = W at *
       generalize hq : w.heap.size = q at *
       have HQ := Lib.hid hq
       clear hq)
    | (have hC := hB1.bel ((Bel.refl w').alloc (.cells #[.int .i64 sg2, .bool fr2] 123))
       have hA := Box.new w' 123 [.int .i64 sg2, .bool fr2]
       have hF2 : Below g w (w'.alloc (.cells #[.int .i64 sg2, .bool fr2] 123)) := Below.mono ((Bel.trans ((Bel.refl w).drew) hb1).alloc _) (Nat.le_of_lt hgl)
       have hO : Own w.heap.size 3 _ v (xs.map (Value.int .i64)) := ho.alloc (.cells #[.int .i64 sg2, .bool fr2] 123)
       have hg2 : g < w'.heap.size := hB1.lt
       clear ho hb1 hB1 d0 d1 d2 d3 d4 y0 y1 y2 y3 y4
       generalize w'.alloc (.cells #[.int .i64 sg2, .bool fr2] 123) = W at *
       generalize w'.heap.size = q at *)
  all_goals
    clear c0 c1 c2 c3 c4 z0 z1 z2 z3 z4
    have s0 := hA.cell 0 _ rfl
    have s1 := hA.cell 1 _ rfl
    have gq : ¬ q = g := by omega
    have qg : ¬ g = q := by omega
    have d0 := hC.cell 0 _ rfl; have d1 := hC.cell 1 _ rfl; have d2 := hC.cell 2 _ rfl; have d3 := hC.cell 3 _ rfl; have d4 := hC.cell 4 _ rfl; have y0 := hC.frozen 0; have y1 := hC.frozen 1; have y2 := hC.frozen 2; have y3 := hC.frozen 3; have y4 := hC.frozen 4
    go_wp2_with fail
    go_region_held3 (fun w' => w'.cell? ⟨q, 0, none⟩ = some (.int .i64 sg2) ∧ w'.cell? ⟨q, 1, none⟩ = some (.bool fr2)) (go_keep) (fail)
  all_goals
    go_wp2_with fail
    go_ret
    refine ⟨_, rfl, ?_, ?_, ?_⟩
    · first | rw [HQ.out] | skip
      repeat (first | exact hO | refine Own.setCell ?_ (by exact hgl) _ | refine Own.drew ?_)
    · first | exact ((hC.set 2 _).set 3 _).set 1 _ | exact ((hC.set 3 _).set 2 _).set 1 _ | exact ((hC.set 2 _).set 1 _).set 3 _ | exact ((hC.set 1 _).set 2 _).set 3 _ | exact ((hC.set 3 _).set 1 _).set 2 _ | exact ((hC.set 1 _).set 3 _).set 2 _
    · repeat (first | exact hF2 | refine below_set ?_ _ _ | refine Below.drew ?_)
end Go.Proofs.YtcgdecpjlggekaaGreatDoor

/-
  What waits, in the document's words.
-/
namespace Go.Proofs.YtcgdecpjlggekaaGreatDoor.M
open Go

theorem wait8 (c : UInt8) (t : Bs) : told8 (c :: t) = ([], c :: t) ↔ ok8 c t = true ∧ (t.length : Int) < (lead8 c.toNat).1 := by
  have no : (first8 (c :: t)).2.2 = true → ¬ told8 (c :: t) = ([], c :: t) := fun h1 h2 => by
    rw [told8_ok c t h1] at h2; cases h2
  rcases round8 c t with ⟨h1, h2, h3⟩ | ⟨m, K, h1, h2, h3, h4, _, h6, h7⟩
  · refine ⟨fun h => absurd h (no (by rw [h3])), fun h => by omega⟩
  · rcases h7 with ⟨h8, h9⟩ | ⟨h8, h9, h10, h11⟩ | ⟨h8, h9, h10⟩
    · refine ⟨fun h => absurd h (no (by rw [h9])), fun h => by omega⟩
    · refine ⟨fun h => absurd h (no (by rw [h11])), fun h => ?_⟩
      have := (ok8_first8 c t (by omega) (by omega)).1 h.1
      rw [h11] at this
      simp only at this
      omega
    · refine ⟨fun _ => ⟨?_, by omega⟩, fun _ => told8_no c t (by rw [h10])⟩
      have := h6 t.length (by omega)
      rwa [List.take_length] at this
theorem wait16 (big : Bool) (a b : UInt8) (t : Bs) (ht : t.length < 2) : told16 big (a :: b :: t) = ([], a :: b :: t) ↔ isHi (unit16 big a b) = true := by
  rcases say16 big a b t with ⟨h1, e⟩ | ⟨h1, _, e⟩ | ⟨c, d, u, rfl, _, _, e⟩ | ⟨c, d, u, rfl, _, _, e⟩
  · rw [e, h1]; simp
  · rw [e]; simp [h1]
  · simp only [List.length_cons] at ht; omega
  · simp only [List.length_cons] at ht; omega
def okC (n : Int) (c : UInt8) (t : Bs) : Bool :=
  if n = 1 then decide (t.length ≤ 2) && (ok8 c t && decide ((t.length : Int) + 1 < (lead8 c.toNat).1 + 1))
  else if n = 2 ∨ n = 3 then (match t with | [] => true | b :: u => decide (u.length ≤ 1) && isHi (unit16 (n == 3) c b))
  else if n = 6 then decide (c :: t = [27] ∨ c :: t = [27, 40]) else false
/-- May it wait? In the document's words. -/
def okR (n : Int) : Bs → Bool
  | [] => true
  | c :: t => okC n c t
theorem okR_iff (n : Int) (h : isEnc n = true) (s : Bs) : okR n s = true ↔ s.length ≤ 3 ∧ restOk n s = true := by
  rw [restOk_iff n h]
  match s with
  | [] =>
    refine ⟨fun _ => ⟨by simp, fun _ => rfl, fun _ => told16_nil _, fun _ => .inl rfl, fun _ => rfl⟩, fun _ => rfl⟩
  | c :: t =>
    show okC n c t = true ↔ _
    unfold okC
    rcases enc_cases n h with h1 | h1 | h1 | h1 | h1
    · rw [if_pos h1]
      simp only [Bool.and_eq_true, decide_eq_true_eq, wait8, List.length_cons]
      constructor
      · rintro ⟨h2, h3, h4⟩
        exact ⟨by omega, fun _ => ⟨h3, by omega⟩, fun h => by omega, fun h => by omega, fun h => by omega⟩
      · rintro ⟨h2, h3, _⟩
        exact ⟨by omega, (h3 h1).1, by have := (h3 h1).2; omega⟩
    · rw [if_neg (by omega), if_pos h1]
      match t with
      | [] =>
        refine ⟨fun _ => ⟨by simp, fun h => by omega, fun _ => told16_one _ _, fun h => by omega, fun h => by omega⟩, fun _ => rfl⟩
      | b :: u =>
        simp only [Bool.and_eq_true, decide_eq_true_eq, List.length_cons]
        constructor
        · rintro ⟨h2, h3⟩
          exact ⟨by omega, fun h => by omega, fun _ => (wait16 _ c b u (by omega)).2 h3, fun h => by omega, fun h => by omega⟩
        · rintro ⟨h2, _, h3, _⟩
          exact ⟨by omega, (wait16 _ c b u (by omega)).1 (h3 h1)⟩
    · rw [if_neg (by omega), if_neg (by omega), if_neg (by omega)]
      refine ⟨fun h => (by cases h), ?_⟩
      rintro ⟨_, _, _, _, h5⟩
      exact absurd (h5 (by omega)) (by simp)
    · rw [if_neg (by omega), if_neg (by omega), if_pos h1, decide_eq_true_eq]
      constructor
      · intro h2
        refine ⟨by rcases h2 with h2 | h2 <;> simp [h2], fun h => by omega, fun h => by omega, fun _ => .inr h2, fun h => by omega⟩
      · rintro ⟨_, _, _, h4, _⟩
        rcases h4 h1 with h5 | h5
        · cases h5
        · exact h5
    · rw [if_neg (by omega), if_neg (by omega), if_neg (by omega)]
      refine ⟨fun h => (by cases h), ?_⟩
      rintro ⟨_, _, _, _, h5⟩
      exact absurd (h5 (by omega)) (by simp)
theorem check_ref (d : St) (h : isEnc d.enc = true) : checkM d = if okR d.enc d.rest = false then 1 else if stateOk d = false then 4 else 0 := by
  rw [checkM, if_neg (by rw [h]; decide)]
  have := okR_iff d.enc h d.rest
  cases ho : okR d.enc d.rest with
  | false =>
    rw [if_pos, if_pos rfl]
    rw [ho] at this
    simp only [Bool.false_eq_true, false_iff, not_and, Bool.not_eq_true] at this
    by_cases hl : 3 < d.rest.length
    · exact .inl hl
    · exact .inr (this (by omega))
  | true =>
    obtain ⟨h1, h2⟩ := this.1 ho
    rw [if_neg (by rw [h2]; simp; omega), if_neg (show ¬ (true = false) by decide)]
theorem told8_le (s : Bs) : (told8 s).1.length ≤ s.length := by
  have h := (all8_many _ s (Nat.le_refl _)).1
  rw [all8] at h
  split at h
  · exact h
  · rw [List.length_append] at h; omega
theorem tell_len (d : St) (h : isEnc d.enc = true) (b : Bs) : (tellM d b).1.length ≤ d.rest.length + b.length := by
  have hl : (d.rest ++ b).length = d.rest.length + b.length := List.length_append
  rcases enc_cases d.enc h with h1 | h1 | h1 | h1 | h1
  · rw [tellM, if_pos h1, ← hl]; exact told8_le _
  · rw [tellM, if_neg (by omega), if_pos h1, ← hl]
    have := (told16_len (d.enc == 3) _ (d.rest ++ b) (Nat.le_refl _)).1
    simp only
    omega
  · rw [tellM, if_neg (by omega), if_neg (by omega), if_neg (by omega), if_neg (by omega)]
    have e2 : allE d.enc (d.rest ++ b) = decodeS (d.enc == 5) (d.rest ++ b) := by rw [allE, if_neg (by omega), if_neg (by omega), if_pos h1]
    simp only [e2, decodeS, List.length_map]
    omega
  · rw [tellM, if_neg (by omega), if_neg (by omega), if_pos h1, ← hl]
    have := (toldK_rest false _ (d.rest ++ b) d.signs d.fresh (Nat.le_refl _)).1
    simp only
    omega
  · rw [tellM, if_neg (by omega), if_neg (by omega), if_neg (by omega), if_pos h1]
    split
    · simp
    · rename_i h2
      simp only [List.length_singleton]
      have : d.rest ++ b ≠ [] := fun h3 => h2 (.inr h3)
      have := List.length_pos_iff.2 this
      omega
theorem end_len (d : St) : (endM d).length ≤ d.rest.length + 1 := by
  unfold endM
  split
  · simp
  · split
    · have := (toldK_rest true _ d.rest d.signs d.fresh (Nat.le_refl _)).1
      omega
    · simp
end Go.Proofs.YtcgdecpjlggekaaGreatDoor.M

/-
  Package stream: end, rest, Check, Raw, Feed.
-/
namespace Go.Proofs.YtcgdecpjlggekaaGreatDoor
open Go.RowKit
set_option maxRecDepth 1000000

theorem tell_any (g : Nat) (d : M.St) (h : M.isEnc d.enc = true) (b : ByteArray) (hsz : d.rest.length + b.size ≤ 68719476734) (w : World) (hB : Box w g 108 (stC d)) :
    Calls Tryz.prog 76 #[.pointer (some ⟨g, 0, none⟩), .string b] w fun e w' => ∃ v, e = .returned v ∧ Own w.heap.size 3 w' v ((M.tellM d b.data.toList).1.map (Value.int .i64)) ∧ Box w' g 108 (stC (M.tellM d b.data.toList).2) ∧ Below g w w' := by
  obtain ⟨n, r, sg, fr, st⟩ := d
  simp only at h hsz
  rcases M.enc_cases n h with rfl | h1 | h1 | rfl | rfl
  · obtain ⟨⟨xs, l⟩, ht⟩ : ∃ q, M.told8 (r ++ b.data.toList) = q := ⟨_, rfl⟩
    have e : M.tellM ⟨1, r, sg, fr, st⟩ b.data.toList = (xs, ⟨1, l, sg, fr, st⟩) := by rw [M.tellM, if_pos rfl]; simp only [ht]
    rw [e]
    exact tell8_any g r sg fr st b xs l ht hsz w hB
  · obtain ⟨⟨xs, l⟩, ht⟩ : ∃ q, M.told16 (n == 3) (r ++ b.data.toList) = q := ⟨_, rfl⟩
    have e : M.tellM ⟨n, r, sg, fr, st⟩ b.data.toList = (xs, ⟨n, l, sg, fr, st⟩) := by rw [M.tellM, if_neg (by simp only; omega), if_pos h1]; simp only [ht]
    rw [e]
    exact tell16_any g n (n == 3) (by rcases h1 with rfl | rfl <;> simp) r sg fr st b xs l ht hsz w hB
  · have e : M.tellM ⟨n, r, sg, fr, st⟩ b.data.toList = (M.allE n (r ++ b.data.toList), ⟨n, r, sg, fr, st⟩) := by
      rw [M.tellM, if_neg (by simp only; omega), if_neg (by simp only; omega), if_neg (by simp only; omega), if_neg (by simp only; omega)]
    rw [e]
    exact tellS_any g n h1 r sg fr st b _ rfl hsz w hB
  · obtain ⟨⟨xs, sg2, fr2, l⟩, ht⟩ : ∃ q, M.toldK false sg fr (r ++ b.data.toList) = q := ⟨_, rfl⟩
    have e : M.tellM ⟨6, r, sg, fr, st⟩ b.data.toList = (xs, ⟨6, l, sg2, fr2, st⟩) := by rw [M.tellM, if_neg (by simp only; omega), if_neg (by simp only; omega), if_pos rfl]; simp only [ht]
    rw [e]
    exact tellK6_any g r sg fr st b xs l sg2 fr2 ht hsz w hB
  · have e : M.tellM ⟨7, r, sg, fr, st⟩ b.data.toList = if st = true ∨ r ++ b.data.toList = [] then ([], ⟨7, r, sg, fr, st⟩) else ([65533], ⟨7, r, sg, fr, true⟩) := by
      rw [M.tellM, if_neg (by simp only; omega), if_neg (by simp only; omega), if_neg (by simp only; omega), if_pos rfl]
    rw [e]
    by_cases hs : st = true ∨ r ++ b.data.toList = []
    · rw [if_pos hs]
      exact tell7_any g r sg fr st b [] hs rfl hsz w hB
    · rw [if_neg hs]
      have h2 : st = false := by cases st; rfl; exact absurd (.inl rfl) hs
      exact tell7_one g r sg fr st b _ h2 (fun h3 => hs (.inr h3)) rfl hsz w hB
def Only (g : Nat) (a w : World) : Prop := ∀ k, k ≠ g → k < a.heap.size → w.heap[k]? = a.heap[k]?
theorem Only.of {g : Nat} {a w : World} (h : Bel a w) : Only g a w := fun k _ hk => h.block k hk
theorem Only.set {g : Nat} {a w : World} (h : Only g a w) (i : Nat) (u : Value) : Only g a (w.setCell ⟨g, i, none⟩ u) := fun k h1 h2 => (Below.heap_setCell w ⟨g, i, none⟩ u k h1).trans (h k h1 h2)
theorem Own.only {B g : Nat} {e : TypeId} {w w' : World} {v : Value} {xs : List Value} (h : Own B e w v xs) (ho : Only g w w') (hg : g < B) : Own B e w' v xs := by
  refine ⟨h.1, ?_⟩
  rcases h.2 with h2 | ⟨k, cap, cur, r0, r1, r2, r3⟩
  · exact .inl h2
  · exact .inr ⟨k, cap, cur, r0, r1, (ho k (by omega) (Array.getElem?_eq_some_iff.1 r2).1).trans r2, r3⟩
set_option maxHeartbeats 2000000 in
theorem end_any (g : Nat) (n : Int) (r : List UInt8) (sg : Int) (fr st : Bool) (xs : List Int) (hx : M.endM ⟨n, r, sg, fr, st⟩ = xs) (hsz : r.length ≤ 3) (w : World) (hB : Box w g 108 [.int .i64 n, .string ⟨r.toArray⟩, .int .i64 sg, .bool fr, .bool st]) :
    Calls Tryz.prog 77 #[.pointer (some ⟨g, 0, none⟩)] w fun e w' => ∃ v, e = .returned v ∧ Own w.heap.size 3 w' v (xs.map (Value.int .i64)) ∧ Box w' g 108 [.int .i64 n, .string ⟨#[]⟩, .int .i64 0, .bool false, .bool false] ∧ Below g w w' ∧ Only g w w' := by
  have hgl := hB.lt
  have HB := Lib.hid hB
  have c0 := hB.cell 0 _ rfl
  have c1 := hB.cell 1 _ rfl
  have c2 := hB.cell 2 _ rfl
  have c3 := hB.cell 3 _ rfl
  have c4 := hB.cell 4 _ rfl
  have z0 := hB.frozen 0
  have z1 := hB.frozen 1
  have z2 := hB.frozen 2
  have z3 := hB.frozen 3
  have z4 := hB.frozen 4
  by_cases h0 : r = []
  · subst h0
    rw [M.endM, if_pos rfl] at hx
    subst hx
    clear hB
    go_enter Tryz.func77, Tryz.ntmps77
    go_wp2_with fail
    go_ret
    exact ⟨_, rfl, ((((Own.setCell (Own.nil _ _ _) (p := ⟨g, 0, none⟩) hgl _).setCell (p := ⟨g, 1, none⟩) hgl _).setCell (p := ⟨g, 2, none⟩) hgl _).setCell (p := ⟨g, 3, none⟩) hgl _).setCell (p := ⟨g, 4, none⟩) hgl _, ((((HB.out.set 0 _).set 1 _).set 2 _).set 3 _).set 4 _, below_set (below_set (below_set (below_set (below_set (Below.refl _ _) _ _) _ _) _ _) _ _) _ _, (((((Only.of (Bel.refl _)).set 0 _).set 1 _).set 2 _).set 3 _).set 4 _⟩
  · have e1 : (!(⟨r.toArray⟩ : ByteArray).toList.isEmpty) = true := by rw [Lib.toList_data]; simpa using h0
    have e2 : (⟨r.toArray⟩ : ByteArray).toList.isEmpty = false := by rw [Lib.toList_data]; simpa using h0
    have e3 : (!r.isEmpty) = true := by simpa using h0
    have e4 : r.isEmpty = false := by simpa using h0
    by_cases h6 : n = 6
    · subst h6
      obtain ⟨⟨ys, sg2, fr2, l⟩, ht⟩ : ∃ q, M.toldK true sg fr r = q := ⟨_, rfl⟩
      have hxs : xs = ys := by rw [← hx, M.endM, if_neg h0, if_pos rfl]; simp only [ht]
      subst hxs
      have Ht := Lib.hid (show M.toldK true sg fr (⟨r.toArray⟩ : ByteArray).data.toList = (xs, sg2, fr2, l) from ht)
      have HS := Lib.hid (show (⟨r.toArray⟩ : ByteArray).size ≤ 68719476735 by rw [size_str]; omega)
      clear hB ht hx h0
      go_enter Tryz.func77, Tryz.ntmps77
      go_wp2_with fail
      go_region_held3 (fun w' => w'.cell? ⟨g, 1, none⟩ = some (.string ⟨r.toArray⟩) ∧ w'.cell? ⟨g, 2, none⟩ = some (.int .i64 sg) ∧ w'.cell? ⟨g, 3, none⟩ = some (.bool fr)) (go_keep) ((first | (go_at_call 95; refine (toldK_to _ _ _ _ _ _ _ _ Ht.out HS.out _).mono ?_; rintro e w' ⟨v, rfl, ho, hb1⟩; have hB1 := Box.bel (HB.out.bel (by repeat (first | exact Bel.refl _ | refine Bel.drewN ?_ _ | refine Bel.drew ?_ | refine Bel.alloc ?_ _ | refine Bel.trans ?_ (by assumption) | refine Bel.setCell ?_ (by simp; omega) _))) hb1; have d0 := hB1.cell 0 _ rfl; have d1 := hB1.cell 1 _ rfl; have d2 := hB1.cell 2 _ rfl; have d3 := hB1.cell 3 _ rfl; have d4 := hB1.cell 4 _ rfl; have y0 := hB1.frozen 0; have y1 := hB1.frozen 1; have y2 := hB1.frozen 2; have y3 := hB1.frozen 3; have y4 := hB1.frozen 4)))
      all_goals
        go_wp2_with fail
        go_ret
        exact ⟨_, rfl, ((((Own.setCell ho (p := ⟨g, 0, none⟩) hgl _).setCell (p := ⟨g, 1, none⟩) hgl _).setCell (p := ⟨g, 2, none⟩) hgl _).setCell (p := ⟨g, 3, none⟩) hgl _).setCell (p := ⟨g, 4, none⟩) hgl _, ((((hB1.set 0 _).set 1 _).set 2 _).set 3 _).set 4 _, below_set (below_set (below_set (below_set (below_set (Below.mono (Bel.trans ((Bel.refl w).drew) hb1) (Nat.le_of_lt hgl)) _ _) _ _) _ _) _ _) _ _, (((((Only.of (Bel.trans ((Bel.refl w).drew) hb1)).set 0 _).set 1 _).set 2 _).set 3 _).set 4 _⟩
    · have hxs : xs = [65533] := by rw [← hx, M.endM, if_neg h0, if_neg h6]
      subst hxs
      have e6 : (n == 6) = false := by simpa using h6
      clear hB hx h0 h6
      go_enter Tryz.func77, Tryz.ntmps77
      go_wp2_with fail
      go_ret
      have hO := Own.made (B := w.heap.size) (e := 3) (((((w.setCell ⟨g, 0, none⟩ (.int .i64 n)).setCell ⟨g, 1, none⟩ (.string ⟨#[]⟩)).setCell ⟨g, 2, none⟩ (.int .i64 0)).setCell ⟨g, 3, none⟩ (.bool false)).setCell ⟨g, 4, none⟩ (.bool false)) [.int .i64 65533] (by simp) (by simp [maxLen])
      simp only [World.size_setCell, List.length_singleton] at hO
      exact ⟨_, rfl, hO, (((((HB.out.set 0 _).set 1 _).set 2 _).set 3 _).set 4 _).bel ((Bel.refl _).alloc _), Below.alloc (below_set (below_set (below_set (below_set (below_set (Below.refl _ _) _ _) _ _) _ _) _ _) _ _) (by simp; omega) _, fun k h1 h2 => (((Bel.refl _).alloc _).block k (by simpa using h2)).trans ((((((Only.of (Bel.refl w)).set 0 _).set 1 _).set 2 _).set 3 _).set 4 _ k h1 h2)⟩
theorem tell_to (g : Nat) (n : Int) (q : List Int × M.St) (b : ByteArray) (ht : M.tellM (M.opn n) b.data.toList = q) (h : M.isEnc n = true) (hsz : b.size ≤ 68719476734) (w : World) (hB : Box w g 108 [.int .i64 n, .string ⟨#[]⟩, .int .i64 0, .bool false, .bool false]) :
    Calls Tryz.prog 76 #[.pointer (some ⟨g, 0, none⟩), .string b] w fun e w' => ∃ v, e = .returned v ∧ Own w.heap.size 3 w' v (q.1.map (Value.int .i64)) ∧ Box w' g 108 (stC q.2) ∧ Below g w w' := by
  have := tell_any g (M.opn n) h b (by simpa [M.opn] using hsz) w hB
  rw [ht] at this
  exact this
theorem rest_any (n : Int) (h : M.isEnc n = true) (s : ByteArray) (hs : s.size ≤ 3) (w : World) : Calls Tryz.prog 83 #[.int .i64 n, .string s] w fun e w' => e = .returned (.bool (M.restOk n s.data.toList)) ∧ Bel w w' := by
  by_cases h0 : s.data.toList = []
  · have HF := Lib.hid (show M.restOk n s.data.toList = true by rw [M.restOk, decide_eq_true_eq]; exact .inl h0)
    have e2 : s.toList.isEmpty = true := by rw [Lib.toList_data, h0]; rfl
    clear h0
    go_enter Tryz.func83, Tryz.ntmps83
    go_wp2_with fail
    go_ret
    rw [HF.out]
    exact ⟨rfl, Bel.refl _⟩
  · have e2 : s.toList.isEmpty = false := by rw [Lib.toList_data]; simpa using h0
    obtain ⟨⟨xs, d2⟩, ht⟩ : ∃ q, M.tellM (M.opn n) s.data.toList = q := ⟨_, rfl⟩
    have HT := Lib.hid ht
    have HI := Lib.hid h
    have hro : M.restOk n s.data.toList = decide (xs = [] ∧ d2.rest = s.data.toList) := by
      rw [M.restOk, ht]; simp [h0]
    by_cases hx : xs = []
    · by_cases hr : d2.rest = s.data.toList
      · have HF := Lib.hid (show M.restOk n s.data.toList = true by rw [hro, decide_eq_true_eq]; exact ⟨hx, hr⟩)
        have e3 : ((⟨d2.rest.toArray⟩ : ByteArray).toList == s.toList) = true := by rw [Lib.toList_data, Lib.toList_data, beq_iff_eq]; exact hr
        have e4 : (d2.rest == s.toList) = true := by rw [Lib.toList_data, beq_iff_eq]; exact hr
        subst hx
        clear h0 ht hro hr h
        go_enter Tryz.func83, Tryz.ntmps83
        go_wp2_with (first | (go_at_call 76; refine (tell_to w.heap.size n _ s HT.out HI.out (by omega) _ (Box.new w _ _)).mono ?_; rintro e w' ⟨v, rfl, ho, hB1, hb1⟩; obtain ⟨A, c, hv, hlc, hcm, _⟩ := ho.form; rw [List.length_map] at hv hlc; subst hv; unfold maxLen at hcm; have d1 := hB1.cell 1 _ rfl))
        go_ret
        rw [HF.out]
        exact ⟨rfl, Bel.upto ((Bel.refl w).alloc _) hb1 (Nat.le_refl _)⟩
      · have HF := Lib.hid (show M.restOk n s.data.toList = false by rw [hro, decide_eq_false_iff_not]; exact fun h => hr h.2)
        have e3 : ((⟨d2.rest.toArray⟩ : ByteArray).toList == s.toList) = false := by rw [Lib.toList_data, Lib.toList_data, beq_eq_false_iff_ne]; exact hr
        have e4 : (d2.rest == s.toList) = false := by rw [Lib.toList_data, beq_eq_false_iff_ne]; exact hr
        subst hx
        clear h0 ht hro hr h
        go_enter Tryz.func83, Tryz.ntmps83
        go_wp2_with (first | (go_at_call 76; refine (tell_to w.heap.size n _ s HT.out HI.out (by omega) _ (Box.new w _ _)).mono ?_; rintro e w' ⟨v, rfl, ho, hB1, hb1⟩; obtain ⟨A, c, hv, hlc, hcm, _⟩ := ho.form; rw [List.length_map] at hv hlc; subst hv; unfold maxLen at hcm; have d1 := hB1.cell 1 _ rfl))
        go_ret
        rw [HF.out]
        exact ⟨rfl, Bel.upto ((Bel.refl w).alloc _) hb1 (Nat.le_refl _)⟩
    · have HF := Lib.hid (show M.restOk n s.data.toList = false by rw [hro, decide_eq_false_iff_not]; exact fun h => hx h.1)
      have e3 : ((xs.length : Int) == 0) = false := by rw [beq_eq_false_iff_ne]; intro h; apply hx; exact List.eq_nil_of_length_eq_zero (by omega)
      clear h0 ht hro hx h
      go_enter Tryz.func83, Tryz.ntmps83
      go_wp2_with (first | (go_at_call 76; refine (tell_to w.heap.size n _ s HT.out HI.out (by omega) _ (Box.new w _ _)).mono ?_; rintro e w' ⟨v, rfl, ho, hB1, hb1⟩; obtain ⟨A, c, hv, hlc, hcm, _⟩ := ho.form; rw [List.length_map] at hv hlc; subst hv; unfold maxLen at hcm; have d1 := hB1.cell 1 _ rfl))
      go_ret
      rw [HF.out]
      exact ⟨rfl, Bel.upto ((Bel.refl w).alloc _) hb1 (Nat.le_refl _)⟩
end Go.Proofs.YtcgdecpjlggekaaGreatDoor

/-
  Package stream: Check, Raw, Feed.
-/
namespace Go.Proofs.YtcgdecpjlggekaaGreatDoor
open Go.RowKit
set_option maxRecDepth 1000000

theorem rest_to (n : Int) (s : ByteArray) (b : Bool) (hb : M.restOk n s.data.toList = b) (h : M.isEnc n = true) (hs : s.size ≤ 3) (w : World) : Calls Tryz.prog 83 #[.int .i64 n, .string s] w fun e w' => e = .returned (.bool b) ∧ Bel w w' := by
  have := rest_any n h s hs w; rw [hb] at this; exact this
set_option maxHeartbeats 4000000 in
theorem check_any (n : Int) (r : ByteArray) (sg : Int) (fr st : Bool) (k : Int) (hk : M.checkM ⟨n, r.data.toList, sg, fr, st⟩ = k) (w : World) : Calls Tryz.prog 63 #[.agg #[.int .i64 n, .string r, .int .i64 sg, .bool fr, .bool st]] w fun e w' => e = .returned (.int .i64 k) ∧ Bel w w' := by
  cases h : M.isEnc n with
  | false =>
    have HI := Lib.hid h
    obtain rfl : k = 6 := by rw [← hk, M.checkM, if_pos h]
    clear h hk
    go_enter Tryz.func63, Tryz.ntmps63
    go_wp2_with (first | (go_at_call 61; refine (isEnc_any _ _).mono ?_; rintro e w' ⟨rfl, rfl⟩; rw [HI.out]))
    go_ret
    exact ⟨rfl, (by repeat (first | exact Bel.refl _ | refine Bel.drewN ?_ _ | refine Bel.drew ?_ | refine Bel.alloc ?_ _ | refine Bel.trans ?_ (by assumption) | refine Bel.setCell ?_ (by simp; omega) _))⟩
  | true =>
    have HI := Lib.hid h
    by_cases hl : 3 < r.size
    · obtain rfl : k = 1 := by rw [← hk, M.checkM, if_neg (by rw [h]; decide), if_pos (.inl (by rw [← Lib.size_eq]; exact hl))]
      clear h hk
      go_enter Tryz.func63, Tryz.ntmps63
      go_wp2_with (first | (go_at_call 61; refine (isEnc_any _ _).mono ?_; rintro e w' ⟨rfl, rfl⟩; rw [HI.out]))
      go_ret
      exact ⟨rfl, (by repeat (first | exact Bel.refl _ | refine Bel.drewN ?_ _ | refine Bel.drew ?_ | refine Bel.alloc ?_ _ | refine Bel.trans ?_ (by assumption) | refine Bel.setCell ?_ (by simp; omega) _))⟩
    · have HS := Lib.hid (show r.size ≤ 3 by omega)
      cases hr : M.restOk n r.data.toList with
      | false =>
        have HR := Lib.hid hr
        obtain rfl : k = 1 := by rw [← hk, M.checkM, if_neg (by rw [h]; decide), if_pos (.inr hr)]
        clear h hk hr
        go_enter Tryz.func63, Tryz.ntmps63
        go_wp2_with (first | (go_at_call 61; refine (isEnc_any _ _).mono ?_; rintro e w' ⟨rfl, rfl⟩; rw [HI.out]) | (go_at_call 83; refine (rest_to _ _ _ HR.out HI.out HS.out _).mono ?_; rintro e w' ⟨rfl, hb1⟩; have hBx := Box.bel (Box.new w _ _) hb1; have c0 := hBx.cell 0 _ rfl; have c1 := hBx.cell 1 _ rfl; have c2 := hBx.cell 2 _ rfl; have c3 := hBx.cell 3 _ rfl; have c4 := hBx.cell 4 _ rfl))
        go_ret
        exact ⟨rfl, (by repeat (first | exact Bel.refl _ | refine Bel.drewN ?_ _ | refine Bel.drew ?_ | refine Bel.alloc ?_ _ | refine Bel.trans ?_ (by assumption) | refine Bel.setCell ?_ (by simp; omega) _))⟩
      | true =>
        have HR := Lib.hid hr
        have hk2 : k = if M.stateOk ⟨n, r.data.toList, sg, fr, st⟩ = false then 4 else 0 := by
          rw [← hk, M.checkM, if_neg (by rw [h]; decide), if_neg]
          rw [← Lib.size_eq]
          rintro (h9 | h9)
          · exact hl h9
          · rw [hr] at h9; cases h9
        have hs2 : M.stateOk ⟨n, r.data.toList, sg, fr, st⟩ = !(decide (sg < 0 ∨ 2 < sg) || (decide (n ≠ 6) && (decide (sg ≠ 0) || fr)) || (decide (n ≠ 7) && st)) := rfl
        clear h hk hr
        have key : ∀ b, M.stateOk ⟨n, r.data.toList, sg, fr, st⟩ = b → k = if b = false then 4 else 0 := fun b hb => by rw [hk2, hb]
        have KEY := Lib.hid key
        clear key hk2
        by_cases g1 : sg < 0
        · obtain rfl : k = 4 := KEY.out false (by rw [hs2]; simp [g1])
          clear hs2
          go_enter Tryz.func63, Tryz.ntmps63
          go_wp2_with (first | (go_at_call 61; refine (isEnc_any _ _).mono ?_; rintro e w' ⟨rfl, rfl⟩; rw [HI.out]) | (go_at_call 83; refine (rest_to _ _ _ HR.out HI.out HS.out _).mono ?_; rintro e w' ⟨rfl, hb1⟩; have hBx := Box.bel (Box.new w _ _) hb1; have c0 := hBx.cell 0 _ rfl; have c1 := hBx.cell 1 _ rfl; have c2 := hBx.cell 2 _ rfl; have c3 := hBx.cell 3 _ rfl; have c4 := hBx.cell 4 _ rfl))
          go_ret
          exact ⟨rfl, (by repeat (first | exact Bel.refl _ | refine Bel.drewN ?_ _ | refine Bel.drew ?_ | refine Bel.alloc ?_ _ | refine Bel.trans ?_ (by assumption) | refine Bel.setCell ?_ (by simp; omega) _))⟩
        · by_cases g2 : 2 < sg
          · obtain rfl : k = 4 := KEY.out false (by rw [hs2]; simp [g2])
            clear hs2
            go_enter Tryz.func63, Tryz.ntmps63
            go_wp2_with (first | (go_at_call 61; refine (isEnc_any _ _).mono ?_; rintro e w' ⟨rfl, rfl⟩; rw [HI.out]) | (go_at_call 83; refine (rest_to _ _ _ HR.out HI.out HS.out _).mono ?_; rintro e w' ⟨rfl, hb1⟩; have hBx := Box.bel (Box.new w _ _) hb1; have c0 := hBx.cell 0 _ rfl; have c1 := hBx.cell 1 _ rfl; have c2 := hBx.cell 2 _ rfl; have c3 := hBx.cell 3 _ rfl; have c4 := hBx.cell 4 _ rfl))
            go_ret
            exact ⟨rfl, (by repeat (first | exact Bel.refl _ | refine Bel.drewN ?_ _ | refine Bel.drew ?_ | refine Bel.alloc ?_ _ | refine Bel.trans ?_ (by assumption) | refine Bel.setCell ?_ (by simp; omega) _))⟩
          · by_cases g3 : n = 6
            · subst g3
              cases st
              · obtain rfl : k = 0 := KEY.out true (by rw [hs2]; simp; omega)
                clear hs2
                go_enter Tryz.func63, Tryz.ntmps63
                go_wp2_with (first | (go_at_call 61; refine (isEnc_any _ _).mono ?_; rintro e w' ⟨rfl, rfl⟩; rw [HI.out]) | (go_at_call 83; refine (rest_to _ _ _ HR.out HI.out HS.out _).mono ?_; rintro e w' ⟨rfl, hb1⟩; have hBx := Box.bel (Box.new w _ _) hb1; have c0 := hBx.cell 0 _ rfl; have c1 := hBx.cell 1 _ rfl; have c2 := hBx.cell 2 _ rfl; have c3 := hBx.cell 3 _ rfl; have c4 := hBx.cell 4 _ rfl))
                go_ret
                exact ⟨rfl, (by repeat (first | exact Bel.refl _ | refine Bel.drewN ?_ _ | refine Bel.drew ?_ | refine Bel.alloc ?_ _ | refine Bel.trans ?_ (by assumption) | refine Bel.setCell ?_ (by simp; omega) _))⟩
              · obtain rfl : k = 4 := KEY.out false (by rw [hs2]; simp)
                clear hs2
                go_enter Tryz.func63, Tryz.ntmps63
                go_wp2_with (first | (go_at_call 61; refine (isEnc_any _ _).mono ?_; rintro e w' ⟨rfl, rfl⟩; rw [HI.out]) | (go_at_call 83; refine (rest_to _ _ _ HR.out HI.out HS.out _).mono ?_; rintro e w' ⟨rfl, hb1⟩; have hBx := Box.bel (Box.new w _ _) hb1; have c0 := hBx.cell 0 _ rfl; have c1 := hBx.cell 1 _ rfl; have c2 := hBx.cell 2 _ rfl; have c3 := hBx.cell 3 _ rfl; have c4 := hBx.cell 4 _ rfl))
                go_ret
                exact ⟨rfl, (by repeat (first | exact Bel.refl _ | refine Bel.drewN ?_ _ | refine Bel.drew ?_ | refine Bel.alloc ?_ _ | refine Bel.trans ?_ (by assumption) | refine Bel.setCell ?_ (by simp; omega) _))⟩
            · have e6 : (n != 6) = true := by simpa using g3
              cases fr
              · by_cases g4 : sg = 0
                · subst g4
                  by_cases g5 : n = 7
                  · subst g5
                    obtain rfl : k = 0 := KEY.out true (by rw [hs2]; simp)
                    clear hs2
                    go_enter Tryz.func63, Tryz.ntmps63
                    go_wp2_with (first | (go_at_call 61; refine (isEnc_any _ _).mono ?_; rintro e w' ⟨rfl, rfl⟩; rw [HI.out]) | (go_at_call 83; refine (rest_to _ _ _ HR.out HI.out HS.out _).mono ?_; rintro e w' ⟨rfl, hb1⟩; have hBx := Box.bel (Box.new w _ _) hb1; have c0 := hBx.cell 0 _ rfl; have c1 := hBx.cell 1 _ rfl; have c2 := hBx.cell 2 _ rfl; have c3 := hBx.cell 3 _ rfl; have c4 := hBx.cell 4 _ rfl))
                    go_ret
                    exact ⟨rfl, (by repeat (first | exact Bel.refl _ | refine Bel.drewN ?_ _ | refine Bel.drew ?_ | refine Bel.alloc ?_ _ | refine Bel.trans ?_ (by assumption) | refine Bel.setCell ?_ (by simp; omega) _))⟩
                  · have e7 : (n != 7) = true := by simpa using g5
                    cases st
                    · obtain rfl : k = 0 := KEY.out true (by rw [hs2]; simp)
                      clear hs2 g3 g5
                      go_enter Tryz.func63, Tryz.ntmps63
                      go_wp2_with (first | (go_at_call 61; refine (isEnc_any _ _).mono ?_; rintro e w' ⟨rfl, rfl⟩; rw [HI.out]) | (go_at_call 83; refine (rest_to _ _ _ HR.out HI.out HS.out _).mono ?_; rintro e w' ⟨rfl, hb1⟩; have hBx := Box.bel (Box.new w _ _) hb1; have c0 := hBx.cell 0 _ rfl; have c1 := hBx.cell 1 _ rfl; have c2 := hBx.cell 2 _ rfl; have c3 := hBx.cell 3 _ rfl; have c4 := hBx.cell 4 _ rfl))
                      go_ret
                      exact ⟨rfl, (by repeat (first | exact Bel.refl _ | refine Bel.drewN ?_ _ | refine Bel.drew ?_ | refine Bel.alloc ?_ _ | refine Bel.trans ?_ (by assumption) | refine Bel.setCell ?_ (by simp; omega) _))⟩
                    · obtain rfl : k = 4 := KEY.out false (by rw [hs2]; simp [g5])
                      clear hs2 g3 g5
                      go_enter Tryz.func63, Tryz.ntmps63
                      go_wp2_with (first | (go_at_call 61; refine (isEnc_any _ _).mono ?_; rintro e w' ⟨rfl, rfl⟩; rw [HI.out]) | (go_at_call 83; refine (rest_to _ _ _ HR.out HI.out HS.out _).mono ?_; rintro e w' ⟨rfl, hb1⟩; have hBx := Box.bel (Box.new w _ _) hb1; have c0 := hBx.cell 0 _ rfl; have c1 := hBx.cell 1 _ rfl; have c2 := hBx.cell 2 _ rfl; have c3 := hBx.cell 3 _ rfl; have c4 := hBx.cell 4 _ rfl))
                      go_ret
                      exact ⟨rfl, (by repeat (first | exact Bel.refl _ | refine Bel.drewN ?_ _ | refine Bel.drew ?_ | refine Bel.alloc ?_ _ | refine Bel.trans ?_ (by assumption) | refine Bel.setCell ?_ (by simp; omega) _))⟩
                · have e4 : (sg != 0) = true := by simpa using g4
                  obtain rfl : k = 4 := KEY.out false (by rw [hs2]; simp [g3, g4])
                  clear hs2 g3 g4
                  go_enter Tryz.func63, Tryz.ntmps63
                  go_wp2_with (first | (go_at_call 61; refine (isEnc_any _ _).mono ?_; rintro e w' ⟨rfl, rfl⟩; rw [HI.out]) | (go_at_call 83; refine (rest_to _ _ _ HR.out HI.out HS.out _).mono ?_; rintro e w' ⟨rfl, hb1⟩; have hBx := Box.bel (Box.new w _ _) hb1; have c0 := hBx.cell 0 _ rfl; have c1 := hBx.cell 1 _ rfl; have c2 := hBx.cell 2 _ rfl; have c3 := hBx.cell 3 _ rfl; have c4 := hBx.cell 4 _ rfl))
                  go_ret
                  exact ⟨rfl, (by repeat (first | exact Bel.refl _ | refine Bel.drewN ?_ _ | refine Bel.drew ?_ | refine Bel.alloc ?_ _ | refine Bel.trans ?_ (by assumption) | refine Bel.setCell ?_ (by simp; omega) _))⟩
              · obtain rfl : k = 4 := KEY.out false (by rw [hs2]; simp [g3])
                by_cases g4 : sg = 0
                · subst g4
                  clear hs2 g3
                  go_enter Tryz.func63, Tryz.ntmps63
                  go_wp2_with (first | (go_at_call 61; refine (isEnc_any _ _).mono ?_; rintro e w' ⟨rfl, rfl⟩; rw [HI.out]) | (go_at_call 83; refine (rest_to _ _ _ HR.out HI.out HS.out _).mono ?_; rintro e w' ⟨rfl, hb1⟩; have hBx := Box.bel (Box.new w _ _) hb1; have c0 := hBx.cell 0 _ rfl; have c1 := hBx.cell 1 _ rfl; have c2 := hBx.cell 2 _ rfl; have c3 := hBx.cell 3 _ rfl; have c4 := hBx.cell 4 _ rfl))
                  go_ret
                  exact ⟨rfl, (by repeat (first | exact Bel.refl _ | refine Bel.drewN ?_ _ | refine Bel.drew ?_ | refine Bel.alloc ?_ _ | refine Bel.trans ?_ (by assumption) | refine Bel.setCell ?_ (by simp; omega) _))⟩
                · have e4 : (sg != 0) = true := by simpa using g4
                  clear hs2 g3 g4
                  go_enter Tryz.func63, Tryz.ntmps63
                  go_wp2_with (first | (go_at_call 61; refine (isEnc_any _ _).mono ?_; rintro e w' ⟨rfl, rfl⟩; rw [HI.out]) | (go_at_call 83; refine (rest_to _ _ _ HR.out HI.out HS.out _).mono ?_; rintro e w' ⟨rfl, hb1⟩; have hBx := Box.bel (Box.new w _ _) hb1; have c0 := hBx.cell 0 _ rfl; have c1 := hBx.cell 1 _ rfl; have c2 := hBx.cell 2 _ rfl; have c3 := hBx.cell 3 _ rfl; have c4 := hBx.cell 4 _ rfl))
                  go_ret
                  exact ⟨rfl, (by repeat (first | exact Bel.refl _ | refine Bel.drewN ?_ _ | refine Bel.drew ?_ | refine Bel.alloc ?_ _ | refine Bel.trans ?_ (by assumption) | refine Bel.setCell ?_ (by simp; omega) _))⟩
theorem stC_set (d : M.St) : stC d = [.int .i64 d.enc, .string ⟨d.rest.toArray⟩, .int .i64 d.signs, .bool d.fresh, .bool d.stopped] := rfl
theorem Box.drew {w : World} {g : Nat} {t : TypeId} {cs : List Value} (h : Box w g t cs) : Box w.drew g t cs := h
set_option maxHeartbeats 4000000 in
theorem rawS_any (n : Int) (r : ByteArray) (sg : Int) (fr st : Bool) (b : ByteArray) (last : Bool) (hr : M.Right ⟨n, r.data.toList, sg, fr, st⟩) (hb : b.size ≤ 9000) (xs : List Int) (d2 : M.St) (hd : M.rawM ⟨n, r.data.toList, sg, fr, st⟩ b.data.toList last = (xs, d2)) (w : World) :
    Calls Tryz.prog 44 #[.agg #[.int .i64 n, .string r, .int .i64 sg, .bool fr, .bool st], .string b, .bool last] w fun e w' => ∃ v, e = .returned (.tuple #[v, stV d2]) ∧ Own w.heap.size 3 w' v (xs.map (Value.int .i64)) ∧ Bel w w' := by
  have hlen := hr.len
  have henc := hr.enc
  simp only at hlen henc
  have h3 : r.size ≤ 3 := by rw [Lib.size_eq]; exact hlen
  obtain ⟨⟨ys, d1⟩, ht⟩ : ∃ q, M.tellM ⟨n, r.data.toList, sg, fr, st⟩ b.data.toList = q := ⟨_, rfl⟩
  have hr1 : M.Right d1 := by have := M.right_tell _ b.data.toList hr; rw [ht] at this; exact this
  have he1 : d1.enc = n := by have := M.tell_enc ⟨n, r.data.toList, sg, fr, st⟩ b.data.toList; rw [ht] at this; exact this
  have hle1 := hr1.len
  have HT := Lib.hid (show ∀ (g : Nat) (w : World), Box w g 108 [.int .i64 n, .string r, .int .i64 sg, .bool fr, .bool st] → Calls Tryz.prog 76 #[.pointer (some ⟨g, 0, none⟩), .string b] w fun e w' => ∃ v, e = .returned v ∧ Own w.heap.size 3 w' v (ys.map (Value.int .i64)) ∧ Box w' g 108 (stC d1) ∧ Below g w w' from fun g w hB => by
    have := tell_any g ⟨n, r.data.toList, sg, fr, st⟩ henc b (by simp only; rw [← Lib.size_eq]; omega) w (by rw [stC]; simp only [str_eq]; exact hB)
    rw [ht] at this
    exact this)
  cases last
  · have e : (ys, d1) = (xs, d2) := by rw [← hd, M.rawM, if_neg (by decide), ht]
    injection e with e1 e2
    subst e1
    subst e2
    clear ht hd hr
    go_enter Tryz.func44, Tryz.ntmps44
    obtain ⟨n1, l1, sg1, fr1, st1⟩ := d1
    obtain rfl : n = n1 := he1.symm
    go_wp2_with (first | (go_at_call 76; refine (HT.out (w.heap.size + 1 + 1) _ (by have := Box.new ((w.alloc (.cells #[.int .i64 n, .string r, .int .i64 sg, .bool fr, .bool st] 23)).alloc (.cells #[.int .i64 0, .string ⟨#[]⟩, .int .i64 0, .bool false, .bool false] 23)) 108 [.int .i64 n, .string r, .int .i64 sg, .bool fr, .bool st]; simpa using this)).mono ?_; rintro e w1 ⟨v1, rfl, o1, hB1, hb1⟩))
    have hBel0 : Bel w (((w.alloc (.cells #[.int .i64 n, .string r, .int .i64 sg, .bool fr, .bool st] 23)).alloc (.cells #[.int .i64 0, .string ⟨#[]⟩, .int .i64 0, .bool false, .bool false] 23)).alloc (.cells #[.int .i64 n, .string r, .int .i64 sg, .bool fr, .bool st] 108)) := (by repeat (first | exact Bel.refl _ | refine Bel.drewN ?_ _ | refine Bel.drew ?_ | refine Bel.alloc ?_ _ | refine Bel.trans ?_ (by assumption) | refine Bel.setCell ?_ (by simp; omega) _))
    have hR0 : Box ((w.alloc (.cells #[.int .i64 n, .string r, .int .i64 sg, .bool fr, .bool st] 23)).alloc (.cells #[.int .i64 0, .string ⟨#[]⟩, .int .i64 0, .bool false, .bool false] 23)) (w.heap.size + 1) 23 [.int .i64 0, .string ⟨#[]⟩, .int .i64 0, .bool false, .bool false] := by have := Box.new (w.alloc (.cells #[.int .i64 n, .string r, .int .i64 sg, .bool fr, .bool st] 23)) 23 [.int .i64 0, .string ⟨#[]⟩, .int .i64 0, .bool false, .bool false]; simpa using this
    have hR1 := Box.upto (B := w.heap.size + 1 + 1) (hR0.bel ((Bel.refl _).alloc (.cells #[.int .i64 n, .string r, .int .i64 sg, .bool fr, .bool st] 108))) hb1 (by omega)
    have d0 := hB1.cell 0 _ rfl
    have d1 := hB1.cell 1 _ rfl
    have d2 := hB1.cell 2 _ rfl
    have d3 := hB1.cell 3 _ rfl
    have d4 := hB1.cell 4 _ rfl
    have r0 := hR1.cell 0 _ rfl
    have r1 := hR1.cell 1 _ rfl
    have r2 := hR1.cell 2 _ rfl
    have r3 := hR1.cell 3 _ rfl
    have r4 := hR1.cell 4 _ rfl
    have q0 := hR1.frozen 0
    have q1 := hR1.frozen 1
    have q2 := hR1.frozen 2
    have q3 := hR1.frozen 3
    have q4 := hR1.frozen 4
    go_region
    go_wp2_with fail
    have hF := Box.drew (((((hR1.set 0 (.int .i64 n)).set 1 (.string ⟨l1.toArray⟩)).set 2 (.int .i64 sg1)).set 3 (.bool fr1)).set 4 (.bool st1))
    have f0 := hF.cell 0 _ rfl
    have f1 := hF.cell 1 _ rfl
    have f2 := hF.cell 2 _ rfl
    have f3 := hF.cell 3 _ rfl
    have f4 := hF.cell 4 _ rfl
    refine bodyPost_ret (v := .tuple #[v1, stV ⟨n, l1, sg1, fr1, st1⟩]) (by simp [results, Tryz.results44, go_sem, stV, f0, f1, f2, f3, f4]) rfl ?_
    exact ⟨_, rfl, ((((((o1.setCell (p := ⟨w.heap.size + 1, 0, none⟩) (by simp) _).setCell (p := ⟨w.heap.size + 1, 1, none⟩) (by simp) _).setCell (p := ⟨w.heap.size + 1, 2, none⟩) (by simp) _).setCell (p := ⟨w.heap.size + 1, 3, none⟩) (by simp) _).setCell (p := ⟨w.heap.size + 1, 4, none⟩) (by simp) _).drew.mono (by first | omega | (simp; omega) | simp)), (((((((Bel.upto hBel0 hb1 (by omega)).setCell (p := ⟨w.heap.size + 1, 0, none⟩) (by simp) _).setCell (p := ⟨w.heap.size + 1, 1, none⟩) (by simp) _).setCell (p := ⟨w.heap.size + 1, 2, none⟩) (by simp) _).setCell (p := ⟨w.heap.size + 1, 3, none⟩) (by simp) _).setCell (p := ⟨w.heap.size + 1, 4, none⟩) (by simp) _).drew)⟩
  · have e : (ys ++ M.endM d1, M.opn n) = (xs, d2) := by rw [← hd, M.rawM, if_pos rfl, ht]
    injection e with e1 e2
    subst e1
    subst e2
    have hyl : ys.length ≤ 9003 := by
      have := M.tell_len ⟨n, r.data.toList, sg, fr, st⟩ henc b.data.toList
      rw [ht] at this
      have hb9 : b.data.toList.length = b.size := (Lib.size_eq b).symm
      simp only at this
      omega
    have hzl := M.end_len d1
    clear ht hd hr
    go_enter Tryz.func44, Tryz.ntmps44
    obtain ⟨n1, l1, sg1, fr1, st1⟩ := d1
    obtain rfl : n = n1 := he1.symm
    obtain ⟨zs, hz⟩ : ∃ zs, M.endM ⟨n, l1, sg1, fr1, st1⟩ = zs := ⟨_, rfl⟩
    rw [hz] at hzl ⊢
    have HZ := Lib.hid hz
    have hzl2 : zs.length ≤ 4 := by simp only at hle1 hzl; omega
    have HL1 := Lib.hid (show l1.length ≤ 3 from hle1)
    clear hz hzl hle1
    go_wp2_with (first | (go_at_call 76; refine (HT.out (w.heap.size + 1 + 1) _ (by have := Box.new ((w.alloc (.cells #[.int .i64 n, .string r, .int .i64 sg, .bool fr, .bool st] 23)).alloc (.cells #[.int .i64 0, .string ⟨#[]⟩, .int .i64 0, .bool false, .bool false] 23)) 108 [.int .i64 n, .string r, .int .i64 sg, .bool fr, .bool st]; simpa using this)).mono ?_; rintro e w1 ⟨v1, rfl, o1, hB1, hb1⟩) | (go_at_call 77; refine (end_any (w.heap.size + 1 + 1) n l1 sg1 fr1 st1 zs HZ.out HL1.out w1 hB1).mono ?_; rintro e w2 ⟨v2, rfl, o2, hB2, hb2, hO2⟩; have o1b := Own.mono (o1.only hO2 (by simp)) (show w.heap.size + 1 + 1 + 1 ≤ _ by simp); have hs1 : w.heap.size + 1 + 1 + 1 ≤ w1.heap.size := hB1.lt; have hs2 : w.heap.size + 1 + 1 + 1 ≤ w2.heap.size := hB2.lt) | (at_builtin; refine wpList_appInts (.tmp 17) (.tmp 19) 31 rfl elemInt (by decide) (w.heap.size + 1 + 1 + 1) _ _ o1b _ zs o2.ints (by simp; omega) hs2 rfl rfl rfl ?_; intro v3 w3 o3 b3))
    have hBel0 : Bel w (((w.alloc (.cells #[.int .i64 n, .string r, .int .i64 sg, .bool fr, .bool st] 23)).alloc (.cells #[.int .i64 0, .string ⟨#[]⟩, .int .i64 0, .bool false, .bool false] 23)).alloc (.cells #[.int .i64 n, .string r, .int .i64 sg, .bool fr, .bool st] 108)) := (by repeat (first | exact Bel.refl _ | refine Bel.drewN ?_ _ | refine Bel.drew ?_ | refine Bel.alloc ?_ _ | refine Bel.trans ?_ (by assumption) | refine Bel.setCell ?_ (by simp; omega) _))
    have hR0 : Box ((w.alloc (.cells #[.int .i64 n, .string r, .int .i64 sg, .bool fr, .bool st] 23)).alloc (.cells #[.int .i64 0, .string ⟨#[]⟩, .int .i64 0, .bool false, .bool false] 23)) (w.heap.size + 1) 23 [.int .i64 0, .string ⟨#[]⟩, .int .i64 0, .bool false, .bool false] := by have := Box.new (w.alloc (.cells #[.int .i64 n, .string r, .int .i64 sg, .bool fr, .bool st] 23)) 23 [.int .i64 0, .string ⟨#[]⟩, .int .i64 0, .bool false, .bool false]; simpa using this
    have hR1 := Box.upto (B := w.heap.size + 1 + 1) (hR0.bel ((Bel.refl _).alloc (.cells #[.int .i64 n, .string r, .int .i64 sg, .bool fr, .bool st] 108))) hb1 (by omega)
    have hR2 := Box.upto (B := w.heap.size + 1 + 1) hR1 hb2 (by omega)
    have hR3 := Box.upto (B := w.heap.size + 1 + 1 + 1) hR2 b3 (by omega)
    have hB3 := Box.upto (B := w.heap.size + 1 + 1 + 1) hB2 b3 (by omega)
    have d0 := hB3.cell 0 _ rfl
    have d1 := hB3.cell 1 _ rfl
    have d2 := hB3.cell 2 _ rfl
    have d3 := hB3.cell 3 _ rfl
    have d4 := hB3.cell 4 _ rfl
    have r0 := hR3.cell 0 _ rfl
    have r1 := hR3.cell 1 _ rfl
    have r2 := hR3.cell 2 _ rfl
    have r3 := hR3.cell 3 _ rfl
    have r4 := hR3.cell 4 _ rfl
    have q0 := hR3.frozen 0
    have q1 := hR3.frozen 1
    have q2 := hR3.frozen 2
    have q3 := hR3.frozen 3
    have q4 := hR3.frozen 4
    go_region
    go_wp2_with fail
    have hF := Box.drew (((((hR3.set 0 (.int .i64 n)).set 1 (.string ⟨#[]⟩)).set 2 (.int .i64 0)).set 3 (.bool false)).set 4 (.bool false))
    have f0 := hF.cell 0 _ rfl
    have f1 := hF.cell 1 _ rfl
    have f2 := hF.cell 2 _ rfl
    have f3 := hF.cell 3 _ rfl
    have f4 := hF.cell 4 _ rfl
    refine bodyPost_ret (v := .tuple #[v3, stV (M.opn n)]) (by simp [results, Tryz.results44, go_sem, stV, M.opn, f0, f1, f2, f3, f4]) rfl ?_
    rw [List.map_append]
    exact ⟨_, rfl, ((((((o3.setCell (p := ⟨w.heap.size + 1, 0, none⟩) (by simp) _).setCell (p := ⟨w.heap.size + 1, 1, none⟩) (by simp) _).setCell (p := ⟨w.heap.size + 1, 2, none⟩) (by simp) _).setCell (p := ⟨w.heap.size + 1, 3, none⟩) (by simp) _).setCell (p := ⟨w.heap.size + 1, 4, none⟩) (by simp) _).drew.mono (by first | omega | (simp; omega) | simp)), (((((((Bel.upto (Bel.upto (Bel.upto hBel0 hb1 (by omega)) hb2 (by omega)) b3 (by omega)).setCell (p := ⟨w.heap.size + 1, 0, none⟩) (by simp) _).setCell (p := ⟨w.heap.size + 1, 1, none⟩) (by simp) _).setCell (p := ⟨w.heap.size + 1, 2, none⟩) (by simp) _).setCell (p := ⟨w.heap.size + 1, 3, none⟩) (by simp) _).setCell (p := ⟨w.heap.size + 1, 4, none⟩) (by simp) _).drew)⟩
end Go.Proofs.YtcgdecpjlggekaaGreatDoor

/-
  Package kana: Told, All, Decode.
-/
import Derived.Test.YtbddfefcgfenfaaDoorKana
namespace Go.Proofs.YtbddfefcgfenfaaDoor
open Go.RowKit
set_option maxRecDepth 1000000

theorem shifts_to (s : ByteArray) (c : UInt8) (t : List UInt8) (k : Int) (b : Bool) (h : shiftsM t = (k, b)) (hs : s.data.toList = c :: t) (hsz : s.size ≤ 68719476735) (w : World) : Calls Tryd.prog 178 #[.string s] w fun e w' => e = .returned (.tuple #[.int .i64 k, .bool b]) ∧ ∃ q, w.drewN q = w' := by
  have := shifts_any s c t hs hsz w; rw [h] at this; exact this
theorem sign_to (g : Int) (c : Nat) (n : Int) (h : M.signK g c = n) (hc : c < 256) (w : World) : Calls Tryd.prog 177 #[.int .i64 g, .int .u8 (c : Int)] w fun e w' => e = .returned (.int .i64 n) ∧ w = w' := by
  have := sign_any g c hc w; rw [h] at this; exact this
set_option maxHeartbeats 4000000 in
theorem toldK_any (g : Int) (f : Bool) (s : ByteArray) (last : Bool) (hs : s.size ≤ 68719476735) (w : World) : Calls Tryd.prog 155 #[.agg #[.int .i64 g, .bool f], .string s, .bool last] w fun e w' =>
    ∃ v, e = .returned (.tuple #[v, .agg #[.int .i64 (M.toldK last g f s.data.toList).2.1, .bool (M.toldK last g f s.data.toList).2.2.1], .string ⟨(M.toldK last g f s.data.toList).2.2.2.toArray⟩]) ∧ Own w.heap.size 3 w' v ((M.toldK last g f s.data.toList).1.map (Value.int .i64)) ∧ Bel w w' := by
  go_enter Tryd.func155, Tryd.ntmps155
  go_wp2_with fail
  go_loopw [] (fun wr => ∃ (s' : ByteArray) (xs : List Int) (sg : Int) (fr : Bool) (v : Value), Box wr (w.heap.size + 2) 172 [.int .i64 sg, .bool fr, .string s', v] ∧ Box wr (w.heap.size + 1) 154 [.int .i64 0, .bool false] ∧ xs.length + s'.size ≤ s.size ∧ Hid (M.toldK last g f s.data.toList = (xs ++ (M.toldK last sg fr s'.data.toList).1, (M.toldK last sg fr s'.data.toList).2)) ∧ Own (w.heap.size + 3) 3 wr v (xs.map (Value.int .i64)) ∧ Bel w wr) (fun wr => cellLen wr ⟨w.heap.size + 2, 2, none⟩)
  case atStart =>
    exact ⟨s, [], g, f, .slice none 0 0, (by have := Box.new ((w.alloc (.cells #[.int .i64 g, .bool f] 154)).alloc (.cells #[.int .i64 0, .bool false] 154)) 172 [.int .i64 g, .bool f, .string s, .slice none 0 0]; simpa using this), (by have := (Box.new (w.alloc (.cells #[.int .i64 g, .bool f] 154)) 154 [.int .i64 0, .bool false]).bel ((Bel.refl _).alloc (.cells #[.int .i64 g, .bool f, .string s, .slice none 0 0] 172)); simpa using this), by simp, Lib.hid (by simp), Own.nil _ _ _, (by repeat (first | exact Bel.refl _ | refine Bel.drewN ?_ _ | refine Bel.drew ?_ | refine Bel.alloc ?_ _ | refine Bel.trans ?_ (by assumption) | refine Bel.setCell ?_ (by simp; omega) _))⟩
  case round =>
    obtain ⟨s', xs, sg, fr, v, hB, hR, hle, HT, hown, hb⟩ := hrel
    have c0 := hB.cell 0 _ rfl
    have c1 := hB.cell 1 _ rfl
    have c2 := hB.cell 2 _ rfl
    have c3 := hB.cell 3 _ rfl
    have r0 := hR.cell 0 _ rfl
    have r1 := hR.cell 1 _ rfl
    have q0 := hR.frozen 0
    have q1 := hR.frozen 1
    have hsz : w.heap.size + 3 ≤ wr.heap.size := hB.lt
    by_cases he : s'.size = 0
    · have e0 : s'.data.toList = [] := List.eq_nil_of_length_eq_zero (by rw [← Lib.size_eq]; exact he)
      have HF := Lib.hid (show M.toldK last g f s.data.toList = (xs, sg, fr, []) by
        rw [HT.out, e0, M.toldK_nil]; simp)
      have e1 : (!s'.toList.isEmpty) = false := by rw [Lib.toList_data, e0]; rfl
      clear he e0
      go_wp2_with fail
      go_region
      go_wp2_with fail
      have d0 : ((wr.setCell ⟨w.heap.size + 1, 0, none⟩ (.int .i64 sg)).setCell ⟨w.heap.size + 1, 1, none⟩ (.bool fr)).drew.cell? ⟨w.heap.size + 1, 0, none⟩ = some (.int .i64 sg) := ((hR.set 0 _).set 1 _).cell 0 _ rfl
      have d1 : ((wr.setCell ⟨w.heap.size + 1, 0, none⟩ (.int .i64 sg)).setCell ⟨w.heap.size + 1, 1, none⟩ (.bool fr)).drew.cell? ⟨w.heap.size + 1, 1, none⟩ = some (.bool fr) := ((hR.set 0 _).set 1 _).cell 1 _ rfl
      refine bodyPost_ret (v := .tuple #[v, .agg #[.int .i64 sg, .bool fr], .string ⟨#[]⟩]) (by simp [results, Tryd.results155, go_sem, d0, d1]) rfl ?_
      rw [HF.out]
      exact ⟨_, rfl, (((hown.setCell (p := ⟨w.heap.size + 1, 0, none⟩) (by simp) _).setCell (p := ⟨w.heap.size + 1, 1, none⟩) (by simp) _).mono (by omega)).drew, ((hb.setCell (p := ⟨w.heap.size + 1, 0, none⟩) (by simp) _).setCell (p := ⟨w.heap.size + 1, 1, none⟩) (by simp) _).drew⟩
    · have hpos : 0 < s'.size := by omega
      obtain ⟨c, t, hct⟩ := cons_of_pos s' hpos
      obtain ⟨k0, h0⟩ := head_at s' 0 c (by rw [hct]; rfl)
      have e1 : (!s'.toList.isEmpty) = true := by rw [Lib.toList_data, hct]; rfl
      have hcl := c.toNat_lt
      have hts : s'.size = t.length + 1 := by rw [Lib.size_eq, hct]; rfl
      have HB2 := Lib.hid hB
      rcases M.sayK last sg fr c t with ⟨hc, e⟩ | ⟨rfl, k, x, u, rfl, hk, hh, e⟩ | ⟨rfl, hw, hh, rfl, e⟩ | ⟨rfl, hh, hw, e⟩
      · have e27 : ((c.toNat : Int) != 27) = true := by
          rw [bne_iff_ne]; intro h; apply hc; apply UInt8.toNat_inj.1; show c.toNat = 27; omega
        obtain ⟨n, hn⟩ : ∃ n, M.signK sg c.toNat = n := ⟨_, rfl⟩
        have HN := Lib.hid hn
        have HF := Lib.hid (show M.toldK last g f s.data.toList = ((xs ++ [n]) ++ (M.toldK last sg false (s'.extract 1 s'.size).data.toList).1, (M.toldK last sg false (s'.extract 1 s'.size).data.toList).2) by
          rw [HT.out, drop_str, hct, e, hn]; simp)
        have HS := Lib.hid (drop_size s' 1)
        clear he hct hc hn e hts
        go_wp2_with fail
        go_region_with ((first | (go_at_call 177; refine (sign_to sg c.toNat n HN.out (by omega) _).mono ?_; rintro e w1 ⟨rfl, rfl⟩) | (go_at_call 176; refine (tellK_any (w.heap.size + 2) sg fr s' v xs n (w.heap.size + 3) wr.drew HB2.out hown (by omega) hsz hpos (by omega) (by omega)).mono ?_; rintro e w1 ⟨rfl, v1, hB1, hown1, hb1⟩)))
        all_goals
          go_wp2_with fail
          go_roundw
          case rel => exact ⟨s'.extract 1 s'.size, xs ++ [n], sg, false, v1, hB1, Box.upto (B := w.heap.size + 2) (w := wr.drew) hR hb1 (by omega), by rw [HS.out, List.length_append, List.length_singleton]; omega, HF, hown1, Bel.upto (Bel.drew hb) hb1 (by omega)⟩
          case measure => rw [cellLen_of c2, cellLen_of (hB1.cell 2 _ rfl), HS.out]; omega
      · -- an escape
        obtain ⟨k2, hk2⟩ : ∃ r, (xs ++ if fr = true then [(65533 : Int)] else []) = r := ⟨_, rfl⟩
        have HK2 := Lib.hid hk2
        have HF := Lib.hid (show M.toldK last g f s.data.toList = (k2 ++ (M.toldK last k true (s'.extract 3 s'.size).data.toList).1, (M.toldK last k true (s'.extract 3 s'.size).data.toList).2) by
          rw [HT.out, drop_str, hct, e, ← hk2]; simp)
        have HS := Lib.hid (drop_size s' 3)
        have hk20 : k2.length ≤ xs.length + 1 := by rw [← hk2, List.length_append]; split <;> simp
        have HC := Lib.hid hct
        have HSH := Lib.hid (show shiftsM (40 :: x :: u) = (k, true) by rw [shiftsM, hh])
        have hk0 : 0 ≤ k := by
          unfold M.escK at hk
          (repeat' split at hk) <;> first | (injection hk with hk; omega) | cases hk
        have h3 : 3 ≤ s'.size := by rw [hts]; simp only [List.length_cons]; omega
        have c27 : ((27 : UInt8).toNat : Int) = 27 := rfl
        clear he hct hk hh e hts hk2
        go_wp2_with fail
        refine (shifts_to s' 27 (40 :: x :: u) k true HSH.out HC.out (by omega) _).mono ?_
        rintro e w1 ⟨rfl, q, rfl⟩
        have hsz2 : w.heap.size + 3 ≤ (wr.drewN q).heap.size := hsz
        go_wp2_with fail
        refine (shiftK_any (w.heap.size + 2) sg k fr s' v xs (w.heap.size + 3) (wr.drewN q) (HB2.out.drewN q) (hown.drewN q) (by omega) hsz2 h3 (by omega) (by omega)).mono ?_
        rintro e w1 ⟨rfl, v1, hB1, hown1, hb1⟩
        rw [HK2.out] at hown1
        go_wp2_with fail
        go_roundw
        case rel => exact ⟨s'.extract 3 s'.size, k2, k, true, v1, hB1, Box.upto (B := w.heap.size + 2) (hR.drewN q) hb1 (by omega), by rw [HS.out]; omega, HF, hown1, Bel.upto (Bel.drewN hb q) hb1 (by omega)⟩
        case measure => rw [cellLen_of c2, cellLen_of (hB1.cell 2 _ rfl), HS.out]; omega
      · -- more must come
        have HF := Lib.hid (show M.toldK false g f s.data.toList = (xs, sg, fr, s'.data.toList) by
          rw [HT.out, hct, e]; simp)
        have HC := Lib.hid hct
        have HSH := Lib.hid (show shiftsM t = (-1, false) by rw [shiftsM, hh]; simp [hw])
        clear he hct hw hh e hts
        go_wp2_with fail
        refine (shifts_to s' 27 t (-1) false HSH.out HC.out (by omega) _).mono ?_
        rintro e w1 ⟨rfl, q, rfl⟩
        go_wp2_with fail
        go_region
        go_wp2_with fail
        have d0 : (((wr.drewN (q + 1)).setCell ⟨w.heap.size + 1, 0, none⟩ (.int .i64 sg)).setCell ⟨w.heap.size + 1, 1, none⟩ (.bool fr)).cell? ⟨w.heap.size + 1, 0, none⟩ = some (.int .i64 sg) := (((hR.drewN (q + 1)).set 0 _).set 1 _).cell 0 _ rfl
        have d1 : (((wr.drewN (q + 1)).setCell ⟨w.heap.size + 1, 0, none⟩ (.int .i64 sg)).setCell ⟨w.heap.size + 1, 1, none⟩ (.bool fr)).cell? ⟨w.heap.size + 1, 1, none⟩ = some (.bool fr) := (((hR.drewN (q + 1)).set 0 _).set 1 _).cell 1 _ rfl
        refine bodyPost_ret (v := .tuple #[v, .agg #[.int .i64 sg, .bool fr], .string s']) (by simp [results, Tryd.results155, go_sem, d0, d1]) rfl ?_
        rw [HF.out]
        exact ⟨_, by rw [str_eq], (((hown.drewN (q + 1)).setCell (p := ⟨w.heap.size + 1, 0, none⟩) (by simp) _).setCell (p := ⟨w.heap.size + 1, 1, none⟩) (by simp) _).mono (by omega), ((Bel.drewN hb (q + 1)).setCell (p := ⟨w.heap.size + 1, 0, none⟩) (by simp) _).setCell (p := ⟨w.heap.size + 1, 1, none⟩) (by simp) _⟩
      · -- no escape
        have HF := Lib.hid (show M.toldK last g f s.data.toList = ((xs ++ [65533]) ++ (M.toldK last sg false (s'.extract 1 s'.size).data.toList).1, (M.toldK last sg false (s'.extract 1 s'.size).data.toList).2) by
          rw [HT.out, drop_str, hct, e]; simp)
        have HS := Lib.hid (drop_size s' 1)
        have HC := Lib.hid hct
        obtain ⟨b, hb0⟩ : ∃ b, shiftsM t = (-1, b) := ⟨_, by rw [shiftsM, hh]⟩
        have hbl : b = true ∨ (b = false ∧ last = true) := by
          rcases hw with hw | hw
          · left
            rw [shiftsM, hh, hw] at hb0
            simpa using hb0.symm
          · cases b
            · exact .inr ⟨rfl, hw⟩
            · exact .inl rfl
        have HSH := Lib.hid hb0
        clear he hct hw hh e hts hb0
        rcases hbl with rfl | ⟨rfl, rfl⟩
        all_goals
          go_wp2_with fail
          refine (shifts_to s' 27 t (-1) _ HSH.out HC.out (by omega) _).mono ?_
          rintro e w1 ⟨rfl, q, rfl⟩
          have hsz2 : w.heap.size + 3 ≤ (wr.drewN q).heap.size := hsz
          go_wp2_with fail
          refine (tellK_any (w.heap.size + 2) sg fr s' v xs 65533 (w.heap.size + 3) (wr.drewN q) (HB2.out.drewN q) (hown.drewN q) (by omega) hsz2 hpos (by omega) (by omega)).mono ?_
          rintro e w1 ⟨rfl, v1, hB1, hown1, hb1⟩
          go_wp2_with fail
          go_roundw
          case rel => exact ⟨s'.extract 1 s'.size, xs ++ [65533], sg, false, v1, hB1, Box.upto (B := w.heap.size + 2) (hR.drewN q) hb1 (by omega), by rw [HS.out, List.length_append, List.length_singleton]; omega, HF, hown1, Bel.upto (Bel.drewN hb q) hb1 (by omega)⟩
          case measure => rw [cellLen_of c2, cellLen_of (hB1.cell 2 _ rfl), HS.out]; omega
end Go.Proofs.YtbddfefcgfenfaaDoor

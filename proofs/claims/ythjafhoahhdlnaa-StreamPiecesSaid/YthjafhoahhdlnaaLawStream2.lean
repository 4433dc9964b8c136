/-
  The law StreamAgain.
-/
import Derived.Test.YthjafhoahhdlnaaLawStream
namespace Go.Proofs.Ythjafhoahhdlnaa
open Go.RowKit
set_option maxRecDepth 1000000

theorem again_facts (n : Int) (h : M.isEnc n = true) (s : List UInt8) (hs : s.length ≤ 3000) : M.feedE ⟨n, [], 0, false, false⟩ s true = (M.allE n s, ⟨n, [], 0, false, false⟩, 0) ∧ M.decE n s = (M.allE n s, 0) := by
  constructor
  · have := feed_right (M.opn n) (M.right_opn n h) s hs true
    rw [M.raw_all n h s, M.raw_last] at this
    exact this
  · have hr : M.readyE n s = 0 := by rw [M.readyE, if_neg (by rw [h]; decide), if_neg (by omega)]
    rw [M.decE, if_pos hr]
set_option maxHeartbeats 4000000 in
theorem streamAgainTrue (n : Int) (s t : ByteArray) (w : World) (_ : -9223372036854775808 ≤ n ∧ n ≤ 9223372036854775807) (hs : s.size ≤ reachBytes) (ht : t.size ≤ reachBytes) : Calls Try.prog 9 #[.int .i64 n, .string s, .string t] w fun e w' => e = .returned (.bool true) ∧ Bel w w' := by
  simp only [reachBytes] at hs ht
  cases h : M.isEnc n with
  | false =>
    have HI := Lib.hid h
    clear h
    go_enter Try.func9, Try.ntmps9
    go_wp2_with fail
    refine (open_no n HI.out _).mono ?_
    rintro e w1 ⟨rfl, b1⟩
    go_wp2_with fail
    refine (streamBegun_any _).mono ?_
    rintro e w2 ⟨rfl, b2⟩
    have hO := Box.bel (Box.new w1 _ _) b2
    have sc0 := hO.cell 0 _ rfl; have sc1 := hO.cell 1 _ rfl; have sc2 := hO.cell 2 _ rfl; have sc3 := hO.cell 3 _ rfl; have sc4 := hO.cell 4 _ rfl
    go_wp2_with fail
    go_ret
    exact ⟨rfl, (by repeat (first | exact Bel.refl _ | refine Bel.drewN ?_ _ | refine Bel.drew ?_ | refine Bel.alloc ?_ _ | refine Bel.trans ?_ (by assumption) | refine Bel.setCell ?_ (by simp; omega) _))⟩
  | true =>
    have HI := Lib.hid h
    by_cases h1 : s.size ≤ 3000
    · by_cases h2 : t.size ≤ 3000
      · obtain ⟨p1, p2⟩ := again_facts n h s.data.toList (by rw [← Lib.size_eq]; exact h1)
        obtain ⟨p3, p4⟩ := again_facts n h t.data.toList (by rw [← Lib.size_eq]; exact h2)
        have P1 := Lib.hid p1
        have P2 := Lib.hid p2
        have P3 := Lib.hid p3
        have P4 := Lib.hid p4
        generalize M.allE n s.data.toList = xs at *
        generalize M.allE n t.data.toList = ys at *
        clear h p1 p2 p3 p4
        go_enter Try.func9, Try.ntmps9
        go_wp2_with fail
        refine (open_yes n HI.out _).mono ?_
        rintro e w1 ⟨rfl, b1⟩
        go_wp2_with fail
        refine (streamBegun_any _).mono ?_
        rintro e w2 ⟨rfl, b2⟩
        have hO := Box.bel (Box.new w1 _ _) b2
        have sc0 := hO.cell 0 _ rfl; have sc1 := hO.cell 1 _ rfl; have sc2 := hO.cell 2 _ rfl; have sc3 := hO.cell 3 _ rfl; have sc4 := hO.cell 4 _ rfl
        go_wp2_with fail
        refine (feed_sl n ⟨#[]⟩ 0 false false s true _ _ _ _ _ _ _ P1.out _).mono ?_
        rintro e w3 ⟨A3, c3, rfl, o3, b3⟩
        go_wp2_with fail
        refine (feed_sl n ⟨#[]⟩ 0 false false t true _ _ _ _ _ _ _ P3.out _).mono ?_
        rintro e w4 ⟨A4, c4, rfl, o4, b4⟩
        go_wp2_with fail
        refine (decE_sl n s _ _ P2.out _).mono ?_
        rintro e w5 ⟨A5, c5, rfl, o5, b5⟩
        go_wp2_with fail
        refine (decE_sl n t _ _ P4.out _).mono ?_
        rintro e w6 ⟨A6, c6, rfl, o6, b6⟩
        have hO := Box.bel (Box.bel (Box.bel (Box.bel (Box.bel (Box.bel hO b3) ((Bel.refl _).alloc _)) b4) ((Bel.refl _).alloc _)) b5) b6
        have hX := Box.bel (Box.bel (Box.bel (Box.bel (Box.bel (Box.new w3 _ _) b4) ((Bel.refl _).alloc _)) b5) b6) (Bel.refl _)
        have hY := Box.bel (Box.bel (Box.new w4 _ _) b5) b6
        have sc0 := hO.cell 0 _ rfl; have sc1 := hO.cell 1 _ rfl; have sc2 := hO.cell 2 _ rfl; have sc3 := hO.cell 3 _ rfl; have sc4 := hO.cell 4 _ rfl; have tc0 := hX.cell 0 _ rfl; have tc1 := hX.cell 1 _ rfl; have tc2 := hX.cell 2 _ rfl; have tc3 := hX.cell 3 _ rfl; have tc4 := hX.cell 4 _ rfl; have uc0 := hY.cell 0 _ rfl; have uc1 := hY.cell 1 _ rfl; have uc2 := hY.cell 2 _ rfl; have uc3 := hY.cell 3 _ rfl; have uc4 := hY.cell 4 _ rfl
        go_wp2_with fail
        refine (sameInts_yes _ _ _ _ _ (o3.ints.bel (by repeat (first | exact Bel.refl _ | refine Bel.drewN ?_ _ | refine Bel.drew ?_ | refine Bel.alloc ?_ _ | refine Bel.trans ?_ (by assumption) | refine Bel.setCell ?_ (by simp; omega) _))) (o5.ints.bel (by repeat (first | exact Bel.refl _ | refine Bel.drewN ?_ _ | refine Bel.drew ?_ | refine Bel.alloc ?_ _ | refine Bel.trans ?_ (by assumption) | refine Bel.setCell ?_ (by simp; omega) _))) rfl).mono ?_
        rintro e w7 ⟨rfl, b7⟩
        go_wp2_with fail
        refine (sameInts_yes _ _ _ _ _ (o4.ints.bel (by repeat (first | exact Bel.refl _ | refine Bel.drewN ?_ _ | refine Bel.drew ?_ | refine Bel.alloc ?_ _ | refine Bel.trans ?_ (by assumption) | refine Bel.setCell ?_ (by simp; omega) _))) (o6.ints.bel (by repeat (first | exact Bel.refl _ | refine Bel.drewN ?_ _ | refine Bel.drew ?_ | refine Bel.alloc ?_ _ | refine Bel.trans ?_ (by assumption) | refine Bel.setCell ?_ (by simp; omega) _))) rfl).mono ?_
        rintro e w8 ⟨rfl, b8⟩
        go_wp2_with fail
        go_ret
        exact ⟨rfl, (by repeat (first | exact Bel.refl _ | refine Bel.drewN ?_ _ | refine Bel.drew ?_ | refine Bel.alloc ?_ _ | refine Bel.trans ?_ (by assumption) | refine Bel.setCell ?_ (by simp; omega) _))⟩
      · clear h
        go_enter Try.func9, Try.ntmps9
        go_wp2_with fail
        refine (open_yes n HI.out _).mono ?_
        rintro e w1 ⟨rfl, b1⟩
        go_wp2_with fail
        refine (streamBegun_any _).mono ?_
        rintro e w2 ⟨rfl, b2⟩
        go_wp2_with fail
        go_ret
        exact ⟨rfl, (by repeat (first | exact Bel.refl _ | refine Bel.drewN ?_ _ | refine Bel.drew ?_ | refine Bel.alloc ?_ _ | refine Bel.trans ?_ (by assumption) | refine Bel.setCell ?_ (by simp; omega) _))⟩
    · clear h
      go_enter Try.func9, Try.ntmps9
      go_wp2_with fail
      refine (open_yes n HI.out _).mono ?_
      rintro e w1 ⟨rfl, b1⟩
      go_wp2_with fail
      refine (streamBegun_any _).mono ?_
      rintro e w2 ⟨rfl, b2⟩
      go_wp2_with fail
      go_ret
      exact ⟨rfl, (by repeat (first | exact Bel.refl _ | refine Bel.drewN ?_ _ | refine Bel.drew ?_ | refine Bel.alloc ?_ _ | refine Bel.trans ?_ (by assumption) | refine Bel.setCell ?_ (by simp; omega) _))⟩
end Go.Proofs.Ythjafhoahhdlnaa

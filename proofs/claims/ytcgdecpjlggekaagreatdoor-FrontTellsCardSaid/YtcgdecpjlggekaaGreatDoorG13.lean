/-
  Texts of the proof, laid together: LawFrontTells. No condition of its own.
-/
import Derived.Test.YtcgdecpjlggekaaGreatDoorG8
import Derived.Test.YtcgdecpjlggekaaGreatDoorG12
import Derived.Deep.Cut

/-
  The law FrontTells.
-/
namespace Go.Proofs.YtcgdecpjlggekaaGreatDoor
open Go.RowKit
set_option maxRecDepth 1000000
set_option maxHeartbeats 4000000

theorem frontTellsTrue (nm s lb : ByteArray) (en wy : Int) (wt : ByteArray) (se : Int) (rs : ByteArray) (sg : Int) (fr st last : Bool) (w : World) (_ : nm.size ≤ reachBytes) (_ : s.size ≤ reachBytes) (hL : Len w) : Calls Tryz.prog 3 #[.string nm, .string s, .agg #[.string lb, .int .i64 en, .int .i64 wy, .string wt, .int .i64 se, .string rs, .int .i64 sg, .bool fr, .bool st], .bool last] w fun e w' => e = .returned (.bool true) ∧ Bel w w' := by
  obtain ⟨⟨ys, ⟨l2, en2, wy2, wt2, ⟨se2, rs2, sg2, fr2, st2⟩⟩, g⟩, hf⟩ : ∃ q : List Int × M.Ft × Int, M.feedFE ⟨lb.data.toList, en, wy, wt.data.toList, ⟨se, rs.data.toList, sg, fr, st⟩⟩ s.data.toList last = q := ⟨_, rfl⟩
  have HF := Lib.hid hf
  obtain ⟨q, hq⟩ : ∃ q, M.checkF ⟨lb.data.toList, en, wy, wt.data.toList, ⟨se, rs.data.toList, sg, fr, st⟩⟩ = q := ⟨_, rfl⟩
  have HQ := Lib.hid hq
  rcases long_cases nm with ⟨hnl, ha⟩ | ⟨hnl, ha⟩
  · have HA := Lib.hid ha
    have HC := Lib.hid (show M.chooseE nm.data.toList s.data.toList = (0, 0, 0, 2) by rw [M.chooseE, ← Lib.size_eq, ← Lib.size_eq, if_pos (.inl hnl)])
    have HB := Lib.hid hnl
    by_cases hq0 : q = 0
    · subst hq0
      rcases long_cases s with ⟨hsl, hls⟩ | ⟨hsl, hls⟩
      · have HLS := Lib.hid hls
        have hf2 : (ys, (⟨l2, en2, wy2, wt2, ⟨se2, rs2, sg2, fr2, st2⟩⟩ : M.Ft), g) = ([], ⟨[], 0, 0, [], ⟨0, [], 0, false, false⟩⟩, 2) := by rw [← hf, M.feedFE, hq, if_pos rfl, if_pos (by rw [← Lib.size_eq]; exact hsl)]; rfl
        simp only [Prod.mk.injEq, M.Ft.mk.injEq, M.St.mk.injEq] at hf2
        obtain ⟨rfl, ⟨rfl, rfl, rfl, rfl, ⟨rfl, rfl, rfl, rfl, rfl⟩⟩, rfl⟩ := hf2
        clear hf hq hls hsl ha hnl
        go_enter Tryz.func3, Tryz.ntmps3
        have hS := Box.new w 25 [.string lb, .int .i64 en, .int .i64 wy, .string wt, .int .i64 se, .string rs, .int .i64 sg, .bool fr, .bool st]
        have hb := Bel.refl w
        go_wp2_with fail
        refine (choose_to nm s _ _ _ _ HC.out _ (hL.bel ((Bel.refl w).alloc _))).mono ?_
        rintro e w1 ⟨rfl, b1⟩
        have hb := Bel.trans (Bel.trans hb (by repeat (first | exact Bel.refl _ | refine Bel.drewN ?_ _ | refine Bel.drew ?_ | refine Bel.alloc ?_ _ | refine Bel.trans ?_ (by assumption) | refine Bel.setCell ?_ (by simp; omega) _))) b1; have hS := Box.bel (Box.bel hS (by repeat (first | exact Bel.refl _ | refine Bel.drewN ?_ _ | refine Bel.drew ?_ | refine Bel.alloc ?_ _ | refine Bel.trans ?_ (by assumption) | refine Bel.setCell ?_ (by simp; omega) _))) b1; (try have hO := Box.bel (Box.bel hO (by repeat (first | exact Bel.refl _ | refine Bel.drewN ?_ _ | refine Bel.drew ?_ | refine Bel.alloc ?_ _ | refine Bel.trans ?_ (by assumption) | refine Bel.setCell ?_ (by simp; omega) _))) b1); (try have hT := Box.bel (Box.bel hT (by repeat (first | exact Bel.refl _ | refine Bel.drewN ?_ _ | refine Bel.drew ?_ | refine Bel.alloc ?_ _ | refine Bel.trans ?_ (by assumption) | refine Bel.setCell ?_ (by simp; omega) _))) b1); (try have i3 := IntSl.bel (IntSl.bel i3 (by repeat (first | exact Bel.refl _ | refine Bel.drewN ?_ _ | refine Bel.drew ?_ | refine Bel.alloc ?_ _ | refine Bel.trans ?_ (by assumption) | refine Bel.setCell ?_ (by simp; omega) _))) b1); clear b1; have hSl := hS.lt; have sc0 := hS.cell 0 _ rfl; have sc1 := hS.cell 1 _ rfl; have sc2 := hS.cell 2 _ rfl; have sc3 := hS.cell 3 _ rfl; have sc4 := hS.cell 4 _ rfl; have sc5 := hS.cell 5 _ rfl; have sc6 := hS.cell 6 _ rfl; have sc7 := hS.cell 7 _ rfl; have sc8 := hS.cell 8 _ rfl
        go_wp2_with fail
        refine (begin_no nm HB.out _).mono ?_
        rintro e w2 ⟨rfl, b2⟩
        have hb := Bel.trans (Bel.trans hb (by repeat (first | exact Bel.refl _ | refine Bel.drewN ?_ _ | refine Bel.drew ?_ | refine Bel.alloc ?_ _ | refine Bel.trans ?_ (by assumption) | refine Bel.setCell ?_ (by simp; omega) _))) b2; have hS := Box.bel (Box.bel hS (by repeat (first | exact Bel.refl _ | refine Bel.drewN ?_ _ | refine Bel.drew ?_ | refine Bel.alloc ?_ _ | refine Bel.trans ?_ (by assumption) | refine Bel.setCell ?_ (by simp; omega) _))) b2; (try have hO := Box.bel (Box.bel hO (by repeat (first | exact Bel.refl _ | refine Bel.drewN ?_ _ | refine Bel.drew ?_ | refine Bel.alloc ?_ _ | refine Bel.trans ?_ (by assumption) | refine Bel.setCell ?_ (by simp; omega) _))) b2); (try have hT := Box.bel (Box.bel hT (by repeat (first | exact Bel.refl _ | refine Bel.drewN ?_ _ | refine Bel.drew ?_ | refine Bel.alloc ?_ _ | refine Bel.trans ?_ (by assumption) | refine Bel.setCell ?_ (by simp; omega) _))) b2); (try have i3 := IntSl.bel (IntSl.bel i3 (by repeat (first | exact Bel.refl _ | refine Bel.drewN ?_ _ | refine Bel.drew ?_ | refine Bel.alloc ?_ _ | refine Bel.trans ?_ (by assumption) | refine Bel.setCell ?_ (by simp; omega) _))) b2); clear b2; have hSl := hS.lt; have sc0 := hS.cell 0 _ rfl; have sc1 := hS.cell 1 _ rfl; have sc2 := hS.cell 2 _ rfl; have sc3 := hS.cell 3 _ rfl; have sc4 := hS.cell 4 _ rfl; have sc5 := hS.cell 5 _ rfl; have sc6 := hS.cell 6 _ rfl; have sc7 := hS.cell 7 _ rfl; have sc8 := hS.cell 8 _ rfl
        have hO := Box.new w2 25 [.string ⟨#[]⟩, .int .i64 0, .int .i64 0, .string ⟨#[]⟩, .int .i64 0, .string ⟨#[]⟩, .int .i64 0, .bool false, .bool false]
        go_wp2_with fail
        refine (feedF_sl lb en wy wt se rs sg fr st s last _ _ _ _ _ _ _ _ _ _ _ HF.out _ (hL.bel (hb.alloc _))).mono ?_
        rintro e w3 ⟨A3, c3, rfl, o3, b3⟩
        have hO := Box.bel hO b3
        have hOq := hO
        clear hO
        have hb := Bel.trans (Bel.trans hb (by repeat (first | exact Bel.refl _ | refine Bel.drewN ?_ _ | refine Bel.drew ?_ | refine Bel.alloc ?_ _ | refine Bel.trans ?_ (by assumption) | refine Bel.setCell ?_ (by simp; omega) _))) b3; have hS := Box.bel (Box.bel hS (by repeat (first | exact Bel.refl _ | refine Bel.drewN ?_ _ | refine Bel.drew ?_ | refine Bel.alloc ?_ _ | refine Bel.trans ?_ (by assumption) | refine Bel.setCell ?_ (by simp; omega) _))) b3; (try have hO := Box.bel (Box.bel hO (by repeat (first | exact Bel.refl _ | refine Bel.drewN ?_ _ | refine Bel.drew ?_ | refine Bel.alloc ?_ _ | refine Bel.trans ?_ (by assumption) | refine Bel.setCell ?_ (by simp; omega) _))) b3); (try have hT := Box.bel (Box.bel hT (by repeat (first | exact Bel.refl _ | refine Bel.drewN ?_ _ | refine Bel.drew ?_ | refine Bel.alloc ?_ _ | refine Bel.trans ?_ (by assumption) | refine Bel.setCell ?_ (by simp; omega) _))) b3); (try have i3 := IntSl.bel (IntSl.bel i3 (by repeat (first | exact Bel.refl _ | refine Bel.drewN ?_ _ | refine Bel.drew ?_ | refine Bel.alloc ?_ _ | refine Bel.trans ?_ (by assumption) | refine Bel.setCell ?_ (by simp; omega) _))) b3); clear b3; have hSl := hS.lt; have sc0 := hS.cell 0 _ rfl; have sc1 := hS.cell 1 _ rfl; have sc2 := hS.cell 2 _ rfl; have sc3 := hS.cell 3 _ rfl; have sc4 := hS.cell 4 _ rfl; have sc5 := hS.cell 5 _ rfl; have sc6 := hS.cell 6 _ rfl; have sc7 := hS.cell 7 _ rfl; have sc8 := hS.cell 8 _ rfl
        have hO := hOq
        clear hOq
        have i3 := o3.ints
        clear o3
        have hT := Box.new w3 25 [.string ⟨#[]⟩, .int .i64 0, .int .i64 0, .string ⟨#[]⟩, .int .i64 0, .string ⟨#[]⟩, .int .i64 0, .bool false, .bool false]
        go_wp2_with fail
        refine (long_to nm _ HA.out _).mono ?_
        rintro e w' ⟨rfl, rfl⟩
        go_wp2_with fail
        skip
        refine (checkFront_to lb en wy wt se rs sg fr st _ HQ.out _).mono ?_
        rintro e w4 ⟨rfl, b4⟩
        have hO := Box.bel (Box.bel hO (by repeat (first | exact Bel.refl _ | refine Bel.drewN ?_ _ | refine Bel.drew ?_ | refine Bel.alloc ?_ _ | refine Bel.trans ?_ (by assumption) | refine Bel.setCell ?_ (by simp; omega) _))) b4
        have hT := Box.bel hT b4
        have hb := Bel.trans (Bel.trans hb (by repeat (first | exact Bel.refl _ | refine Bel.drewN ?_ _ | refine Bel.drew ?_ | refine Bel.alloc ?_ _ | refine Bel.trans ?_ (by assumption) | refine Bel.setCell ?_ (by simp; omega) _))) b4
        have hS := Box.bel (Box.bel hS (by repeat (first | exact Bel.refl _ | refine Bel.drewN ?_ _ | refine Bel.drew ?_ | refine Bel.alloc ?_ _ | refine Bel.trans ?_ (by assumption) | refine Bel.setCell ?_ (by simp; omega) _))) b4
        have i3 := IntSl.bel (IntSl.bel i3 (by repeat (first | exact Bel.refl _ | refine Bel.drewN ?_ _ | refine Bel.drew ?_ | refine Bel.alloc ?_ _ | refine Bel.trans ?_ (by assumption) | refine Bel.setCell ?_ (by simp; omega) _))) b4
        clear b4
        have sc0 := hS.cell 0 _ rfl; have sc1 := hS.cell 1 _ rfl; have sc2 := hS.cell 2 _ rfl; have sc3 := hS.cell 3 _ rfl; have sc4 := hS.cell 4 _ rfl; have sc5 := hS.cell 5 _ rfl; have sc6 := hS.cell 6 _ rfl; have sc7 := hS.cell 7 _ rfl; have sc8 := hS.cell 8 _ rfl
        go_wp2_with fail
        skip
        refine (long_to s _ HLS.out _).mono ?_
        rintro e w' ⟨rfl, rfl⟩
        go_upto_if 62 with fail
        have hP : Bel w4 ((w4.alloc (.cells #[.string ⟨#[]⟩, .int .i64 0, .int .i64 0, .string ⟨#[]⟩, .int .i64 0, .string ⟨#[]⟩, .int .i64 0, .bool false, .bool false] 25)).alloc (.cells #[.string ⟨#[]⟩, .int .i64 0, .int .i64 0, .string ⟨#[]⟩, .int .i64 0, .string ⟨#[]⟩, .int .i64 0, .bool false, .bool false] 25)) := (by repeat (first | exact Bel.refl _ | refine Bel.drewN ?_ _ | refine Bel.drew ?_ | refine Bel.alloc ?_ _ | refine Bel.trans ?_ (by assumption) | refine Bel.setCell ?_ (by simp; omega) _))
        have hU := (Box.new w4 25 [.string ⟨#[]⟩, .int .i64 0, .int .i64 0, .string ⟨#[]⟩, .int .i64 0, .string ⟨#[]⟩, .int .i64 0, .bool false, .bool false]).bel ((Bel.refl _).alloc (.cells #[.string ⟨#[]⟩, .int .i64 0, .int .i64 0, .string ⟨#[]⟩, .int .i64 0, .string ⟨#[]⟩, .int .i64 0, .bool false, .bool false] 25))
        have hV : Box ((w4.alloc (.cells #[.string ⟨#[]⟩, .int .i64 0, .int .i64 0, .string ⟨#[]⟩, .int .i64 0, .string ⟨#[]⟩, .int .i64 0, .bool false, .bool false] 25)).alloc (.cells #[.string ⟨#[]⟩, .int .i64 0, .int .i64 0, .string ⟨#[]⟩, .int .i64 0, .string ⟨#[]⟩, .int .i64 0, .bool false, .bool false] 25)) (w4.heap.size + 1) 25 [.string ⟨#[]⟩, .int .i64 0, .int .i64 0, .string ⟨#[]⟩, .int .i64 0, .string ⟨#[]⟩, .int .i64 0, .bool false, .bool false] := by have := Box.new (w4.alloc (.cells #[.string ⟨#[]⟩, .int .i64 0, .int .i64 0, .string ⟨#[]⟩, .int .i64 0, .string ⟨#[]⟩, .int .i64 0, .bool false, .bool false] 25)) 25 [.string ⟨#[]⟩, .int .i64 0, .int .i64 0, .string ⟨#[]⟩, .int .i64 0, .string ⟨#[]⟩, .int .i64 0, .bool false, .bool false]; simpa using this
        have hso := hS.lt
        have hoo := hO.lt
        have hto := hT.lt
        generalize ((w4.alloc (.cells #[.string ⟨#[]⟩, .int .i64 0, .int .i64 0, .string ⟨#[]⟩, .int .i64 0, .string ⟨#[]⟩, .int .i64 0, .bool false, .bool false] 25)).alloc (.cells #[.string ⟨#[]⟩, .int .i64 0, .int .i64 0, .string ⟨#[]⟩, .int .i64 0, .string ⟨#[]⟩, .int .i64 0, .bool false, .bool false] 25)) = P at *
        have hup := hU.lt
        have hvp := hV.lt
        have sb := hS.bel hP
        have sc0 := sb.cell 0 _ rfl; have sc1 := sb.cell 1 _ rfl; have sc2 := sb.cell 2 _ rfl; have sc3 := sb.cell 3 _ rfl; have sc4 := sb.cell 4 _ rfl; have sc5 := sb.cell 5 _ rfl; have sc6 := sb.cell 6 _ rfl; have sc7 := sb.cell 7 _ rfl; have sc8 := sb.cell 8 _ rfl
        have uc0 := hU.cell 0 _ rfl; have uc1 := hU.cell 1 _ rfl; have uc2 := hU.cell 2 _ rfl; have uc3 := hU.cell 3 _ rfl; have uc4 := hU.cell 4 _ rfl; have uc5 := hU.cell 5 _ rfl; have uc6 := hU.cell 6 _ rfl; have uc7 := hU.cell 7 _ rfl; have uc8 := hU.cell 8 _ rfl; have uf0 := hU.frozen 0; have uf1 := hU.frozen 1; have uf2 := hU.frozen 2; have uf3 := hU.frozen 3; have uf4 := hU.frozen 4; have uf5 := hU.frozen 5; have uf6 := hU.frozen 6; have uf7 := hU.frozen 7; have uf8 := hU.frozen 8
        have vc0 := hV.cell 0 _ rfl; have vc1 := hV.cell 1 _ rfl; have vc2 := hV.cell 2 _ rfl; have vc3 := hV.cell 3 _ rfl; have vc4 := hV.cell 4 _ rfl; have vc5 := hV.cell 5 _ rfl; have vc6 := hV.cell 6 _ rfl; have vc7 := hV.cell 7 _ rfl; have vc8 := hV.cell 8 _ rfl; have vf0 := hV.frozen 0; have vf1 := hV.frozen 1; have vf2 := hV.frozen 2; have vf3 := hV.frozen 3; have vf4 := hV.frozen 4; have vf5 := hV.frozen 5; have vf6 := hV.frozen 6; have vf7 := hV.frozen 7; have vf8 := hV.frozen 8
        go_upto_region 20 with fail
        have i3 := IntSl.bel i3 hP
        have hS := hS.bel hP
        have hO := hO.bel hP
        have hT := hT.bel hP
        have hb := hb.trans hP
        have su0 := Box.up hS 0 _ rfl; have su1 := Box.up hS 1 _ rfl; have su2 := Box.up hS 2 _ rfl; have su3 := Box.up hS 3 _ rfl; have su4 := Box.up hS 4 _ rfl; have su5 := Box.up hS 5 _ rfl; have su6 := Box.up hS 6 _ rfl; have su7 := Box.up hS 7 _ rfl; have su8 := Box.up hS 8 _ rfl
        have ou0 := Box.up hO 0 _ rfl; have ou1 := Box.up hO 1 _ rfl; have ou2 := Box.up hO 2 _ rfl; have ou3 := Box.up hO 3 _ rfl; have ou4 := Box.up hO 4 _ rfl; have ou5 := Box.up hO 5 _ rfl; have ou6 := Box.up hO 6 _ rfl; have ou7 := Box.up hO 7 _ rfl; have ou8 := Box.up hO 8 _ rfl
        have tu0 := Box.up hT 0 _ rfl; have tu1 := Box.up hT 1 _ rfl; have tu2 := Box.up hT 2 _ rfl; have tu3 := Box.up hT 3 _ rfl; have tu4 := Box.up hT 4 _ rfl; have tu5 := Box.up hT 5 _ rfl; have tu6 := Box.up hT 6 _ rfl; have tu7 := Box.up hT 7 _ rfl; have tu8 := Box.up hT 8 _ rfl
        have uu0 := Box.up hU 0 _ rfl; have uu1 := Box.up hU 1 _ rfl; have uu2 := Box.up hU 2 _ rfl; have uu3 := Box.up hU 3 _ rfl; have uu4 := Box.up hU 4 _ rfl; have uu5 := Box.up hU 5 _ rfl; have uu6 := Box.up hU 6 _ rfl; have uu7 := Box.up hU 7 _ rfl; have uu8 := Box.up hU 8 _ rfl
        have vu0 := Box.up hV 0 _ rfl; have vu1 := Box.up hV 1 _ rfl; have vu2 := Box.up hV 2 _ rfl; have vu3 := Box.up hV 3 _ rfl; have vu4 := Box.up hV 4 _ rfl; have vu5 := Box.up hV 5 _ rfl; have vu6 := Box.up hV 6 _ rfl; have vu7 := Box.up hV 7 _ rfl; have vu8 := Box.up hV 8 _ rfl
        clear hP
        refine region_up (by kernel_rfl) (by kernel_rfl) ?_
        repeat (go_big_quiet_step ((first
          | (go_at_call 12; exact up_call _ (frontBegun_any _ (hL.bel (hb.trans (Up.b _)))))
          | (go_at_call 13; exact up_call _ (checkFr_to lb en wy wt se rs sg fr st _ HQ.out _))
          | (go_at_call 9; exact up_call _ (checkFront_to lb en wy wt se rs sg fr st _ HQ.out _))
          | (go_at_call 14; exact up_call _ (intsAre_yes (.slice A3 _ c3) _ [] [] 2 _ (i3.bel (Up.b _)) (IntSl.nil_ _) rfl)))))
        refine wpQuiet_nil ?_
        intro _ hw'
        obtain ⟨uu, rfl⟩ := hw'
        have b9 := uu.b
        generalize uu.v = wu at *
        go_wp2_with fail
        go_ret
        exact ⟨rfl, hb.trans b9⟩
      · have HLS := Lib.hid hls
        have hs3 : s.size ≤ 3000 := hsl
        have hf2 : (ys, (⟨l2, en2, wy2, wt2, ⟨se2, rs2, sg2, fr2, st2⟩⟩ : M.Ft), g) = ((M.feedF ⟨lb.data.toList, en, wy, wt.data.toList, ⟨se, rs.data.toList, sg, fr, st⟩⟩ s.data.toList last).1, (M.feedF ⟨lb.data.toList, en, wy, wt.data.toList, ⟨se, rs.data.toList, sg, fr, st⟩⟩ s.data.toList last).2, 0) := by rw [← hf, M.feedFE, if_pos hq, if_neg (by rw [← Lib.size_eq]; omega)]
        have HRF := Lib.hid (show M.feedF ⟨lb.data.toList, en, wy, wt.data.toList, ⟨se, rs.data.toList, sg, fr, st⟩⟩ s.data.toList last = (ys, ⟨l2, en2, wy2, wt2, ⟨se2, rs2, sg2, fr2, st2⟩⟩) by
          simp only [Prod.mk.injEq] at hf2
          exact Prod.ext hf2.1.symm hf2.2.1.symm)
        obtain rfl : g = 0 := by simp only [Prod.mk.injEq] at hf2; exact hf2.2.2
        clear hf2
        clear hf hq hls ha hnl
        go_enter Tryz.func3, Tryz.ntmps3
        have hS := Box.new w 25 [.string lb, .int .i64 en, .int .i64 wy, .string wt, .int .i64 se, .string rs, .int .i64 sg, .bool fr, .bool st]
        have hb := Bel.refl w
        go_wp2_with fail
        refine (choose_to nm s _ _ _ _ HC.out _ (hL.bel ((Bel.refl w).alloc _))).mono ?_
        rintro e w1 ⟨rfl, b1⟩
        have hb := Bel.trans (Bel.trans hb (by repeat (first | exact Bel.refl _ | refine Bel.drewN ?_ _ | refine Bel.drew ?_ | refine Bel.alloc ?_ _ | refine Bel.trans ?_ (by assumption) | refine Bel.setCell ?_ (by simp; omega) _))) b1; have hS := Box.bel (Box.bel hS (by repeat (first | exact Bel.refl _ | refine Bel.drewN ?_ _ | refine Bel.drew ?_ | refine Bel.alloc ?_ _ | refine Bel.trans ?_ (by assumption) | refine Bel.setCell ?_ (by simp; omega) _))) b1; (try have hO := Box.bel (Box.bel hO (by repeat (first | exact Bel.refl _ | refine Bel.drewN ?_ _ | refine Bel.drew ?_ | refine Bel.alloc ?_ _ | refine Bel.trans ?_ (by assumption) | refine Bel.setCell ?_ (by simp; omega) _))) b1); (try have hT := Box.bel (Box.bel hT (by repeat (first | exact Bel.refl _ | refine Bel.drewN ?_ _ | refine Bel.drew ?_ | refine Bel.alloc ?_ _ | refine Bel.trans ?_ (by assumption) | refine Bel.setCell ?_ (by simp; omega) _))) b1); (try have i3 := IntSl.bel (IntSl.bel i3 (by repeat (first | exact Bel.refl _ | refine Bel.drewN ?_ _ | refine Bel.drew ?_ | refine Bel.alloc ?_ _ | refine Bel.trans ?_ (by assumption) | refine Bel.setCell ?_ (by simp; omega) _))) b1); clear b1; have hSl := hS.lt; have sc0 := hS.cell 0 _ rfl; have sc1 := hS.cell 1 _ rfl; have sc2 := hS.cell 2 _ rfl; have sc3 := hS.cell 3 _ rfl; have sc4 := hS.cell 4 _ rfl; have sc5 := hS.cell 5 _ rfl; have sc6 := hS.cell 6 _ rfl; have sc7 := hS.cell 7 _ rfl; have sc8 := hS.cell 8 _ rfl
        go_wp2_with fail
        refine (begin_no nm HB.out _).mono ?_
        rintro e w2 ⟨rfl, b2⟩
        have hb := Bel.trans (Bel.trans hb (by repeat (first | exact Bel.refl _ | refine Bel.drewN ?_ _ | refine Bel.drew ?_ | refine Bel.alloc ?_ _ | refine Bel.trans ?_ (by assumption) | refine Bel.setCell ?_ (by simp; omega) _))) b2; have hS := Box.bel (Box.bel hS (by repeat (first | exact Bel.refl _ | refine Bel.drewN ?_ _ | refine Bel.drew ?_ | refine Bel.alloc ?_ _ | refine Bel.trans ?_ (by assumption) | refine Bel.setCell ?_ (by simp; omega) _))) b2; (try have hO := Box.bel (Box.bel hO (by repeat (first | exact Bel.refl _ | refine Bel.drewN ?_ _ | refine Bel.drew ?_ | refine Bel.alloc ?_ _ | refine Bel.trans ?_ (by assumption) | refine Bel.setCell ?_ (by simp; omega) _))) b2); (try have hT := Box.bel (Box.bel hT (by repeat (first | exact Bel.refl _ | refine Bel.drewN ?_ _ | refine Bel.drew ?_ | refine Bel.alloc ?_ _ | refine Bel.trans ?_ (by assumption) | refine Bel.setCell ?_ (by simp; omega) _))) b2); (try have i3 := IntSl.bel (IntSl.bel i3 (by repeat (first | exact Bel.refl _ | refine Bel.drewN ?_ _ | refine Bel.drew ?_ | refine Bel.alloc ?_ _ | refine Bel.trans ?_ (by assumption) | refine Bel.setCell ?_ (by simp; omega) _))) b2); clear b2; have hSl := hS.lt; have sc0 := hS.cell 0 _ rfl; have sc1 := hS.cell 1 _ rfl; have sc2 := hS.cell 2 _ rfl; have sc3 := hS.cell 3 _ rfl; have sc4 := hS.cell 4 _ rfl; have sc5 := hS.cell 5 _ rfl; have sc6 := hS.cell 6 _ rfl; have sc7 := hS.cell 7 _ rfl; have sc8 := hS.cell 8 _ rfl
        have hO := Box.new w2 25 [.string ⟨#[]⟩, .int .i64 0, .int .i64 0, .string ⟨#[]⟩, .int .i64 0, .string ⟨#[]⟩, .int .i64 0, .bool false, .bool false]
        go_wp2_with fail
        refine (feedF_sl lb en wy wt se rs sg fr st s last _ _ _ _ _ _ _ _ _ _ _ HF.out _ (hL.bel (hb.alloc _))).mono ?_
        rintro e w3 ⟨A3, c3, rfl, o3, b3⟩
        have hO := Box.bel hO b3
        have hOq := hO
        clear hO
        have hb := Bel.trans (Bel.trans hb (by repeat (first | exact Bel.refl _ | refine Bel.drewN ?_ _ | refine Bel.drew ?_ | refine Bel.alloc ?_ _ | refine Bel.trans ?_ (by assumption) | refine Bel.setCell ?_ (by simp; omega) _))) b3; have hS := Box.bel (Box.bel hS (by repeat (first | exact Bel.refl _ | refine Bel.drewN ?_ _ | refine Bel.drew ?_ | refine Bel.alloc ?_ _ | refine Bel.trans ?_ (by assumption) | refine Bel.setCell ?_ (by simp; omega) _))) b3; (try have hO := Box.bel (Box.bel hO (by repeat (first | exact Bel.refl _ | refine Bel.drewN ?_ _ | refine Bel.drew ?_ | refine Bel.alloc ?_ _ | refine Bel.trans ?_ (by assumption) | refine Bel.setCell ?_ (by simp; omega) _))) b3); (try have hT := Box.bel (Box.bel hT (by repeat (first | exact Bel.refl _ | refine Bel.drewN ?_ _ | refine Bel.drew ?_ | refine Bel.alloc ?_ _ | refine Bel.trans ?_ (by assumption) | refine Bel.setCell ?_ (by simp; omega) _))) b3); (try have i3 := IntSl.bel (IntSl.bel i3 (by repeat (first | exact Bel.refl _ | refine Bel.drewN ?_ _ | refine Bel.drew ?_ | refine Bel.alloc ?_ _ | refine Bel.trans ?_ (by assumption) | refine Bel.setCell ?_ (by simp; omega) _))) b3); clear b3; have hSl := hS.lt; have sc0 := hS.cell 0 _ rfl; have sc1 := hS.cell 1 _ rfl; have sc2 := hS.cell 2 _ rfl; have sc3 := hS.cell 3 _ rfl; have sc4 := hS.cell 4 _ rfl; have sc5 := hS.cell 5 _ rfl; have sc6 := hS.cell 6 _ rfl; have sc7 := hS.cell 7 _ rfl; have sc8 := hS.cell 8 _ rfl
        have hO := hOq
        clear hOq
        have i3 := o3.ints
        clear o3
        have hT := Box.new w3 25 [.string ⟨l2.toArray⟩, .int .i64 en2, .int .i64 wy2, .string ⟨wt2.toArray⟩, .int .i64 se2, .string ⟨rs2.toArray⟩, .int .i64 sg2, .bool fr2, .bool st2]
        go_wp2_with fail
        refine (long_to nm _ HA.out _).mono ?_
        rintro e w' ⟨rfl, rfl⟩
        go_wp2_with fail
        skip
        refine (checkFront_to lb en wy wt se rs sg fr st _ HQ.out _).mono ?_
        rintro e w4 ⟨rfl, b4⟩
        have hO := Box.bel (Box.bel hO (by repeat (first | exact Bel.refl _ | refine Bel.drewN ?_ _ | refine Bel.drew ?_ | refine Bel.alloc ?_ _ | refine Bel.trans ?_ (by assumption) | refine Bel.setCell ?_ (by simp; omega) _))) b4
        have hT := Box.bel hT b4
        have hb := Bel.trans (Bel.trans hb (by repeat (first | exact Bel.refl _ | refine Bel.drewN ?_ _ | refine Bel.drew ?_ | refine Bel.alloc ?_ _ | refine Bel.trans ?_ (by assumption) | refine Bel.setCell ?_ (by simp; omega) _))) b4
        have hS := Box.bel (Box.bel hS (by repeat (first | exact Bel.refl _ | refine Bel.drewN ?_ _ | refine Bel.drew ?_ | refine Bel.alloc ?_ _ | refine Bel.trans ?_ (by assumption) | refine Bel.setCell ?_ (by simp; omega) _))) b4
        have i3 := IntSl.bel (IntSl.bel i3 (by repeat (first | exact Bel.refl _ | refine Bel.drewN ?_ _ | refine Bel.drew ?_ | refine Bel.alloc ?_ _ | refine Bel.trans ?_ (by assumption) | refine Bel.setCell ?_ (by simp; omega) _))) b4
        clear b4
        have sc0 := hS.cell 0 _ rfl; have sc1 := hS.cell 1 _ rfl; have sc2 := hS.cell 2 _ rfl; have sc3 := hS.cell 3 _ rfl; have sc4 := hS.cell 4 _ rfl; have sc5 := hS.cell 5 _ rfl; have sc6 := hS.cell 6 _ rfl; have sc7 := hS.cell 7 _ rfl; have sc8 := hS.cell 8 _ rfl
        go_wp2_with fail
        skip
        refine (long_to s _ HLS.out _).mono ?_
        rintro e w' ⟨rfl, rfl⟩
        go_upto_if 62 with fail
        have hP : Bel w4 ((w4.alloc (.cells #[.string ⟨#[]⟩, .int .i64 0, .int .i64 0, .string ⟨#[]⟩, .int .i64 0, .string ⟨#[]⟩, .int .i64 0, .bool false, .bool false] 25)).alloc (.cells #[.string ⟨#[]⟩, .int .i64 0, .int .i64 0, .string ⟨#[]⟩, .int .i64 0, .string ⟨#[]⟩, .int .i64 0, .bool false, .bool false] 25)) := (by repeat (first | exact Bel.refl _ | refine Bel.drewN ?_ _ | refine Bel.drew ?_ | refine Bel.alloc ?_ _ | refine Bel.trans ?_ (by assumption) | refine Bel.setCell ?_ (by simp; omega) _))
        have hU := (Box.new w4 25 [.string ⟨#[]⟩, .int .i64 0, .int .i64 0, .string ⟨#[]⟩, .int .i64 0, .string ⟨#[]⟩, .int .i64 0, .bool false, .bool false]).bel ((Bel.refl _).alloc (.cells #[.string ⟨#[]⟩, .int .i64 0, .int .i64 0, .string ⟨#[]⟩, .int .i64 0, .string ⟨#[]⟩, .int .i64 0, .bool false, .bool false] 25))
        have hV : Box ((w4.alloc (.cells #[.string ⟨#[]⟩, .int .i64 0, .int .i64 0, .string ⟨#[]⟩, .int .i64 0, .string ⟨#[]⟩, .int .i64 0, .bool false, .bool false] 25)).alloc (.cells #[.string ⟨#[]⟩, .int .i64 0, .int .i64 0, .string ⟨#[]⟩, .int .i64 0, .string ⟨#[]⟩, .int .i64 0, .bool false, .bool false] 25)) (w4.heap.size + 1) 25 [.string ⟨#[]⟩, .int .i64 0, .int .i64 0, .string ⟨#[]⟩, .int .i64 0, .string ⟨#[]⟩, .int .i64 0, .bool false, .bool false] := by have := Box.new (w4.alloc (.cells #[.string ⟨#[]⟩, .int .i64 0, .int .i64 0, .string ⟨#[]⟩, .int .i64 0, .string ⟨#[]⟩, .int .i64 0, .bool false, .bool false] 25)) 25 [.string ⟨#[]⟩, .int .i64 0, .int .i64 0, .string ⟨#[]⟩, .int .i64 0, .string ⟨#[]⟩, .int .i64 0, .bool false, .bool false]; simpa using this
        have hso := hS.lt
        have hoo := hO.lt
        have hto := hT.lt
        generalize ((w4.alloc (.cells #[.string ⟨#[]⟩, .int .i64 0, .int .i64 0, .string ⟨#[]⟩, .int .i64 0, .string ⟨#[]⟩, .int .i64 0, .bool false, .bool false] 25)).alloc (.cells #[.string ⟨#[]⟩, .int .i64 0, .int .i64 0, .string ⟨#[]⟩, .int .i64 0, .string ⟨#[]⟩, .int .i64 0, .bool false, .bool false] 25)) = P at *
        have hup := hU.lt
        have hvp := hV.lt
        have sb := hS.bel hP
        have sc0 := sb.cell 0 _ rfl; have sc1 := sb.cell 1 _ rfl; have sc2 := sb.cell 2 _ rfl; have sc3 := sb.cell 3 _ rfl; have sc4 := sb.cell 4 _ rfl; have sc5 := sb.cell 5 _ rfl; have sc6 := sb.cell 6 _ rfl; have sc7 := sb.cell 7 _ rfl; have sc8 := sb.cell 8 _ rfl
        have uc0 := hU.cell 0 _ rfl; have uc1 := hU.cell 1 _ rfl; have uc2 := hU.cell 2 _ rfl; have uc3 := hU.cell 3 _ rfl; have uc4 := hU.cell 4 _ rfl; have uc5 := hU.cell 5 _ rfl; have uc6 := hU.cell 6 _ rfl; have uc7 := hU.cell 7 _ rfl; have uc8 := hU.cell 8 _ rfl; have uf0 := hU.frozen 0; have uf1 := hU.frozen 1; have uf2 := hU.frozen 2; have uf3 := hU.frozen 3; have uf4 := hU.frozen 4; have uf5 := hU.frozen 5; have uf6 := hU.frozen 6; have uf7 := hU.frozen 7; have uf8 := hU.frozen 8
        have vc0 := hV.cell 0 _ rfl; have vc1 := hV.cell 1 _ rfl; have vc2 := hV.cell 2 _ rfl; have vc3 := hV.cell 3 _ rfl; have vc4 := hV.cell 4 _ rfl; have vc5 := hV.cell 5 _ rfl; have vc6 := hV.cell 6 _ rfl; have vc7 := hV.cell 7 _ rfl; have vc8 := hV.cell 8 _ rfl; have vf0 := hV.frozen 0; have vf1 := hV.frozen 1; have vf2 := hV.frozen 2; have vf3 := hV.frozen 3; have vf4 := hV.frozen 4; have vf5 := hV.frozen 5; have vf6 := hV.frozen 6; have vf7 := hV.frozen 7; have vf8 := hV.frozen 8
        go_wp2_with fail
        refine (frontOf_to lb en wy wt se rs sg fr st s last hs3 HQ.out ys ⟨l2, en2, wy2, wt2, ⟨se2, rs2, sg2, fr2, st2⟩⟩ HRF.out _).mono ?_
        rintro e w6 ⟨v6, rfl, o6, b6⟩
        rw [ftC]
        have hv6 := hvp
        have hP := hP.trans b6; have hU := hU.bel b6; have hV := hV.bel b6; have sb := hS.bel hP; clear b6; have sc0 := sb.cell 0 _ rfl; have sc1 := sb.cell 1 _ rfl; have sc2 := sb.cell 2 _ rfl; have sc3 := sb.cell 3 _ rfl; have sc4 := sb.cell 4 _ rfl; have sc5 := sb.cell 5 _ rfl; have sc6 := sb.cell 6 _ rfl; have sc7 := sb.cell 7 _ rfl; have sc8 := sb.cell 8 _ rfl; have uc0 := hU.cell 0 _ rfl; have uc1 := hU.cell 1 _ rfl; have uc2 := hU.cell 2 _ rfl; have uc3 := hU.cell 3 _ rfl; have uc4 := hU.cell 4 _ rfl; have uc5 := hU.cell 5 _ rfl; have uc6 := hU.cell 6 _ rfl; have uc7 := hU.cell 7 _ rfl; have uc8 := hU.cell 8 _ rfl; have uf0 := hU.frozen 0; have uf1 := hU.frozen 1; have uf2 := hU.frozen 2; have uf3 := hU.frozen 3; have uf4 := hU.frozen 4; have uf5 := hU.frozen 5; have uf6 := hU.frozen 6; have uf7 := hU.frozen 7; have uf8 := hU.frozen 8; have vc0 := hV.cell 0 _ rfl; have vc1 := hV.cell 1 _ rfl; have vc2 := hV.cell 2 _ rfl; have vc3 := hV.cell 3 _ rfl; have vc4 := hV.cell 4 _ rfl; have vc5 := hV.cell 5 _ rfl; have vc6 := hV.cell 6 _ rfl; have vc7 := hV.cell 7 _ rfl; have vc8 := hV.cell 8 _ rfl; have vf0 := hV.frozen 0; have vf1 := hV.frozen 1; have vf2 := hV.frozen 2; have vf3 := hV.frozen 3; have vf4 := hV.frozen 4; have vf5 := hV.frozen 5; have vf6 := hV.frozen 6; have vf7 := hV.frozen 7; have vf8 := hV.frozen 8
        go_upto_region 20 with fail
        have hU := (((((((((hU.far (p := ⟨w4.heap.size + 1, 0, none⟩) (by simp) (.string ⟨l2.toArray⟩)).far (p := ⟨w4.heap.size + 1, 1, none⟩) (by simp) (.int .i64 en2)).far (p := ⟨w4.heap.size + 1, 2, none⟩) (by simp) (.int .i64 wy2)).far (p := ⟨w4.heap.size + 1, 3, none⟩) (by simp) (.string ⟨wt2.toArray⟩)).far (p := ⟨w4.heap.size + 1, 4, none⟩) (by simp) (.int .i64 se2)).far (p := ⟨w4.heap.size + 1, 5, none⟩) (by simp) (.string ⟨rs2.toArray⟩)).far (p := ⟨w4.heap.size + 1, 6, none⟩) (by simp) (.int .i64 sg2)).far (p := ⟨w4.heap.size + 1, 7, none⟩) (by simp) (.bool fr2)).far (p := ⟨w4.heap.size + 1, 8, none⟩) (by simp) (.bool st2))
        have hV : Box (((((((((w6.setCell ⟨w4.heap.size + 1, 0, none⟩ (.string ⟨l2.toArray⟩)).setCell ⟨w4.heap.size + 1, 1, none⟩ (.int .i64 en2)).setCell ⟨w4.heap.size + 1, 2, none⟩ (.int .i64 wy2)).setCell ⟨w4.heap.size + 1, 3, none⟩ (.string ⟨wt2.toArray⟩)).setCell ⟨w4.heap.size + 1, 4, none⟩ (.int .i64 se2)).setCell ⟨w4.heap.size + 1, 5, none⟩ (.string ⟨rs2.toArray⟩)).setCell ⟨w4.heap.size + 1, 6, none⟩ (.int .i64 sg2)).setCell ⟨w4.heap.size + 1, 7, none⟩ (.bool fr2)).setCell ⟨w4.heap.size + 1, 8, none⟩ (.bool st2)) (w4.heap.size + 1) 25 [.string ⟨l2.toArray⟩, .int .i64 en2, .int .i64 wy2, .string ⟨wt2.toArray⟩, .int .i64 se2, .string ⟨rs2.toArray⟩, .int .i64 sg2, .bool fr2, .bool st2] := (((((((((hV.set 0 (.string ⟨l2.toArray⟩)).set 1 (.int .i64 en2)).set 2 (.int .i64 wy2)).set 3 (.string ⟨wt2.toArray⟩)).set 4 (.int .i64 se2)).set 5 (.string ⟨rs2.toArray⟩)).set 6 (.int .i64 sg2)).set 7 (.bool fr2)).set 8 (.bool st2))
        have hP := (((((((((hP.setCell (p := ⟨w4.heap.size + 1, 0, none⟩) (Nat.le_succ _) (.string ⟨l2.toArray⟩)).setCell (p := ⟨w4.heap.size + 1, 1, none⟩) (Nat.le_succ _) (.int .i64 en2)).setCell (p := ⟨w4.heap.size + 1, 2, none⟩) (Nat.le_succ _) (.int .i64 wy2)).setCell (p := ⟨w4.heap.size + 1, 3, none⟩) (Nat.le_succ _) (.string ⟨wt2.toArray⟩)).setCell (p := ⟨w4.heap.size + 1, 4, none⟩) (Nat.le_succ _) (.int .i64 se2)).setCell (p := ⟨w4.heap.size + 1, 5, none⟩) (Nat.le_succ _) (.string ⟨rs2.toArray⟩)).setCell (p := ⟨w4.heap.size + 1, 6, none⟩) (Nat.le_succ _) (.int .i64 sg2)).setCell (p := ⟨w4.heap.size + 1, 7, none⟩) (Nat.le_succ _) (.bool fr2)).setCell (p := ⟨w4.heap.size + 1, 8, none⟩) (Nat.le_succ _) (.bool st2))
        have i6 := (((((((((o6.setCell (p := ⟨w4.heap.size + 1, 0, none⟩) hv6 (.string ⟨l2.toArray⟩)).setCell (p := ⟨w4.heap.size + 1, 1, none⟩) hv6 (.int .i64 en2)).setCell (p := ⟨w4.heap.size + 1, 2, none⟩) hv6 (.int .i64 wy2)).setCell (p := ⟨w4.heap.size + 1, 3, none⟩) hv6 (.string ⟨wt2.toArray⟩)).setCell (p := ⟨w4.heap.size + 1, 4, none⟩) hv6 (.int .i64 se2)).setCell (p := ⟨w4.heap.size + 1, 5, none⟩) hv6 (.string ⟨rs2.toArray⟩)).setCell (p := ⟨w4.heap.size + 1, 6, none⟩) hv6 (.int .i64 sg2)).setCell (p := ⟨w4.heap.size + 1, 7, none⟩) hv6 (.bool fr2)).setCell (p := ⟨w4.heap.size + 1, 8, none⟩) hv6 (.bool st2)).ints
        have i3 := IntSl.bel i3 hP
        have hS := hS.bel hP
        have hO := hO.bel hP
        have hT := hT.bel hP
        have hb := hb.trans hP
        have su0 := Box.up hS 0 _ rfl; have su1 := Box.up hS 1 _ rfl; have su2 := Box.up hS 2 _ rfl; have su3 := Box.up hS 3 _ rfl; have su4 := Box.up hS 4 _ rfl; have su5 := Box.up hS 5 _ rfl; have su6 := Box.up hS 6 _ rfl; have su7 := Box.up hS 7 _ rfl; have su8 := Box.up hS 8 _ rfl
        have ou0 := Box.up hO 0 _ rfl; have ou1 := Box.up hO 1 _ rfl; have ou2 := Box.up hO 2 _ rfl; have ou3 := Box.up hO 3 _ rfl; have ou4 := Box.up hO 4 _ rfl; have ou5 := Box.up hO 5 _ rfl; have ou6 := Box.up hO 6 _ rfl; have ou7 := Box.up hO 7 _ rfl; have ou8 := Box.up hO 8 _ rfl
        have tu0 := Box.up hT 0 _ rfl; have tu1 := Box.up hT 1 _ rfl; have tu2 := Box.up hT 2 _ rfl; have tu3 := Box.up hT 3 _ rfl; have tu4 := Box.up hT 4 _ rfl; have tu5 := Box.up hT 5 _ rfl; have tu6 := Box.up hT 6 _ rfl; have tu7 := Box.up hT 7 _ rfl; have tu8 := Box.up hT 8 _ rfl
        have uu0 := Box.up hU 0 _ rfl; have uu1 := Box.up hU 1 _ rfl; have uu2 := Box.up hU 2 _ rfl; have uu3 := Box.up hU 3 _ rfl; have uu4 := Box.up hU 4 _ rfl; have uu5 := Box.up hU 5 _ rfl; have uu6 := Box.up hU 6 _ rfl; have uu7 := Box.up hU 7 _ rfl; have uu8 := Box.up hU 8 _ rfl
        have vu0 := Box.up hV 0 _ rfl; have vu1 := Box.up hV 1 _ rfl; have vu2 := Box.up hV 2 _ rfl; have vu3 := Box.up hV 3 _ rfl; have vu4 := Box.up hV 4 _ rfl; have vu5 := Box.up hV 5 _ rfl; have vu6 := Box.up hV 6 _ rfl; have vu7 := Box.up hV 7 _ rfl; have vu8 := Box.up hV 8 _ rfl
        clear hP
        refine region_up (by kernel_rfl) (by kernel_rfl) ?_
        repeat (go_big_quiet_step ((first
          | (go_at_call 12; exact up_call _ (frontBegun_any _ (hL.bel (hb.trans (Up.b _)))))
          | (go_at_call 13; exact up_call _ (checkFr_to lb en wy wt se rs sg fr st _ HQ.out _))
          | (go_at_call 9; exact up_call _ (checkFront_to lb en wy wt se rs sg fr st _ HQ.out _))
          | (go_at_call 14; exact up_call _ (intsAre_yes (.slice A3 _ c3) _ ys ys 0 _ (i3.bel (Up.b _)) (i6.bel (Up.b _)) (by rw [if_pos rfl]))))))
        refine wpQuiet_nil ?_
        intro _ hw'
        obtain ⟨uu, rfl⟩ := hw'
        have b9 := uu.b
        generalize uu.v = wu at *
        go_wp2_with fail
        go_ret
        exact ⟨rfl, hb.trans b9⟩
    · skip
      have hf2 : (ys, (⟨l2, en2, wy2, wt2, ⟨se2, rs2, sg2, fr2, st2⟩⟩ : M.Ft), g) = ([], ⟨[], 0, 0, [], ⟨0, [], 0, false, false⟩⟩, q) := by rw [← hf, M.feedFE, hq, if_neg hq0]; rfl
      simp only [Prod.mk.injEq, M.Ft.mk.injEq, M.St.mk.injEq] at hf2
      obtain ⟨rfl, ⟨rfl, rfl, rfl, rfl, ⟨rfl, rfl, rfl, rfl, rfl⟩⟩, rfl⟩ := hf2
      have e1 : (g == 0) = false := by simpa using hq0
      have e2 : (g != 0) = true := by simpa using hq0
      clear hf hq hq0 ha hnl
      go_enter Tryz.func3, Tryz.ntmps3
      have hS := Box.new w 25 [.string lb, .int .i64 en, .int .i64 wy, .string wt, .int .i64 se, .string rs, .int .i64 sg, .bool fr, .bool st]
      have hb := Bel.refl w
      go_wp2_with fail
      refine (choose_to nm s _ _ _ _ HC.out _ (hL.bel ((Bel.refl w).alloc _))).mono ?_
      rintro e w1 ⟨rfl, b1⟩
      have hb := Bel.trans (Bel.trans hb (by repeat (first | exact Bel.refl _ | refine Bel.drewN ?_ _ | refine Bel.drew ?_ | refine Bel.alloc ?_ _ | refine Bel.trans ?_ (by assumption) | refine Bel.setCell ?_ (by simp; omega) _))) b1; have hS := Box.bel (Box.bel hS (by repeat (first | exact Bel.refl _ | refine Bel.drewN ?_ _ | refine Bel.drew ?_ | refine Bel.alloc ?_ _ | refine Bel.trans ?_ (by assumption) | refine Bel.setCell ?_ (by simp; omega) _))) b1; (try have hO := Box.bel (Box.bel hO (by repeat (first | exact Bel.refl _ | refine Bel.drewN ?_ _ | refine Bel.drew ?_ | refine Bel.alloc ?_ _ | refine Bel.trans ?_ (by assumption) | refine Bel.setCell ?_ (by simp; omega) _))) b1); (try have hT := Box.bel (Box.bel hT (by repeat (first | exact Bel.refl _ | refine Bel.drewN ?_ _ | refine Bel.drew ?_ | refine Bel.alloc ?_ _ | refine Bel.trans ?_ (by assumption) | refine Bel.setCell ?_ (by simp; omega) _))) b1); (try have i3 := IntSl.bel (IntSl.bel i3 (by repeat (first | exact Bel.refl _ | refine Bel.drewN ?_ _ | refine Bel.drew ?_ | refine Bel.alloc ?_ _ | refine Bel.trans ?_ (by assumption) | refine Bel.setCell ?_ (by simp; omega) _))) b1); clear b1; have hSl := hS.lt; have sc0 := hS.cell 0 _ rfl; have sc1 := hS.cell 1 _ rfl; have sc2 := hS.cell 2 _ rfl; have sc3 := hS.cell 3 _ rfl; have sc4 := hS.cell 4 _ rfl; have sc5 := hS.cell 5 _ rfl; have sc6 := hS.cell 6 _ rfl; have sc7 := hS.cell 7 _ rfl; have sc8 := hS.cell 8 _ rfl
      go_wp2_with fail
      refine (begin_no nm HB.out _).mono ?_
      rintro e w2 ⟨rfl, b2⟩
      have hb := Bel.trans (Bel.trans hb (by repeat (first | exact Bel.refl _ | refine Bel.drewN ?_ _ | refine Bel.drew ?_ | refine Bel.alloc ?_ _ | refine Bel.trans ?_ (by assumption) | refine Bel.setCell ?_ (by simp; omega) _))) b2; have hS := Box.bel (Box.bel hS (by repeat (first | exact Bel.refl _ | refine Bel.drewN ?_ _ | refine Bel.drew ?_ | refine Bel.alloc ?_ _ | refine Bel.trans ?_ (by assumption) | refine Bel.setCell ?_ (by simp; omega) _))) b2; (try have hO := Box.bel (Box.bel hO (by repeat (first | exact Bel.refl _ | refine Bel.drewN ?_ _ | refine Bel.drew ?_ | refine Bel.alloc ?_ _ | refine Bel.trans ?_ (by assumption) | refine Bel.setCell ?_ (by simp; omega) _))) b2); (try have hT := Box.bel (Box.bel hT (by repeat (first | exact Bel.refl _ | refine Bel.drewN ?_ _ | refine Bel.drew ?_ | refine Bel.alloc ?_ _ | refine Bel.trans ?_ (by assumption) | refine Bel.setCell ?_ (by simp; omega) _))) b2); (try have i3 := IntSl.bel (IntSl.bel i3 (by repeat (first | exact Bel.refl _ | refine Bel.drewN ?_ _ | refine Bel.drew ?_ | refine Bel.alloc ?_ _ | refine Bel.trans ?_ (by assumption) | refine Bel.setCell ?_ (by simp; omega) _))) b2); clear b2; have hSl := hS.lt; have sc0 := hS.cell 0 _ rfl; have sc1 := hS.cell 1 _ rfl; have sc2 := hS.cell 2 _ rfl; have sc3 := hS.cell 3 _ rfl; have sc4 := hS.cell 4 _ rfl; have sc5 := hS.cell 5 _ rfl; have sc6 := hS.cell 6 _ rfl; have sc7 := hS.cell 7 _ rfl; have sc8 := hS.cell 8 _ rfl
      have hO := Box.new w2 25 [.string ⟨#[]⟩, .int .i64 0, .int .i64 0, .string ⟨#[]⟩, .int .i64 0, .string ⟨#[]⟩, .int .i64 0, .bool false, .bool false]
      go_wp2_with fail
      refine (feedF_sl lb en wy wt se rs sg fr st s last _ _ _ _ _ _ _ _ _ _ _ HF.out _ (hL.bel (hb.alloc _))).mono ?_
      rintro e w3 ⟨A3, c3, rfl, o3, b3⟩
      have hO := Box.bel hO b3
      have hOq := hO
      clear hO
      have hb := Bel.trans (Bel.trans hb (by repeat (first | exact Bel.refl _ | refine Bel.drewN ?_ _ | refine Bel.drew ?_ | refine Bel.alloc ?_ _ | refine Bel.trans ?_ (by assumption) | refine Bel.setCell ?_ (by simp; omega) _))) b3; have hS := Box.bel (Box.bel hS (by repeat (first | exact Bel.refl _ | refine Bel.drewN ?_ _ | refine Bel.drew ?_ | refine Bel.alloc ?_ _ | refine Bel.trans ?_ (by assumption) | refine Bel.setCell ?_ (by simp; omega) _))) b3; (try have hO := Box.bel (Box.bel hO (by repeat (first | exact Bel.refl _ | refine Bel.drewN ?_ _ | refine Bel.drew ?_ | refine Bel.alloc ?_ _ | refine Bel.trans ?_ (by assumption) | refine Bel.setCell ?_ (by simp; omega) _))) b3); (try have hT := Box.bel (Box.bel hT (by repeat (first | exact Bel.refl _ | refine Bel.drewN ?_ _ | refine Bel.drew ?_ | refine Bel.alloc ?_ _ | refine Bel.trans ?_ (by assumption) | refine Bel.setCell ?_ (by simp; omega) _))) b3); (try have i3 := IntSl.bel (IntSl.bel i3 (by repeat (first | exact Bel.refl _ | refine Bel.drewN ?_ _ | refine Bel.drew ?_ | refine Bel.alloc ?_ _ | refine Bel.trans ?_ (by assumption) | refine Bel.setCell ?_ (by simp; omega) _))) b3); clear b3; have hSl := hS.lt; have sc0 := hS.cell 0 _ rfl; have sc1 := hS.cell 1 _ rfl; have sc2 := hS.cell 2 _ rfl; have sc3 := hS.cell 3 _ rfl; have sc4 := hS.cell 4 _ rfl; have sc5 := hS.cell 5 _ rfl; have sc6 := hS.cell 6 _ rfl; have sc7 := hS.cell 7 _ rfl; have sc8 := hS.cell 8 _ rfl
      have hO := hOq
      clear hOq
      have i3 := o3.ints
      clear o3
      have hT := Box.new w3 25 [.string ⟨#[]⟩, .int .i64 0, .int .i64 0, .string ⟨#[]⟩, .int .i64 0, .string ⟨#[]⟩, .int .i64 0, .bool false, .bool false]
      go_wp2_with fail
      refine (long_to nm _ HA.out _).mono ?_
      rintro e w' ⟨rfl, rfl⟩
      go_wp2_with fail
      skip
      refine (checkFront_to lb en wy wt se rs sg fr st _ HQ.out _).mono ?_
      rintro e w4 ⟨rfl, b4⟩
      have hO := Box.bel (Box.bel hO (by repeat (first | exact Bel.refl _ | refine Bel.drewN ?_ _ | refine Bel.drew ?_ | refine Bel.alloc ?_ _ | refine Bel.trans ?_ (by assumption) | refine Bel.setCell ?_ (by simp; omega) _))) b4
      have hT := Box.bel hT b4
      have hb := Bel.trans (Bel.trans hb (by repeat (first | exact Bel.refl _ | refine Bel.drewN ?_ _ | refine Bel.drew ?_ | refine Bel.alloc ?_ _ | refine Bel.trans ?_ (by assumption) | refine Bel.setCell ?_ (by simp; omega) _))) b4
      have hS := Box.bel (Box.bel hS (by repeat (first | exact Bel.refl _ | refine Bel.drewN ?_ _ | refine Bel.drew ?_ | refine Bel.alloc ?_ _ | refine Bel.trans ?_ (by assumption) | refine Bel.setCell ?_ (by simp; omega) _))) b4
      have i3 := IntSl.bel (IntSl.bel i3 (by repeat (first | exact Bel.refl _ | refine Bel.drewN ?_ _ | refine Bel.drew ?_ | refine Bel.alloc ?_ _ | refine Bel.trans ?_ (by assumption) | refine Bel.setCell ?_ (by simp; omega) _))) b4
      clear b4
      have sc0 := hS.cell 0 _ rfl; have sc1 := hS.cell 1 _ rfl; have sc2 := hS.cell 2 _ rfl; have sc3 := hS.cell 3 _ rfl; have sc4 := hS.cell 4 _ rfl; have sc5 := hS.cell 5 _ rfl; have sc6 := hS.cell 6 _ rfl; have sc7 := hS.cell 7 _ rfl; have sc8 := hS.cell 8 _ rfl
      go_upto_if 62 with fail
      have hP : Bel w4 ((w4.alloc (.cells #[.string ⟨#[]⟩, .int .i64 0, .int .i64 0, .string ⟨#[]⟩, .int .i64 0, .string ⟨#[]⟩, .int .i64 0, .bool false, .bool false] 25)).alloc (.cells #[.string ⟨#[]⟩, .int .i64 0, .int .i64 0, .string ⟨#[]⟩, .int .i64 0, .string ⟨#[]⟩, .int .i64 0, .bool false, .bool false] 25)) := (by repeat (first | exact Bel.refl _ | refine Bel.drewN ?_ _ | refine Bel.drew ?_ | refine Bel.alloc ?_ _ | refine Bel.trans ?_ (by assumption) | refine Bel.setCell ?_ (by simp; omega) _))
      have hU := (Box.new w4 25 [.string ⟨#[]⟩, .int .i64 0, .int .i64 0, .string ⟨#[]⟩, .int .i64 0, .string ⟨#[]⟩, .int .i64 0, .bool false, .bool false]).bel ((Bel.refl _).alloc (.cells #[.string ⟨#[]⟩, .int .i64 0, .int .i64 0, .string ⟨#[]⟩, .int .i64 0, .string ⟨#[]⟩, .int .i64 0, .bool false, .bool false] 25))
      have hV : Box ((w4.alloc (.cells #[.string ⟨#[]⟩, .int .i64 0, .int .i64 0, .string ⟨#[]⟩, .int .i64 0, .string ⟨#[]⟩, .int .i64 0, .bool false, .bool false] 25)).alloc (.cells #[.string ⟨#[]⟩, .int .i64 0, .int .i64 0, .string ⟨#[]⟩, .int .i64 0, .string ⟨#[]⟩, .int .i64 0, .bool false, .bool false] 25)) (w4.heap.size + 1) 25 [.string ⟨#[]⟩, .int .i64 0, .int .i64 0, .string ⟨#[]⟩, .int .i64 0, .string ⟨#[]⟩, .int .i64 0, .bool false, .bool false] := by have := Box.new (w4.alloc (.cells #[.string ⟨#[]⟩, .int .i64 0, .int .i64 0, .string ⟨#[]⟩, .int .i64 0, .string ⟨#[]⟩, .int .i64 0, .bool false, .bool false] 25)) 25 [.string ⟨#[]⟩, .int .i64 0, .int .i64 0, .string ⟨#[]⟩, .int .i64 0, .string ⟨#[]⟩, .int .i64 0, .bool false, .bool false]; simpa using this
      have hso := hS.lt
      have hoo := hO.lt
      have hto := hT.lt
      generalize ((w4.alloc (.cells #[.string ⟨#[]⟩, .int .i64 0, .int .i64 0, .string ⟨#[]⟩, .int .i64 0, .string ⟨#[]⟩, .int .i64 0, .bool false, .bool false] 25)).alloc (.cells #[.string ⟨#[]⟩, .int .i64 0, .int .i64 0, .string ⟨#[]⟩, .int .i64 0, .string ⟨#[]⟩, .int .i64 0, .bool false, .bool false] 25)) = P at *
      have hup := hU.lt
      have hvp := hV.lt
      have sb := hS.bel hP
      have sc0 := sb.cell 0 _ rfl; have sc1 := sb.cell 1 _ rfl; have sc2 := sb.cell 2 _ rfl; have sc3 := sb.cell 3 _ rfl; have sc4 := sb.cell 4 _ rfl; have sc5 := sb.cell 5 _ rfl; have sc6 := sb.cell 6 _ rfl; have sc7 := sb.cell 7 _ rfl; have sc8 := sb.cell 8 _ rfl
      have uc0 := hU.cell 0 _ rfl; have uc1 := hU.cell 1 _ rfl; have uc2 := hU.cell 2 _ rfl; have uc3 := hU.cell 3 _ rfl; have uc4 := hU.cell 4 _ rfl; have uc5 := hU.cell 5 _ rfl; have uc6 := hU.cell 6 _ rfl; have uc7 := hU.cell 7 _ rfl; have uc8 := hU.cell 8 _ rfl; have uf0 := hU.frozen 0; have uf1 := hU.frozen 1; have uf2 := hU.frozen 2; have uf3 := hU.frozen 3; have uf4 := hU.frozen 4; have uf5 := hU.frozen 5; have uf6 := hU.frozen 6; have uf7 := hU.frozen 7; have uf8 := hU.frozen 8
      have vc0 := hV.cell 0 _ rfl; have vc1 := hV.cell 1 _ rfl; have vc2 := hV.cell 2 _ rfl; have vc3 := hV.cell 3 _ rfl; have vc4 := hV.cell 4 _ rfl; have vc5 := hV.cell 5 _ rfl; have vc6 := hV.cell 6 _ rfl; have vc7 := hV.cell 7 _ rfl; have vc8 := hV.cell 8 _ rfl; have vf0 := hV.frozen 0; have vf1 := hV.frozen 1; have vf2 := hV.frozen 2; have vf3 := hV.frozen 3; have vf4 := hV.frozen 4; have vf5 := hV.frozen 5; have vf6 := hV.frozen 6; have vf7 := hV.frozen 7; have vf8 := hV.frozen 8
      go_upto_region 20 with fail
      have i3 := IntSl.bel i3 hP
      have hS := hS.bel hP
      have hO := hO.bel hP
      have hT := hT.bel hP
      have hb := hb.trans hP
      have su0 := Box.up hS 0 _ rfl; have su1 := Box.up hS 1 _ rfl; have su2 := Box.up hS 2 _ rfl; have su3 := Box.up hS 3 _ rfl; have su4 := Box.up hS 4 _ rfl; have su5 := Box.up hS 5 _ rfl; have su6 := Box.up hS 6 _ rfl; have su7 := Box.up hS 7 _ rfl; have su8 := Box.up hS 8 _ rfl
      have ou0 := Box.up hO 0 _ rfl; have ou1 := Box.up hO 1 _ rfl; have ou2 := Box.up hO 2 _ rfl; have ou3 := Box.up hO 3 _ rfl; have ou4 := Box.up hO 4 _ rfl; have ou5 := Box.up hO 5 _ rfl; have ou6 := Box.up hO 6 _ rfl; have ou7 := Box.up hO 7 _ rfl; have ou8 := Box.up hO 8 _ rfl
      have tu0 := Box.up hT 0 _ rfl; have tu1 := Box.up hT 1 _ rfl; have tu2 := Box.up hT 2 _ rfl; have tu3 := Box.up hT 3 _ rfl; have tu4 := Box.up hT 4 _ rfl; have tu5 := Box.up hT 5 _ rfl; have tu6 := Box.up hT 6 _ rfl; have tu7 := Box.up hT 7 _ rfl; have tu8 := Box.up hT 8 _ rfl
      have uu0 := Box.up hU 0 _ rfl; have uu1 := Box.up hU 1 _ rfl; have uu2 := Box.up hU 2 _ rfl; have uu3 := Box.up hU 3 _ rfl; have uu4 := Box.up hU 4 _ rfl; have uu5 := Box.up hU 5 _ rfl; have uu6 := Box.up hU 6 _ rfl; have uu7 := Box.up hU 7 _ rfl; have uu8 := Box.up hU 8 _ rfl
      have vu0 := Box.up hV 0 _ rfl; have vu1 := Box.up hV 1 _ rfl; have vu2 := Box.up hV 2 _ rfl; have vu3 := Box.up hV 3 _ rfl; have vu4 := Box.up hV 4 _ rfl; have vu5 := Box.up hV 5 _ rfl; have vu6 := Box.up hV 6 _ rfl; have vu7 := Box.up hV 7 _ rfl; have vu8 := Box.up hV 8 _ rfl
      clear hP
      refine region_up (by kernel_rfl) (by kernel_rfl) ?_
      repeat (go_big_quiet_step ((first
        | (go_at_call 12; exact up_call _ (frontBegun_any _ (hL.bel (hb.trans (Up.b _)))))
        | (go_at_call 13; exact up_call _ (checkFr_to lb en wy wt se rs sg fr st _ HQ.out _))
        | (go_at_call 9; exact up_call _ (checkFront_to lb en wy wt se rs sg fr st _ HQ.out _))
        | (go_at_call 14; exact up_call _ (intsAre_yes (.slice A3 _ c3) _ [] [] g _ (i3.bel (Up.b _)) (IntSl.nil_ _) (by split <;> rfl))))))
      refine wpQuiet_nil ?_
      intro _ hw'
      obtain ⟨uu, rfl⟩ := hw'
      have b9 := uu.b
      generalize uu.v = wu at *
      go_wp2_with fail
      go_ret
      exact ⟨rfl, hb.trans b9⟩
  · have HA := Lib.hid ha
    have HB := Lib.hid hnl
    rcases long_cases s with ⟨hsl, hls⟩ | ⟨hsl, hls⟩
    · have HLS := Lib.hid hls
      have HC := Lib.hid (show M.chooseE nm.data.toList s.data.toList = (0, 0, 0, 2) by rw [M.chooseE, ← Lib.size_eq, ← Lib.size_eq, if_pos (.inr hsl)])
      by_cases hq0 : q = 0
      · subst hq0
        have hf2 : (ys, (⟨l2, en2, wy2, wt2, ⟨se2, rs2, sg2, fr2, st2⟩⟩ : M.Ft), g) = ([], ⟨[], 0, 0, [], ⟨0, [], 0, false, false⟩⟩, 2) := by rw [← hf, M.feedFE, hq, if_pos rfl, if_pos (by rw [← Lib.size_eq]; exact hsl)]; rfl
        simp only [Prod.mk.injEq, M.Ft.mk.injEq, M.St.mk.injEq] at hf2
        obtain ⟨rfl, ⟨rfl, rfl, rfl, rfl, ⟨rfl, rfl, rfl, rfl, rfl⟩⟩, rfl⟩ := hf2
        clear hf hq hls hsl ha
        go_enter Tryz.func3, Tryz.ntmps3
        have hS := Box.new w 25 [.string lb, .int .i64 en, .int .i64 wy, .string wt, .int .i64 se, .string rs, .int .i64 sg, .bool fr, .bool st]
        have hb := Bel.refl w
        go_wp2_with fail
        refine (choose_to nm s _ _ _ _ HC.out _ (hL.bel ((Bel.refl w).alloc _))).mono ?_
        rintro e w1 ⟨rfl, b1⟩
        have hb := Bel.trans (Bel.trans hb (by repeat (first | exact Bel.refl _ | refine Bel.drewN ?_ _ | refine Bel.drew ?_ | refine Bel.alloc ?_ _ | refine Bel.trans ?_ (by assumption) | refine Bel.setCell ?_ (by simp; omega) _))) b1; have hS := Box.bel (Box.bel hS (by repeat (first | exact Bel.refl _ | refine Bel.drewN ?_ _ | refine Bel.drew ?_ | refine Bel.alloc ?_ _ | refine Bel.trans ?_ (by assumption) | refine Bel.setCell ?_ (by simp; omega) _))) b1; (try have hO := Box.bel (Box.bel hO (by repeat (first | exact Bel.refl _ | refine Bel.drewN ?_ _ | refine Bel.drew ?_ | refine Bel.alloc ?_ _ | refine Bel.trans ?_ (by assumption) | refine Bel.setCell ?_ (by simp; omega) _))) b1); (try have hT := Box.bel (Box.bel hT (by repeat (first | exact Bel.refl _ | refine Bel.drewN ?_ _ | refine Bel.drew ?_ | refine Bel.alloc ?_ _ | refine Bel.trans ?_ (by assumption) | refine Bel.setCell ?_ (by simp; omega) _))) b1); (try have i3 := IntSl.bel (IntSl.bel i3 (by repeat (first | exact Bel.refl _ | refine Bel.drewN ?_ _ | refine Bel.drew ?_ | refine Bel.alloc ?_ _ | refine Bel.trans ?_ (by assumption) | refine Bel.setCell ?_ (by simp; omega) _))) b1); clear b1; have hSl := hS.lt; have sc0 := hS.cell 0 _ rfl; have sc1 := hS.cell 1 _ rfl; have sc2 := hS.cell 2 _ rfl; have sc3 := hS.cell 3 _ rfl; have sc4 := hS.cell 4 _ rfl; have sc5 := hS.cell 5 _ rfl; have sc6 := hS.cell 6 _ rfl; have sc7 := hS.cell 7 _ rfl; have sc8 := hS.cell 8 _ rfl
        go_wp2_with fail
        refine (begin_yes nm HB.out _).mono ?_
        rintro e w2 ⟨rfl, b2⟩
        have hb := Bel.trans (Bel.trans hb (by repeat (first | exact Bel.refl _ | refine Bel.drewN ?_ _ | refine Bel.drew ?_ | refine Bel.alloc ?_ _ | refine Bel.trans ?_ (by assumption) | refine Bel.setCell ?_ (by simp; omega) _))) b2; have hS := Box.bel (Box.bel hS (by repeat (first | exact Bel.refl _ | refine Bel.drewN ?_ _ | refine Bel.drew ?_ | refine Bel.alloc ?_ _ | refine Bel.trans ?_ (by assumption) | refine Bel.setCell ?_ (by simp; omega) _))) b2; (try have hO := Box.bel (Box.bel hO (by repeat (first | exact Bel.refl _ | refine Bel.drewN ?_ _ | refine Bel.drew ?_ | refine Bel.alloc ?_ _ | refine Bel.trans ?_ (by assumption) | refine Bel.setCell ?_ (by simp; omega) _))) b2); (try have hT := Box.bel (Box.bel hT (by repeat (first | exact Bel.refl _ | refine Bel.drewN ?_ _ | refine Bel.drew ?_ | refine Bel.alloc ?_ _ | refine Bel.trans ?_ (by assumption) | refine Bel.setCell ?_ (by simp; omega) _))) b2); (try have i3 := IntSl.bel (IntSl.bel i3 (by repeat (first | exact Bel.refl _ | refine Bel.drewN ?_ _ | refine Bel.drew ?_ | refine Bel.alloc ?_ _ | refine Bel.trans ?_ (by assumption) | refine Bel.setCell ?_ (by simp; omega) _))) b2); clear b2; have hSl := hS.lt; have sc0 := hS.cell 0 _ rfl; have sc1 := hS.cell 1 _ rfl; have sc2 := hS.cell 2 _ rfl; have sc3 := hS.cell 3 _ rfl; have sc4 := hS.cell 4 _ rfl; have sc5 := hS.cell 5 _ rfl; have sc6 := hS.cell 6 _ rfl; have sc7 := hS.cell 7 _ rfl; have sc8 := hS.cell 8 _ rfl
        have hO := Box.new w2 25 [.string nm, .int .i64 0, .int .i64 0, .string ⟨#[]⟩, .int .i64 0, .string ⟨#[]⟩, .int .i64 0, .bool false, .bool false]
        go_wp2_with fail
        refine (feedF_sl lb en wy wt se rs sg fr st s last _ _ _ _ _ _ _ _ _ _ _ HF.out _ (hL.bel (hb.alloc _))).mono ?_
        rintro e w3 ⟨A3, c3, rfl, o3, b3⟩
        have hO := Box.bel hO b3
        have hOq := hO
        clear hO
        have hb := Bel.trans (Bel.trans hb (by repeat (first | exact Bel.refl _ | refine Bel.drewN ?_ _ | refine Bel.drew ?_ | refine Bel.alloc ?_ _ | refine Bel.trans ?_ (by assumption) | refine Bel.setCell ?_ (by simp; omega) _))) b3; have hS := Box.bel (Box.bel hS (by repeat (first | exact Bel.refl _ | refine Bel.drewN ?_ _ | refine Bel.drew ?_ | refine Bel.alloc ?_ _ | refine Bel.trans ?_ (by assumption) | refine Bel.setCell ?_ (by simp; omega) _))) b3; (try have hO := Box.bel (Box.bel hO (by repeat (first | exact Bel.refl _ | refine Bel.drewN ?_ _ | refine Bel.drew ?_ | refine Bel.alloc ?_ _ | refine Bel.trans ?_ (by assumption) | refine Bel.setCell ?_ (by simp; omega) _))) b3); (try have hT := Box.bel (Box.bel hT (by repeat (first | exact Bel.refl _ | refine Bel.drewN ?_ _ | refine Bel.drew ?_ | refine Bel.alloc ?_ _ | refine Bel.trans ?_ (by assumption) | refine Bel.setCell ?_ (by simp; omega) _))) b3); (try have i3 := IntSl.bel (IntSl.bel i3 (by repeat (first | exact Bel.refl _ | refine Bel.drewN ?_ _ | refine Bel.drew ?_ | refine Bel.alloc ?_ _ | refine Bel.trans ?_ (by assumption) | refine Bel.setCell ?_ (by simp; omega) _))) b3); clear b3; have hSl := hS.lt; have sc0 := hS.cell 0 _ rfl; have sc1 := hS.cell 1 _ rfl; have sc2 := hS.cell 2 _ rfl; have sc3 := hS.cell 3 _ rfl; have sc4 := hS.cell 4 _ rfl; have sc5 := hS.cell 5 _ rfl; have sc6 := hS.cell 6 _ rfl; have sc7 := hS.cell 7 _ rfl; have sc8 := hS.cell 8 _ rfl
        have hO := hOq
        clear hOq
        have i3 := o3.ints
        clear o3
        have hT := Box.new w3 25 [.string ⟨#[]⟩, .int .i64 0, .int .i64 0, .string ⟨#[]⟩, .int .i64 0, .string ⟨#[]⟩, .int .i64 0, .bool false, .bool false]
        go_wp2_with fail
        refine (long_to nm _ HA.out _).mono ?_
        rintro e w' ⟨rfl, rfl⟩
        go_wp2_with fail
        skip
        refine (long_to s _ HLS.out _).mono ?_
        rintro e w' ⟨rfl, rfl⟩
        go_wp2_with fail
        skip
        refine (checkFront_to lb en wy wt se rs sg fr st _ HQ.out _).mono ?_
        rintro e w4 ⟨rfl, b4⟩
        have hO := Box.bel (Box.bel hO (by repeat (first | exact Bel.refl _ | refine Bel.drewN ?_ _ | refine Bel.drew ?_ | refine Bel.alloc ?_ _ | refine Bel.trans ?_ (by assumption) | refine Bel.setCell ?_ (by simp; omega) _))) b4
        have hT := Box.bel hT b4
        have hb := Bel.trans (Bel.trans hb (by repeat (first | exact Bel.refl _ | refine Bel.drewN ?_ _ | refine Bel.drew ?_ | refine Bel.alloc ?_ _ | refine Bel.trans ?_ (by assumption) | refine Bel.setCell ?_ (by simp; omega) _))) b4
        have hS := Box.bel (Box.bel hS (by repeat (first | exact Bel.refl _ | refine Bel.drewN ?_ _ | refine Bel.drew ?_ | refine Bel.alloc ?_ _ | refine Bel.trans ?_ (by assumption) | refine Bel.setCell ?_ (by simp; omega) _))) b4
        have i3 := IntSl.bel (IntSl.bel i3 (by repeat (first | exact Bel.refl _ | refine Bel.drewN ?_ _ | refine Bel.drew ?_ | refine Bel.alloc ?_ _ | refine Bel.trans ?_ (by assumption) | refine Bel.setCell ?_ (by simp; omega) _))) b4
        clear b4
        have sc0 := hS.cell 0 _ rfl; have sc1 := hS.cell 1 _ rfl; have sc2 := hS.cell 2 _ rfl; have sc3 := hS.cell 3 _ rfl; have sc4 := hS.cell 4 _ rfl; have sc5 := hS.cell 5 _ rfl; have sc6 := hS.cell 6 _ rfl; have sc7 := hS.cell 7 _ rfl; have sc8 := hS.cell 8 _ rfl
        go_wp2_with fail
        skip
        refine (long_to s _ HLS.out _).mono ?_
        rintro e w' ⟨rfl, rfl⟩
        go_upto_if 62 with fail
        have hP : Bel w4 ((w4.alloc (.cells #[.string ⟨#[]⟩, .int .i64 0, .int .i64 0, .string ⟨#[]⟩, .int .i64 0, .string ⟨#[]⟩, .int .i64 0, .bool false, .bool false] 25)).alloc (.cells #[.string ⟨#[]⟩, .int .i64 0, .int .i64 0, .string ⟨#[]⟩, .int .i64 0, .string ⟨#[]⟩, .int .i64 0, .bool false, .bool false] 25)) := (by repeat (first | exact Bel.refl _ | refine Bel.drewN ?_ _ | refine Bel.drew ?_ | refine Bel.alloc ?_ _ | refine Bel.trans ?_ (by assumption) | refine Bel.setCell ?_ (by simp; omega) _))
        have hU := (Box.new w4 25 [.string ⟨#[]⟩, .int .i64 0, .int .i64 0, .string ⟨#[]⟩, .int .i64 0, .string ⟨#[]⟩, .int .i64 0, .bool false, .bool false]).bel ((Bel.refl _).alloc (.cells #[.string ⟨#[]⟩, .int .i64 0, .int .i64 0, .string ⟨#[]⟩, .int .i64 0, .string ⟨#[]⟩, .int .i64 0, .bool false, .bool false] 25))
        have hV : Box ((w4.alloc (.cells #[.string ⟨#[]⟩, .int .i64 0, .int .i64 0, .string ⟨#[]⟩, .int .i64 0, .string ⟨#[]⟩, .int .i64 0, .bool false, .bool false] 25)).alloc (.cells #[.string ⟨#[]⟩, .int .i64 0, .int .i64 0, .string ⟨#[]⟩, .int .i64 0, .string ⟨#[]⟩, .int .i64 0, .bool false, .bool false] 25)) (w4.heap.size + 1) 25 [.string ⟨#[]⟩, .int .i64 0, .int .i64 0, .string ⟨#[]⟩, .int .i64 0, .string ⟨#[]⟩, .int .i64 0, .bool false, .bool false] := by have := Box.new (w4.alloc (.cells #[.string ⟨#[]⟩, .int .i64 0, .int .i64 0, .string ⟨#[]⟩, .int .i64 0, .string ⟨#[]⟩, .int .i64 0, .bool false, .bool false] 25)) 25 [.string ⟨#[]⟩, .int .i64 0, .int .i64 0, .string ⟨#[]⟩, .int .i64 0, .string ⟨#[]⟩, .int .i64 0, .bool false, .bool false]; simpa using this
        have hso := hS.lt
        have hoo := hO.lt
        have hto := hT.lt
        generalize ((w4.alloc (.cells #[.string ⟨#[]⟩, .int .i64 0, .int .i64 0, .string ⟨#[]⟩, .int .i64 0, .string ⟨#[]⟩, .int .i64 0, .bool false, .bool false] 25)).alloc (.cells #[.string ⟨#[]⟩, .int .i64 0, .int .i64 0, .string ⟨#[]⟩, .int .i64 0, .string ⟨#[]⟩, .int .i64 0, .bool false, .bool false] 25)) = P at *
        have hup := hU.lt
        have hvp := hV.lt
        have sb := hS.bel hP
        have sc0 := sb.cell 0 _ rfl; have sc1 := sb.cell 1 _ rfl; have sc2 := sb.cell 2 _ rfl; have sc3 := sb.cell 3 _ rfl; have sc4 := sb.cell 4 _ rfl; have sc5 := sb.cell 5 _ rfl; have sc6 := sb.cell 6 _ rfl; have sc7 := sb.cell 7 _ rfl; have sc8 := sb.cell 8 _ rfl
        have uc0 := hU.cell 0 _ rfl; have uc1 := hU.cell 1 _ rfl; have uc2 := hU.cell 2 _ rfl; have uc3 := hU.cell 3 _ rfl; have uc4 := hU.cell 4 _ rfl; have uc5 := hU.cell 5 _ rfl; have uc6 := hU.cell 6 _ rfl; have uc7 := hU.cell 7 _ rfl; have uc8 := hU.cell 8 _ rfl; have uf0 := hU.frozen 0; have uf1 := hU.frozen 1; have uf2 := hU.frozen 2; have uf3 := hU.frozen 3; have uf4 := hU.frozen 4; have uf5 := hU.frozen 5; have uf6 := hU.frozen 6; have uf7 := hU.frozen 7; have uf8 := hU.frozen 8
        have vc0 := hV.cell 0 _ rfl; have vc1 := hV.cell 1 _ rfl; have vc2 := hV.cell 2 _ rfl; have vc3 := hV.cell 3 _ rfl; have vc4 := hV.cell 4 _ rfl; have vc5 := hV.cell 5 _ rfl; have vc6 := hV.cell 6 _ rfl; have vc7 := hV.cell 7 _ rfl; have vc8 := hV.cell 8 _ rfl; have vf0 := hV.frozen 0; have vf1 := hV.frozen 1; have vf2 := hV.frozen 2; have vf3 := hV.frozen 3; have vf4 := hV.frozen 4; have vf5 := hV.frozen 5; have vf6 := hV.frozen 6; have vf7 := hV.frozen 7; have vf8 := hV.frozen 8
        go_upto_region 20 with fail
        have hU : Box (((((((((P.setCell ⟨w4.heap.size, 0, none⟩ (.string nm)).setCell ⟨w4.heap.size, 1, none⟩ (.int .i64 0)).setCell ⟨w4.heap.size, 2, none⟩ (.int .i64 0)).setCell ⟨w4.heap.size, 3, none⟩ (.string ⟨#[]⟩)).setCell ⟨w4.heap.size, 4, none⟩ (.int .i64 0)).setCell ⟨w4.heap.size, 5, none⟩ (.string ⟨#[]⟩)).setCell ⟨w4.heap.size, 6, none⟩ (.int .i64 0)).setCell ⟨w4.heap.size, 7, none⟩ (.bool false)).setCell ⟨w4.heap.size, 8, none⟩ (.bool false)) w4.heap.size 25 [.string nm, .int .i64 0, .int .i64 0, .string ⟨#[]⟩, .int .i64 0, .string ⟨#[]⟩, .int .i64 0, .bool false, .bool false] := (((((((((hU.set 0 (.string nm)).set 1 (.int .i64 0)).set 2 (.int .i64 0)).set 3 (.string ⟨#[]⟩)).set 4 (.int .i64 0)).set 5 (.string ⟨#[]⟩)).set 6 (.int .i64 0)).set 7 (.bool false)).set 8 (.bool false))
        have hV : Box (((((((((P.setCell ⟨w4.heap.size, 0, none⟩ (.string nm)).setCell ⟨w4.heap.size, 1, none⟩ (.int .i64 0)).setCell ⟨w4.heap.size, 2, none⟩ (.int .i64 0)).setCell ⟨w4.heap.size, 3, none⟩ (.string ⟨#[]⟩)).setCell ⟨w4.heap.size, 4, none⟩ (.int .i64 0)).setCell ⟨w4.heap.size, 5, none⟩ (.string ⟨#[]⟩)).setCell ⟨w4.heap.size, 6, none⟩ (.int .i64 0)).setCell ⟨w4.heap.size, 7, none⟩ (.bool false)).setCell ⟨w4.heap.size, 8, none⟩ (.bool false)) (w4.heap.size + 1) 25 [.string ⟨#[]⟩, .int .i64 0, .int .i64 0, .string ⟨#[]⟩, .int .i64 0, .string ⟨#[]⟩, .int .i64 0, .bool false, .bool false] := (((((((((hV.far (p := ⟨w4.heap.size, 0, none⟩) (by simp) (.string nm)).far (p := ⟨w4.heap.size, 1, none⟩) (by simp) (.int .i64 0)).far (p := ⟨w4.heap.size, 2, none⟩) (by simp) (.int .i64 0)).far (p := ⟨w4.heap.size, 3, none⟩) (by simp) (.string ⟨#[]⟩)).far (p := ⟨w4.heap.size, 4, none⟩) (by simp) (.int .i64 0)).far (p := ⟨w4.heap.size, 5, none⟩) (by simp) (.string ⟨#[]⟩)).far (p := ⟨w4.heap.size, 6, none⟩) (by simp) (.int .i64 0)).far (p := ⟨w4.heap.size, 7, none⟩) (by simp) (.bool false)).far (p := ⟨w4.heap.size, 8, none⟩) (by simp) (.bool false))
        have hP := (((((((((hP.setCell (p := ⟨w4.heap.size, 0, none⟩) (Nat.le_refl _) (.string nm)).setCell (p := ⟨w4.heap.size, 1, none⟩) (Nat.le_refl _) (.int .i64 0)).setCell (p := ⟨w4.heap.size, 2, none⟩) (Nat.le_refl _) (.int .i64 0)).setCell (p := ⟨w4.heap.size, 3, none⟩) (Nat.le_refl _) (.string ⟨#[]⟩)).setCell (p := ⟨w4.heap.size, 4, none⟩) (Nat.le_refl _) (.int .i64 0)).setCell (p := ⟨w4.heap.size, 5, none⟩) (Nat.le_refl _) (.string ⟨#[]⟩)).setCell (p := ⟨w4.heap.size, 6, none⟩) (Nat.le_refl _) (.int .i64 0)).setCell (p := ⟨w4.heap.size, 7, none⟩) (Nat.le_refl _) (.bool false)).setCell (p := ⟨w4.heap.size, 8, none⟩) (Nat.le_refl _) (.bool false))
        have i3 := IntSl.bel i3 hP
        have hS := hS.bel hP
        have hO := hO.bel hP
        have hT := hT.bel hP
        have hb := hb.trans hP
        have su0 := Box.up hS 0 _ rfl; have su1 := Box.up hS 1 _ rfl; have su2 := Box.up hS 2 _ rfl; have su3 := Box.up hS 3 _ rfl; have su4 := Box.up hS 4 _ rfl; have su5 := Box.up hS 5 _ rfl; have su6 := Box.up hS 6 _ rfl; have su7 := Box.up hS 7 _ rfl; have su8 := Box.up hS 8 _ rfl
        have ou0 := Box.up hO 0 _ rfl; have ou1 := Box.up hO 1 _ rfl; have ou2 := Box.up hO 2 _ rfl; have ou3 := Box.up hO 3 _ rfl; have ou4 := Box.up hO 4 _ rfl; have ou5 := Box.up hO 5 _ rfl; have ou6 := Box.up hO 6 _ rfl; have ou7 := Box.up hO 7 _ rfl; have ou8 := Box.up hO 8 _ rfl
        have tu0 := Box.up hT 0 _ rfl; have tu1 := Box.up hT 1 _ rfl; have tu2 := Box.up hT 2 _ rfl; have tu3 := Box.up hT 3 _ rfl; have tu4 := Box.up hT 4 _ rfl; have tu5 := Box.up hT 5 _ rfl; have tu6 := Box.up hT 6 _ rfl; have tu7 := Box.up hT 7 _ rfl; have tu8 := Box.up hT 8 _ rfl
        have uu0 := Box.up hU 0 _ rfl; have uu1 := Box.up hU 1 _ rfl; have uu2 := Box.up hU 2 _ rfl; have uu3 := Box.up hU 3 _ rfl; have uu4 := Box.up hU 4 _ rfl; have uu5 := Box.up hU 5 _ rfl; have uu6 := Box.up hU 6 _ rfl; have uu7 := Box.up hU 7 _ rfl; have uu8 := Box.up hU 8 _ rfl
        have vu0 := Box.up hV 0 _ rfl; have vu1 := Box.up hV 1 _ rfl; have vu2 := Box.up hV 2 _ rfl; have vu3 := Box.up hV 3 _ rfl; have vu4 := Box.up hV 4 _ rfl; have vu5 := Box.up hV 5 _ rfl; have vu6 := Box.up hV 6 _ rfl; have vu7 := Box.up hV 7 _ rfl; have vu8 := Box.up hV 8 _ rfl
        clear hP
        refine region_up (by kernel_rfl) (by kernel_rfl) ?_
        repeat (go_big_quiet_step ((first
          | (go_at_call 12; exact up_call _ (frontBegun_any _ (hL.bel (hb.trans (Up.b _)))))
          | (go_at_call 13; exact up_call _ (checkFr_to lb en wy wt se rs sg fr st _ HQ.out _))
          | (go_at_call 9; exact up_call _ (checkFront_to lb en wy wt se rs sg fr st _ HQ.out _))
          | (go_at_call 14; exact up_call _ (intsAre_yes (.slice A3 _ c3) _ [] [] 2 _ (i3.bel (Up.b _)) (IntSl.nil_ _) rfl)))))
        refine wpQuiet_nil ?_
        intro _ hw'
        obtain ⟨uu, rfl⟩ := hw'
        have b9 := uu.b
        generalize uu.v = wu at *
        go_wp2_with fail
        go_ret
        exact ⟨rfl, hb.trans b9⟩
      · skip
        have hf2 : (ys, (⟨l2, en2, wy2, wt2, ⟨se2, rs2, sg2, fr2, st2⟩⟩ : M.Ft), g) = ([], ⟨[], 0, 0, [], ⟨0, [], 0, false, false⟩⟩, q) := by rw [← hf, M.feedFE, hq, if_neg hq0]; rfl
        simp only [Prod.mk.injEq, M.Ft.mk.injEq, M.St.mk.injEq] at hf2
        obtain ⟨rfl, ⟨rfl, rfl, rfl, rfl, ⟨rfl, rfl, rfl, rfl, rfl⟩⟩, rfl⟩ := hf2
        have e1 : (g == 0) = false := by simpa using hq0
        have e2 : (g != 0) = true := by simpa using hq0
        clear hf hq hq0 ha hls hsl
        go_enter Tryz.func3, Tryz.ntmps3
        have hS := Box.new w 25 [.string lb, .int .i64 en, .int .i64 wy, .string wt, .int .i64 se, .string rs, .int .i64 sg, .bool fr, .bool st]
        have hb := Bel.refl w
        go_wp2_with fail
        refine (choose_to nm s _ _ _ _ HC.out _ (hL.bel ((Bel.refl w).alloc _))).mono ?_
        rintro e w1 ⟨rfl, b1⟩
        have hb := Bel.trans (Bel.trans hb (by repeat (first | exact Bel.refl _ | refine Bel.drewN ?_ _ | refine Bel.drew ?_ | refine Bel.alloc ?_ _ | refine Bel.trans ?_ (by assumption) | refine Bel.setCell ?_ (by simp; omega) _))) b1; have hS := Box.bel (Box.bel hS (by repeat (first | exact Bel.refl _ | refine Bel.drewN ?_ _ | refine Bel.drew ?_ | refine Bel.alloc ?_ _ | refine Bel.trans ?_ (by assumption) | refine Bel.setCell ?_ (by simp; omega) _))) b1; (try have hO := Box.bel (Box.bel hO (by repeat (first | exact Bel.refl _ | refine Bel.drewN ?_ _ | refine Bel.drew ?_ | refine Bel.alloc ?_ _ | refine Bel.trans ?_ (by assumption) | refine Bel.setCell ?_ (by simp; omega) _))) b1); (try have hT := Box.bel (Box.bel hT (by repeat (first | exact Bel.refl _ | refine Bel.drewN ?_ _ | refine Bel.drew ?_ | refine Bel.alloc ?_ _ | refine Bel.trans ?_ (by assumption) | refine Bel.setCell ?_ (by simp; omega) _))) b1); (try have i3 := IntSl.bel (IntSl.bel i3 (by repeat (first | exact Bel.refl _ | refine Bel.drewN ?_ _ | refine Bel.drew ?_ | refine Bel.alloc ?_ _ | refine Bel.trans ?_ (by assumption) | refine Bel.setCell ?_ (by simp; omega) _))) b1); clear b1; have hSl := hS.lt; have sc0 := hS.cell 0 _ rfl; have sc1 := hS.cell 1 _ rfl; have sc2 := hS.cell 2 _ rfl; have sc3 := hS.cell 3 _ rfl; have sc4 := hS.cell 4 _ rfl; have sc5 := hS.cell 5 _ rfl; have sc6 := hS.cell 6 _ rfl; have sc7 := hS.cell 7 _ rfl; have sc8 := hS.cell 8 _ rfl
        go_wp2_with fail
        refine (begin_yes nm HB.out _).mono ?_
        rintro e w2 ⟨rfl, b2⟩
        have hb := Bel.trans (Bel.trans hb (by repeat (first | exact Bel.refl _ | refine Bel.drewN ?_ _ | refine Bel.drew ?_ | refine Bel.alloc ?_ _ | refine Bel.trans ?_ (by assumption) | refine Bel.setCell ?_ (by simp; omega) _))) b2; have hS := Box.bel (Box.bel hS (by repeat (first | exact Bel.refl _ | refine Bel.drewN ?_ _ | refine Bel.drew ?_ | refine Bel.alloc ?_ _ | refine Bel.trans ?_ (by assumption) | refine Bel.setCell ?_ (by simp; omega) _))) b2; (try have hO := Box.bel (Box.bel hO (by repeat (first | exact Bel.refl _ | refine Bel.drewN ?_ _ | refine Bel.drew ?_ | refine Bel.alloc ?_ _ | refine Bel.trans ?_ (by assumption) | refine Bel.setCell ?_ (by simp; omega) _))) b2); (try have hT := Box.bel (Box.bel hT (by repeat (first | exact Bel.refl _ | refine Bel.drewN ?_ _ | refine Bel.drew ?_ | refine Bel.alloc ?_ _ | refine Bel.trans ?_ (by assumption) | refine Bel.setCell ?_ (by simp; omega) _))) b2); (try have i3 := IntSl.bel (IntSl.bel i3 (by repeat (first | exact Bel.refl _ | refine Bel.drewN ?_ _ | refine Bel.drew ?_ | refine Bel.alloc ?_ _ | refine Bel.trans ?_ (by assumption) | refine Bel.setCell ?_ (by simp; omega) _))) b2); clear b2; have hSl := hS.lt; have sc0 := hS.cell 0 _ rfl; have sc1 := hS.cell 1 _ rfl; have sc2 := hS.cell 2 _ rfl; have sc3 := hS.cell 3 _ rfl; have sc4 := hS.cell 4 _ rfl; have sc5 := hS.cell 5 _ rfl; have sc6 := hS.cell 6 _ rfl; have sc7 := hS.cell 7 _ rfl; have sc8 := hS.cell 8 _ rfl
        have hO := Box.new w2 25 [.string nm, .int .i64 0, .int .i64 0, .string ⟨#[]⟩, .int .i64 0, .string ⟨#[]⟩, .int .i64 0, .bool false, .bool false]
        go_wp2_with fail
        refine (feedF_sl lb en wy wt se rs sg fr st s last _ _ _ _ _ _ _ _ _ _ _ HF.out _ (hL.bel (hb.alloc _))).mono ?_
        rintro e w3 ⟨A3, c3, rfl, o3, b3⟩
        have hO := Box.bel hO b3
        have hOq := hO
        clear hO
        have hb := Bel.trans (Bel.trans hb (by repeat (first | exact Bel.refl _ | refine Bel.drewN ?_ _ | refine Bel.drew ?_ | refine Bel.alloc ?_ _ | refine Bel.trans ?_ (by assumption) | refine Bel.setCell ?_ (by simp; omega) _))) b3; have hS := Box.bel (Box.bel hS (by repeat (first | exact Bel.refl _ | refine Bel.drewN ?_ _ | refine Bel.drew ?_ | refine Bel.alloc ?_ _ | refine Bel.trans ?_ (by assumption) | refine Bel.setCell ?_ (by simp; omega) _))) b3; (try have hO := Box.bel (Box.bel hO (by repeat (first | exact Bel.refl _ | refine Bel.drewN ?_ _ | refine Bel.drew ?_ | refine Bel.alloc ?_ _ | refine Bel.trans ?_ (by assumption) | refine Bel.setCell ?_ (by simp; omega) _))) b3); (try have hT := Box.bel (Box.bel hT (by repeat (first | exact Bel.refl _ | refine Bel.drewN ?_ _ | refine Bel.drew ?_ | refine Bel.alloc ?_ _ | refine Bel.trans ?_ (by assumption) | refine Bel.setCell ?_ (by simp; omega) _))) b3); (try have i3 := IntSl.bel (IntSl.bel i3 (by repeat (first | exact Bel.refl _ | refine Bel.drewN ?_ _ | refine Bel.drew ?_ | refine Bel.alloc ?_ _ | refine Bel.trans ?_ (by assumption) | refine Bel.setCell ?_ (by simp; omega) _))) b3); clear b3; have hSl := hS.lt; have sc0 := hS.cell 0 _ rfl; have sc1 := hS.cell 1 _ rfl; have sc2 := hS.cell 2 _ rfl; have sc3 := hS.cell 3 _ rfl; have sc4 := hS.cell 4 _ rfl; have sc5 := hS.cell 5 _ rfl; have sc6 := hS.cell 6 _ rfl; have sc7 := hS.cell 7 _ rfl; have sc8 := hS.cell 8 _ rfl
        have hO := hOq
        clear hOq
        have i3 := o3.ints
        clear o3
        have hT := Box.new w3 25 [.string ⟨#[]⟩, .int .i64 0, .int .i64 0, .string ⟨#[]⟩, .int .i64 0, .string ⟨#[]⟩, .int .i64 0, .bool false, .bool false]
        go_wp2_with fail
        refine (long_to nm _ HA.out _).mono ?_
        rintro e w' ⟨rfl, rfl⟩
        go_wp2_with fail
        skip
        refine (long_to s _ HLS.out _).mono ?_
        rintro e w' ⟨rfl, rfl⟩
        go_wp2_with fail
        skip
        refine (checkFront_to lb en wy wt se rs sg fr st _ HQ.out _).mono ?_
        rintro e w4 ⟨rfl, b4⟩
        have hO := Box.bel (Box.bel hO (by repeat (first | exact Bel.refl _ | refine Bel.drewN ?_ _ | refine Bel.drew ?_ | refine Bel.alloc ?_ _ | refine Bel.trans ?_ (by assumption) | refine Bel.setCell ?_ (by simp; omega) _))) b4
        have hT := Box.bel hT b4
        have hb := Bel.trans (Bel.trans hb (by repeat (first | exact Bel.refl _ | refine Bel.drewN ?_ _ | refine Bel.drew ?_ | refine Bel.alloc ?_ _ | refine Bel.trans ?_ (by assumption) | refine Bel.setCell ?_ (by simp; omega) _))) b4
        have hS := Box.bel (Box.bel hS (by repeat (first | exact Bel.refl _ | refine Bel.drewN ?_ _ | refine Bel.drew ?_ | refine Bel.alloc ?_ _ | refine Bel.trans ?_ (by assumption) | refine Bel.setCell ?_ (by simp; omega) _))) b4
        have i3 := IntSl.bel (IntSl.bel i3 (by repeat (first | exact Bel.refl _ | refine Bel.drewN ?_ _ | refine Bel.drew ?_ | refine Bel.alloc ?_ _ | refine Bel.trans ?_ (by assumption) | refine Bel.setCell ?_ (by simp; omega) _))) b4
        clear b4
        have sc0 := hS.cell 0 _ rfl; have sc1 := hS.cell 1 _ rfl; have sc2 := hS.cell 2 _ rfl; have sc3 := hS.cell 3 _ rfl; have sc4 := hS.cell 4 _ rfl; have sc5 := hS.cell 5 _ rfl; have sc6 := hS.cell 6 _ rfl; have sc7 := hS.cell 7 _ rfl; have sc8 := hS.cell 8 _ rfl
        go_upto_if 62 with fail
        have hP : Bel w4 ((w4.alloc (.cells #[.string ⟨#[]⟩, .int .i64 0, .int .i64 0, .string ⟨#[]⟩, .int .i64 0, .string ⟨#[]⟩, .int .i64 0, .bool false, .bool false] 25)).alloc (.cells #[.string ⟨#[]⟩, .int .i64 0, .int .i64 0, .string ⟨#[]⟩, .int .i64 0, .string ⟨#[]⟩, .int .i64 0, .bool false, .bool false] 25)) := (by repeat (first | exact Bel.refl _ | refine Bel.drewN ?_ _ | refine Bel.drew ?_ | refine Bel.alloc ?_ _ | refine Bel.trans ?_ (by assumption) | refine Bel.setCell ?_ (by simp; omega) _))
        have hU := (Box.new w4 25 [.string ⟨#[]⟩, .int .i64 0, .int .i64 0, .string ⟨#[]⟩, .int .i64 0, .string ⟨#[]⟩, .int .i64 0, .bool false, .bool false]).bel ((Bel.refl _).alloc (.cells #[.string ⟨#[]⟩, .int .i64 0, .int .i64 0, .string ⟨#[]⟩, .int .i64 0, .string ⟨#[]⟩, .int .i64 0, .bool false, .bool false] 25))
        have hV : Box ((w4.alloc (.cells #[.string ⟨#[]⟩, .int .i64 0, .int .i64 0, .string ⟨#[]⟩, .int .i64 0, .string ⟨#[]⟩, .int .i64 0, .bool false, .bool false] 25)).alloc (.cells #[.string ⟨#[]⟩, .int .i64 0, .int .i64 0, .string ⟨#[]⟩, .int .i64 0, .string ⟨#[]⟩, .int .i64 0, .bool false, .bool false] 25)) (w4.heap.size + 1) 25 [.string ⟨#[]⟩, .int .i64 0, .int .i64 0, .string ⟨#[]⟩, .int .i64 0, .string ⟨#[]⟩, .int .i64 0, .bool false, .bool false] := by have := Box.new (w4.alloc (.cells #[.string ⟨#[]⟩, .int .i64 0, .int .i64 0, .string ⟨#[]⟩, .int .i64 0, .string ⟨#[]⟩, .int .i64 0, .bool false, .bool false] 25)) 25 [.string ⟨#[]⟩, .int .i64 0, .int .i64 0, .string ⟨#[]⟩, .int .i64 0, .string ⟨#[]⟩, .int .i64 0, .bool false, .bool false]; simpa using this
        have hso := hS.lt
        have hoo := hO.lt
        have hto := hT.lt
        generalize ((w4.alloc (.cells #[.string ⟨#[]⟩, .int .i64 0, .int .i64 0, .string ⟨#[]⟩, .int .i64 0, .string ⟨#[]⟩, .int .i64 0, .bool false, .bool false] 25)).alloc (.cells #[.string ⟨#[]⟩, .int .i64 0, .int .i64 0, .string ⟨#[]⟩, .int .i64 0, .string ⟨#[]⟩, .int .i64 0, .bool false, .bool false] 25)) = P at *
        have hup := hU.lt
        have hvp := hV.lt
        have sb := hS.bel hP
        have sc0 := sb.cell 0 _ rfl; have sc1 := sb.cell 1 _ rfl; have sc2 := sb.cell 2 _ rfl; have sc3 := sb.cell 3 _ rfl; have sc4 := sb.cell 4 _ rfl; have sc5 := sb.cell 5 _ rfl; have sc6 := sb.cell 6 _ rfl; have sc7 := sb.cell 7 _ rfl; have sc8 := sb.cell 8 _ rfl
        have uc0 := hU.cell 0 _ rfl; have uc1 := hU.cell 1 _ rfl; have uc2 := hU.cell 2 _ rfl; have uc3 := hU.cell 3 _ rfl; have uc4 := hU.cell 4 _ rfl; have uc5 := hU.cell 5 _ rfl; have uc6 := hU.cell 6 _ rfl; have uc7 := hU.cell 7 _ rfl; have uc8 := hU.cell 8 _ rfl; have uf0 := hU.frozen 0; have uf1 := hU.frozen 1; have uf2 := hU.frozen 2; have uf3 := hU.frozen 3; have uf4 := hU.frozen 4; have uf5 := hU.frozen 5; have uf6 := hU.frozen 6; have uf7 := hU.frozen 7; have uf8 := hU.frozen 8
        have vc0 := hV.cell 0 _ rfl; have vc1 := hV.cell 1 _ rfl; have vc2 := hV.cell 2 _ rfl; have vc3 := hV.cell 3 _ rfl; have vc4 := hV.cell 4 _ rfl; have vc5 := hV.cell 5 _ rfl; have vc6 := hV.cell 6 _ rfl; have vc7 := hV.cell 7 _ rfl; have vc8 := hV.cell 8 _ rfl; have vf0 := hV.frozen 0; have vf1 := hV.frozen 1; have vf2 := hV.frozen 2; have vf3 := hV.frozen 3; have vf4 := hV.frozen 4; have vf5 := hV.frozen 5; have vf6 := hV.frozen 6; have vf7 := hV.frozen 7; have vf8 := hV.frozen 8
        go_upto_region 20 with fail
        have hU : Box (((((((((P.setCell ⟨w4.heap.size, 0, none⟩ (.string nm)).setCell ⟨w4.heap.size, 1, none⟩ (.int .i64 0)).setCell ⟨w4.heap.size, 2, none⟩ (.int .i64 0)).setCell ⟨w4.heap.size, 3, none⟩ (.string ⟨#[]⟩)).setCell ⟨w4.heap.size, 4, none⟩ (.int .i64 0)).setCell ⟨w4.heap.size, 5, none⟩ (.string ⟨#[]⟩)).setCell ⟨w4.heap.size, 6, none⟩ (.int .i64 0)).setCell ⟨w4.heap.size, 7, none⟩ (.bool false)).setCell ⟨w4.heap.size, 8, none⟩ (.bool false)) w4.heap.size 25 [.string nm, .int .i64 0, .int .i64 0, .string ⟨#[]⟩, .int .i64 0, .string ⟨#[]⟩, .int .i64 0, .bool false, .bool false] := (((((((((hU.set 0 (.string nm)).set 1 (.int .i64 0)).set 2 (.int .i64 0)).set 3 (.string ⟨#[]⟩)).set 4 (.int .i64 0)).set 5 (.string ⟨#[]⟩)).set 6 (.int .i64 0)).set 7 (.bool false)).set 8 (.bool false))
        have hV : Box (((((((((P.setCell ⟨w4.heap.size, 0, none⟩ (.string nm)).setCell ⟨w4.heap.size, 1, none⟩ (.int .i64 0)).setCell ⟨w4.heap.size, 2, none⟩ (.int .i64 0)).setCell ⟨w4.heap.size, 3, none⟩ (.string ⟨#[]⟩)).setCell ⟨w4.heap.size, 4, none⟩ (.int .i64 0)).setCell ⟨w4.heap.size, 5, none⟩ (.string ⟨#[]⟩)).setCell ⟨w4.heap.size, 6, none⟩ (.int .i64 0)).setCell ⟨w4.heap.size, 7, none⟩ (.bool false)).setCell ⟨w4.heap.size, 8, none⟩ (.bool false)) (w4.heap.size + 1) 25 [.string ⟨#[]⟩, .int .i64 0, .int .i64 0, .string ⟨#[]⟩, .int .i64 0, .string ⟨#[]⟩, .int .i64 0, .bool false, .bool false] := (((((((((hV.far (p := ⟨w4.heap.size, 0, none⟩) (by simp) (.string nm)).far (p := ⟨w4.heap.size, 1, none⟩) (by simp) (.int .i64 0)).far (p := ⟨w4.heap.size, 2, none⟩) (by simp) (.int .i64 0)).far (p := ⟨w4.heap.size, 3, none⟩) (by simp) (.string ⟨#[]⟩)).far (p := ⟨w4.heap.size, 4, none⟩) (by simp) (.int .i64 0)).far (p := ⟨w4.heap.size, 5, none⟩) (by simp) (.string ⟨#[]⟩)).far (p := ⟨w4.heap.size, 6, none⟩) (by simp) (.int .i64 0)).far (p := ⟨w4.heap.size, 7, none⟩) (by simp) (.bool false)).far (p := ⟨w4.heap.size, 8, none⟩) (by simp) (.bool false))
        have hP := (((((((((hP.setCell (p := ⟨w4.heap.size, 0, none⟩) (Nat.le_refl _) (.string nm)).setCell (p := ⟨w4.heap.size, 1, none⟩) (Nat.le_refl _) (.int .i64 0)).setCell (p := ⟨w4.heap.size, 2, none⟩) (Nat.le_refl _) (.int .i64 0)).setCell (p := ⟨w4.heap.size, 3, none⟩) (Nat.le_refl _) (.string ⟨#[]⟩)).setCell (p := ⟨w4.heap.size, 4, none⟩) (Nat.le_refl _) (.int .i64 0)).setCell (p := ⟨w4.heap.size, 5, none⟩) (Nat.le_refl _) (.string ⟨#[]⟩)).setCell (p := ⟨w4.heap.size, 6, none⟩) (Nat.le_refl _) (.int .i64 0)).setCell (p := ⟨w4.heap.size, 7, none⟩) (Nat.le_refl _) (.bool false)).setCell (p := ⟨w4.heap.size, 8, none⟩) (Nat.le_refl _) (.bool false))
        have i3 := IntSl.bel i3 hP
        have hS := hS.bel hP
        have hO := hO.bel hP
        have hT := hT.bel hP
        have hb := hb.trans hP
        have su0 := Box.up hS 0 _ rfl; have su1 := Box.up hS 1 _ rfl; have su2 := Box.up hS 2 _ rfl; have su3 := Box.up hS 3 _ rfl; have su4 := Box.up hS 4 _ rfl; have su5 := Box.up hS 5 _ rfl; have su6 := Box.up hS 6 _ rfl; have su7 := Box.up hS 7 _ rfl; have su8 := Box.up hS 8 _ rfl
        have ou0 := Box.up hO 0 _ rfl; have ou1 := Box.up hO 1 _ rfl; have ou2 := Box.up hO 2 _ rfl; have ou3 := Box.up hO 3 _ rfl; have ou4 := Box.up hO 4 _ rfl; have ou5 := Box.up hO 5 _ rfl; have ou6 := Box.up hO 6 _ rfl; have ou7 := Box.up hO 7 _ rfl; have ou8 := Box.up hO 8 _ rfl
        have tu0 := Box.up hT 0 _ rfl; have tu1 := Box.up hT 1 _ rfl; have tu2 := Box.up hT 2 _ rfl; have tu3 := Box.up hT 3 _ rfl; have tu4 := Box.up hT 4 _ rfl; have tu5 := Box.up hT 5 _ rfl; have tu6 := Box.up hT 6 _ rfl; have tu7 := Box.up hT 7 _ rfl; have tu8 := Box.up hT 8 _ rfl
        have uu0 := Box.up hU 0 _ rfl; have uu1 := Box.up hU 1 _ rfl; have uu2 := Box.up hU 2 _ rfl; have uu3 := Box.up hU 3 _ rfl; have uu4 := Box.up hU 4 _ rfl; have uu5 := Box.up hU 5 _ rfl; have uu6 := Box.up hU 6 _ rfl; have uu7 := Box.up hU 7 _ rfl; have uu8 := Box.up hU 8 _ rfl
        have vu0 := Box.up hV 0 _ rfl; have vu1 := Box.up hV 1 _ rfl; have vu2 := Box.up hV 2 _ rfl; have vu3 := Box.up hV 3 _ rfl; have vu4 := Box.up hV 4 _ rfl; have vu5 := Box.up hV 5 _ rfl; have vu6 := Box.up hV 6 _ rfl; have vu7 := Box.up hV 7 _ rfl; have vu8 := Box.up hV 8 _ rfl
        clear hP
        refine region_up (by kernel_rfl) (by kernel_rfl) ?_
        repeat (go_big_quiet_step ((first
          | (go_at_call 12; exact up_call _ (frontBegun_any _ (hL.bel (hb.trans (Up.b _)))))
          | (go_at_call 13; exact up_call _ (checkFr_to lb en wy wt se rs sg fr st _ HQ.out _))
          | (go_at_call 9; exact up_call _ (checkFront_to lb en wy wt se rs sg fr st _ HQ.out _))
          | (go_at_call 14; exact up_call _ (intsAre_yes (.slice A3 _ c3) _ [] [] g _ (i3.bel (Up.b _)) (IntSl.nil_ _) (by split <;> rfl))))))
        refine wpQuiet_nil ?_
        intro _ hw'
        obtain ⟨uu, rfl⟩ := hw'
        have b9 := uu.b
        generalize uu.v = wu at *
        go_wp2_with fail
        go_ret
        exact ⟨rfl, hb.trans b9⟩
    · have HLS := Lib.hid hls
      have hs3 : s.size ≤ 3000 := hsl
      obtain ⟨n, y, k, hch⟩ : ∃ n y k, M.chosen nm.data.toList s.data.toList = (n, y, k) := ⟨_, _, _, rfl⟩
      have HC := Lib.hid (show M.chooseE nm.data.toList s.data.toList = (n, y, k, 0) by rw [M.chooseE, ← Lib.size_eq, ← Lib.size_eq, if_neg (by omega), hch])
      have HDO := Lib.hid (fun W => chooseOf_to nm s n y k hch (by omega) (by omega) W)
      by_cases hq0 : q = 0
      · subst hq0
        have hf2 : (ys, (⟨l2, en2, wy2, wt2, ⟨se2, rs2, sg2, fr2, st2⟩⟩ : M.Ft), g) = ((M.feedF ⟨lb.data.toList, en, wy, wt.data.toList, ⟨se, rs.data.toList, sg, fr, st⟩⟩ s.data.toList last).1, (M.feedF ⟨lb.data.toList, en, wy, wt.data.toList, ⟨se, rs.data.toList, sg, fr, st⟩⟩ s.data.toList last).2, 0) := by rw [← hf, M.feedFE, if_pos hq, if_neg (by rw [← Lib.size_eq]; omega)]
        have HRF := Lib.hid (show M.feedF ⟨lb.data.toList, en, wy, wt.data.toList, ⟨se, rs.data.toList, sg, fr, st⟩⟩ s.data.toList last = (ys, ⟨l2, en2, wy2, wt2, ⟨se2, rs2, sg2, fr2, st2⟩⟩) by
          simp only [Prod.mk.injEq] at hf2
          exact Prod.ext hf2.1.symm hf2.2.1.symm)
        obtain rfl : g = 0 := by simp only [Prod.mk.injEq] at hf2; exact hf2.2.2
        clear hf2
        clear hf hq hls ha hch
        go_enter Tryz.func3, Tryz.ntmps3
        have hS := Box.new w 25 [.string lb, .int .i64 en, .int .i64 wy, .string wt, .int .i64 se, .string rs, .int .i64 sg, .bool fr, .bool st]
        have hb := Bel.refl w
        go_wp2_with fail
        refine (choose_to nm s _ _ _ _ HC.out _ (hL.bel ((Bel.refl w).alloc _))).mono ?_
        rintro e w1 ⟨rfl, b1⟩
        have hb := Bel.trans (Bel.trans hb (by repeat (first | exact Bel.refl _ | refine Bel.drewN ?_ _ | refine Bel.drew ?_ | refine Bel.alloc ?_ _ | refine Bel.trans ?_ (by assumption) | refine Bel.setCell ?_ (by simp; omega) _))) b1; have hS := Box.bel (Box.bel hS (by repeat (first | exact Bel.refl _ | refine Bel.drewN ?_ _ | refine Bel.drew ?_ | refine Bel.alloc ?_ _ | refine Bel.trans ?_ (by assumption) | refine Bel.setCell ?_ (by simp; omega) _))) b1; (try have hO := Box.bel (Box.bel hO (by repeat (first | exact Bel.refl _ | refine Bel.drewN ?_ _ | refine Bel.drew ?_ | refine Bel.alloc ?_ _ | refine Bel.trans ?_ (by assumption) | refine Bel.setCell ?_ (by simp; omega) _))) b1); (try have hT := Box.bel (Box.bel hT (by repeat (first | exact Bel.refl _ | refine Bel.drewN ?_ _ | refine Bel.drew ?_ | refine Bel.alloc ?_ _ | refine Bel.trans ?_ (by assumption) | refine Bel.setCell ?_ (by simp; omega) _))) b1); (try have i3 := IntSl.bel (IntSl.bel i3 (by repeat (first | exact Bel.refl _ | refine Bel.drewN ?_ _ | refine Bel.drew ?_ | refine Bel.alloc ?_ _ | refine Bel.trans ?_ (by assumption) | refine Bel.setCell ?_ (by simp; omega) _))) b1); clear b1; have hSl := hS.lt; have sc0 := hS.cell 0 _ rfl; have sc1 := hS.cell 1 _ rfl; have sc2 := hS.cell 2 _ rfl; have sc3 := hS.cell 3 _ rfl; have sc4 := hS.cell 4 _ rfl; have sc5 := hS.cell 5 _ rfl; have sc6 := hS.cell 6 _ rfl; have sc7 := hS.cell 7 _ rfl; have sc8 := hS.cell 8 _ rfl
        go_wp2_with fail
        refine (begin_yes nm HB.out _).mono ?_
        rintro e w2 ⟨rfl, b2⟩
        have hb := Bel.trans (Bel.trans hb (by repeat (first | exact Bel.refl _ | refine Bel.drewN ?_ _ | refine Bel.drew ?_ | refine Bel.alloc ?_ _ | refine Bel.trans ?_ (by assumption) | refine Bel.setCell ?_ (by simp; omega) _))) b2; have hS := Box.bel (Box.bel hS (by repeat (first | exact Bel.refl _ | refine Bel.drewN ?_ _ | refine Bel.drew ?_ | refine Bel.alloc ?_ _ | refine Bel.trans ?_ (by assumption) | refine Bel.setCell ?_ (by simp; omega) _))) b2; (try have hO := Box.bel (Box.bel hO (by repeat (first | exact Bel.refl _ | refine Bel.drewN ?_ _ | refine Bel.drew ?_ | refine Bel.alloc ?_ _ | refine Bel.trans ?_ (by assumption) | refine Bel.setCell ?_ (by simp; omega) _))) b2); (try have hT := Box.bel (Box.bel hT (by repeat (first | exact Bel.refl _ | refine Bel.drewN ?_ _ | refine Bel.drew ?_ | refine Bel.alloc ?_ _ | refine Bel.trans ?_ (by assumption) | refine Bel.setCell ?_ (by simp; omega) _))) b2); (try have i3 := IntSl.bel (IntSl.bel i3 (by repeat (first | exact Bel.refl _ | refine Bel.drewN ?_ _ | refine Bel.drew ?_ | refine Bel.alloc ?_ _ | refine Bel.trans ?_ (by assumption) | refine Bel.setCell ?_ (by simp; omega) _))) b2); clear b2; have hSl := hS.lt; have sc0 := hS.cell 0 _ rfl; have sc1 := hS.cell 1 _ rfl; have sc2 := hS.cell 2 _ rfl; have sc3 := hS.cell 3 _ rfl; have sc4 := hS.cell 4 _ rfl; have sc5 := hS.cell 5 _ rfl; have sc6 := hS.cell 6 _ rfl; have sc7 := hS.cell 7 _ rfl; have sc8 := hS.cell 8 _ rfl
        have hO := Box.new w2 25 [.string nm, .int .i64 0, .int .i64 0, .string ⟨#[]⟩, .int .i64 0, .string ⟨#[]⟩, .int .i64 0, .bool false, .bool false]
        go_wp2_with fail
        refine (feedF_sl lb en wy wt se rs sg fr st s last _ _ _ _ _ _ _ _ _ _ _ HF.out _ (hL.bel (hb.alloc _))).mono ?_
        rintro e w3 ⟨A3, c3, rfl, o3, b3⟩
        have hO := Box.bel hO b3
        have hOq := hO
        clear hO
        have hb := Bel.trans (Bel.trans hb (by repeat (first | exact Bel.refl _ | refine Bel.drewN ?_ _ | refine Bel.drew ?_ | refine Bel.alloc ?_ _ | refine Bel.trans ?_ (by assumption) | refine Bel.setCell ?_ (by simp; omega) _))) b3; have hS := Box.bel (Box.bel hS (by repeat (first | exact Bel.refl _ | refine Bel.drewN ?_ _ | refine Bel.drew ?_ | refine Bel.alloc ?_ _ | refine Bel.trans ?_ (by assumption) | refine Bel.setCell ?_ (by simp; omega) _))) b3; (try have hO := Box.bel (Box.bel hO (by repeat (first | exact Bel.refl _ | refine Bel.drewN ?_ _ | refine Bel.drew ?_ | refine Bel.alloc ?_ _ | refine Bel.trans ?_ (by assumption) | refine Bel.setCell ?_ (by simp; omega) _))) b3); (try have hT := Box.bel (Box.bel hT (by repeat (first | exact Bel.refl _ | refine Bel.drewN ?_ _ | refine Bel.drew ?_ | refine Bel.alloc ?_ _ | refine Bel.trans ?_ (by assumption) | refine Bel.setCell ?_ (by simp; omega) _))) b3); (try have i3 := IntSl.bel (IntSl.bel i3 (by repeat (first | exact Bel.refl _ | refine Bel.drewN ?_ _ | refine Bel.drew ?_ | refine Bel.alloc ?_ _ | refine Bel.trans ?_ (by assumption) | refine Bel.setCell ?_ (by simp; omega) _))) b3); clear b3; have hSl := hS.lt; have sc0 := hS.cell 0 _ rfl; have sc1 := hS.cell 1 _ rfl; have sc2 := hS.cell 2 _ rfl; have sc3 := hS.cell 3 _ rfl; have sc4 := hS.cell 4 _ rfl; have sc5 := hS.cell 5 _ rfl; have sc6 := hS.cell 6 _ rfl; have sc7 := hS.cell 7 _ rfl; have sc8 := hS.cell 8 _ rfl
        have hO := hOq
        clear hOq
        have i3 := o3.ints
        clear o3
        have hT := Box.new w3 25 [.string ⟨l2.toArray⟩, .int .i64 en2, .int .i64 wy2, .string ⟨wt2.toArray⟩, .int .i64 se2, .string ⟨rs2.toArray⟩, .int .i64 sg2, .bool fr2, .bool st2]
        go_wp2_with fail
        refine (long_to nm _ HA.out _).mono ?_
        rintro e w' ⟨rfl, rfl⟩
        go_wp2_with fail
        skip
        refine (long_to s _ HLS.out _).mono ?_
        rintro e w' ⟨rfl, rfl⟩
        go_wp2_with fail
        skip
        refine (checkFront_to lb en wy wt se rs sg fr st _ HQ.out _).mono ?_
        rintro e w4 ⟨rfl, b4⟩
        have hO := Box.bel (Box.bel hO (by repeat (first | exact Bel.refl _ | refine Bel.drewN ?_ _ | refine Bel.drew ?_ | refine Bel.alloc ?_ _ | refine Bel.trans ?_ (by assumption) | refine Bel.setCell ?_ (by simp; omega) _))) b4
        have hT := Box.bel hT b4
        have hb := Bel.trans (Bel.trans hb (by repeat (first | exact Bel.refl _ | refine Bel.drewN ?_ _ | refine Bel.drew ?_ | refine Bel.alloc ?_ _ | refine Bel.trans ?_ (by assumption) | refine Bel.setCell ?_ (by simp; omega) _))) b4
        have hS := Box.bel (Box.bel hS (by repeat (first | exact Bel.refl _ | refine Bel.drewN ?_ _ | refine Bel.drew ?_ | refine Bel.alloc ?_ _ | refine Bel.trans ?_ (by assumption) | refine Bel.setCell ?_ (by simp; omega) _))) b4
        have i3 := IntSl.bel (IntSl.bel i3 (by repeat (first | exact Bel.refl _ | refine Bel.drewN ?_ _ | refine Bel.drew ?_ | refine Bel.alloc ?_ _ | refine Bel.trans ?_ (by assumption) | refine Bel.setCell ?_ (by simp; omega) _))) b4
        clear b4
        have sc0 := hS.cell 0 _ rfl; have sc1 := hS.cell 1 _ rfl; have sc2 := hS.cell 2 _ rfl; have sc3 := hS.cell 3 _ rfl; have sc4 := hS.cell 4 _ rfl; have sc5 := hS.cell 5 _ rfl; have sc6 := hS.cell 6 _ rfl; have sc7 := hS.cell 7 _ rfl; have sc8 := hS.cell 8 _ rfl
        go_wp2_with fail
        skip
        refine (long_to s _ HLS.out _).mono ?_
        rintro e w' ⟨rfl, rfl⟩
        go_upto_if 62 with fail
        have hP : Bel w4 ((w4.alloc (.cells #[.string ⟨#[]⟩, .int .i64 0, .int .i64 0, .string ⟨#[]⟩, .int .i64 0, .string ⟨#[]⟩, .int .i64 0, .bool false, .bool false] 25)).alloc (.cells #[.string ⟨#[]⟩, .int .i64 0, .int .i64 0, .string ⟨#[]⟩, .int .i64 0, .string ⟨#[]⟩, .int .i64 0, .bool false, .bool false] 25)) := (by repeat (first | exact Bel.refl _ | refine Bel.drewN ?_ _ | refine Bel.drew ?_ | refine Bel.alloc ?_ _ | refine Bel.trans ?_ (by assumption) | refine Bel.setCell ?_ (by simp; omega) _))
        have hU := (Box.new w4 25 [.string ⟨#[]⟩, .int .i64 0, .int .i64 0, .string ⟨#[]⟩, .int .i64 0, .string ⟨#[]⟩, .int .i64 0, .bool false, .bool false]).bel ((Bel.refl _).alloc (.cells #[.string ⟨#[]⟩, .int .i64 0, .int .i64 0, .string ⟨#[]⟩, .int .i64 0, .string ⟨#[]⟩, .int .i64 0, .bool false, .bool false] 25))
        have hV : Box ((w4.alloc (.cells #[.string ⟨#[]⟩, .int .i64 0, .int .i64 0, .string ⟨#[]⟩, .int .i64 0, .string ⟨#[]⟩, .int .i64 0, .bool false, .bool false] 25)).alloc (.cells #[.string ⟨#[]⟩, .int .i64 0, .int .i64 0, .string ⟨#[]⟩, .int .i64 0, .string ⟨#[]⟩, .int .i64 0, .bool false, .bool false] 25)) (w4.heap.size + 1) 25 [.string ⟨#[]⟩, .int .i64 0, .int .i64 0, .string ⟨#[]⟩, .int .i64 0, .string ⟨#[]⟩, .int .i64 0, .bool false, .bool false] := by have := Box.new (w4.alloc (.cells #[.string ⟨#[]⟩, .int .i64 0, .int .i64 0, .string ⟨#[]⟩, .int .i64 0, .string ⟨#[]⟩, .int .i64 0, .bool false, .bool false] 25)) 25 [.string ⟨#[]⟩, .int .i64 0, .int .i64 0, .string ⟨#[]⟩, .int .i64 0, .string ⟨#[]⟩, .int .i64 0, .bool false, .bool false]; simpa using this
        have hso := hS.lt
        have hoo := hO.lt
        have hto := hT.lt
        generalize ((w4.alloc (.cells #[.string ⟨#[]⟩, .int .i64 0, .int .i64 0, .string ⟨#[]⟩, .int .i64 0, .string ⟨#[]⟩, .int .i64 0, .bool false, .bool false] 25)).alloc (.cells #[.string ⟨#[]⟩, .int .i64 0, .int .i64 0, .string ⟨#[]⟩, .int .i64 0, .string ⟨#[]⟩, .int .i64 0, .bool false, .bool false] 25)) = P at *
        have hup := hU.lt
        have hvp := hV.lt
        have sb := hS.bel hP
        have sc0 := sb.cell 0 _ rfl; have sc1 := sb.cell 1 _ rfl; have sc2 := sb.cell 2 _ rfl; have sc3 := sb.cell 3 _ rfl; have sc4 := sb.cell 4 _ rfl; have sc5 := sb.cell 5 _ rfl; have sc6 := sb.cell 6 _ rfl; have sc7 := sb.cell 7 _ rfl; have sc8 := sb.cell 8 _ rfl
        have uc0 := hU.cell 0 _ rfl; have uc1 := hU.cell 1 _ rfl; have uc2 := hU.cell 2 _ rfl; have uc3 := hU.cell 3 _ rfl; have uc4 := hU.cell 4 _ rfl; have uc5 := hU.cell 5 _ rfl; have uc6 := hU.cell 6 _ rfl; have uc7 := hU.cell 7 _ rfl; have uc8 := hU.cell 8 _ rfl; have uf0 := hU.frozen 0; have uf1 := hU.frozen 1; have uf2 := hU.frozen 2; have uf3 := hU.frozen 3; have uf4 := hU.frozen 4; have uf5 := hU.frozen 5; have uf6 := hU.frozen 6; have uf7 := hU.frozen 7; have uf8 := hU.frozen 8
        have vc0 := hV.cell 0 _ rfl; have vc1 := hV.cell 1 _ rfl; have vc2 := hV.cell 2 _ rfl; have vc3 := hV.cell 3 _ rfl; have vc4 := hV.cell 4 _ rfl; have vc5 := hV.cell 5 _ rfl; have vc6 := hV.cell 6 _ rfl; have vc7 := hV.cell 7 _ rfl; have vc8 := hV.cell 8 _ rfl; have vf0 := hV.frozen 0; have vf1 := hV.frozen 1; have vf2 := hV.frozen 2; have vf3 := hV.frozen 3; have vf4 := hV.frozen 4; have vf5 := hV.frozen 5; have vf6 := hV.frozen 6; have vf7 := hV.frozen 7; have vf8 := hV.frozen 8
        go_wp2_with fail
        refine (HDO.out _).mono ?_
        rintro e w5 ⟨rfl, b5⟩
        have hP := hP.trans b5; have hU := hU.bel b5; have hV := hV.bel b5; have sb := hS.bel hP; clear b5; have sc0 := sb.cell 0 _ rfl; have sc1 := sb.cell 1 _ rfl; have sc2 := sb.cell 2 _ rfl; have sc3 := sb.cell 3 _ rfl; have sc4 := sb.cell 4 _ rfl; have sc5 := sb.cell 5 _ rfl; have sc6 := sb.cell 6 _ rfl; have sc7 := sb.cell 7 _ rfl; have sc8 := sb.cell 8 _ rfl; have uc0 := hU.cell 0 _ rfl; have uc1 := hU.cell 1 _ rfl; have uc2 := hU.cell 2 _ rfl; have uc3 := hU.cell 3 _ rfl; have uc4 := hU.cell 4 _ rfl; have uc5 := hU.cell 5 _ rfl; have uc6 := hU.cell 6 _ rfl; have uc7 := hU.cell 7 _ rfl; have uc8 := hU.cell 8 _ rfl; have uf0 := hU.frozen 0; have uf1 := hU.frozen 1; have uf2 := hU.frozen 2; have uf3 := hU.frozen 3; have uf4 := hU.frozen 4; have uf5 := hU.frozen 5; have uf6 := hU.frozen 6; have uf7 := hU.frozen 7; have uf8 := hU.frozen 8; have vc0 := hV.cell 0 _ rfl; have vc1 := hV.cell 1 _ rfl; have vc2 := hV.cell 2 _ rfl; have vc3 := hV.cell 3 _ rfl; have vc4 := hV.cell 4 _ rfl; have vc5 := hV.cell 5 _ rfl; have vc6 := hV.cell 6 _ rfl; have vc7 := hV.cell 7 _ rfl; have vc8 := hV.cell 8 _ rfl; have vf0 := hV.frozen 0; have vf1 := hV.frozen 1; have vf2 := hV.frozen 2; have vf3 := hV.frozen 3; have vf4 := hV.frozen 4; have vf5 := hV.frozen 5; have vf6 := hV.frozen 6; have vf7 := hV.frozen 7; have vf8 := hV.frozen 8
        have hV5 := hV
        go_wp2_with fail
        have hU : Box (((((((((w5.setCell ⟨w4.heap.size, 0, none⟩ (.string nm)).setCell ⟨w4.heap.size, 1, none⟩ (.int .i64 0)).setCell ⟨w4.heap.size, 2, none⟩ (.int .i64 0)).setCell ⟨w4.heap.size, 3, none⟩ (.string ⟨#[]⟩)).setCell ⟨w4.heap.size, 4, none⟩ (.int .i64 0)).setCell ⟨w4.heap.size, 5, none⟩ (.string ⟨#[]⟩)).setCell ⟨w4.heap.size, 6, none⟩ (.int .i64 0)).setCell ⟨w4.heap.size, 7, none⟩ (.bool false)).setCell ⟨w4.heap.size, 8, none⟩ (.bool false)) w4.heap.size 25 [.string nm, .int .i64 0, .int .i64 0, .string ⟨#[]⟩, .int .i64 0, .string ⟨#[]⟩, .int .i64 0, .bool false, .bool false] := (((((((((hU.set 0 (.string nm)).set 1 (.int .i64 0)).set 2 (.int .i64 0)).set 3 (.string ⟨#[]⟩)).set 4 (.int .i64 0)).set 5 (.string ⟨#[]⟩)).set 6 (.int .i64 0)).set 7 (.bool false)).set 8 (.bool false))
        have hV : Box (((((((((w5.setCell ⟨w4.heap.size, 0, none⟩ (.string nm)).setCell ⟨w4.heap.size, 1, none⟩ (.int .i64 0)).setCell ⟨w4.heap.size, 2, none⟩ (.int .i64 0)).setCell ⟨w4.heap.size, 3, none⟩ (.string ⟨#[]⟩)).setCell ⟨w4.heap.size, 4, none⟩ (.int .i64 0)).setCell ⟨w4.heap.size, 5, none⟩ (.string ⟨#[]⟩)).setCell ⟨w4.heap.size, 6, none⟩ (.int .i64 0)).setCell ⟨w4.heap.size, 7, none⟩ (.bool false)).setCell ⟨w4.heap.size, 8, none⟩ (.bool false)) (w4.heap.size + 1) 25 [.string ⟨#[]⟩, .int .i64 0, .int .i64 0, .string ⟨#[]⟩, .int .i64 0, .string ⟨#[]⟩, .int .i64 0, .bool false, .bool false] := (((((((((hV.far (p := ⟨w4.heap.size, 0, none⟩) (by simp) (.string nm)).far (p := ⟨w4.heap.size, 1, none⟩) (by simp) (.int .i64 0)).far (p := ⟨w4.heap.size, 2, none⟩) (by simp) (.int .i64 0)).far (p := ⟨w4.heap.size, 3, none⟩) (by simp) (.string ⟨#[]⟩)).far (p := ⟨w4.heap.size, 4, none⟩) (by simp) (.int .i64 0)).far (p := ⟨w4.heap.size, 5, none⟩) (by simp) (.string ⟨#[]⟩)).far (p := ⟨w4.heap.size, 6, none⟩) (by simp) (.int .i64 0)).far (p := ⟨w4.heap.size, 7, none⟩) (by simp) (.bool false)).far (p := ⟨w4.heap.size, 8, none⟩) (by simp) (.bool false))
        have hP := (((((((((hP.setCell (p := ⟨w4.heap.size, 0, none⟩) (Nat.le_refl _) (.string nm)).setCell (p := ⟨w4.heap.size, 1, none⟩) (Nat.le_refl _) (.int .i64 0)).setCell (p := ⟨w4.heap.size, 2, none⟩) (Nat.le_refl _) (.int .i64 0)).setCell (p := ⟨w4.heap.size, 3, none⟩) (Nat.le_refl _) (.string ⟨#[]⟩)).setCell (p := ⟨w4.heap.size, 4, none⟩) (Nat.le_refl _) (.int .i64 0)).setCell (p := ⟨w4.heap.size, 5, none⟩) (Nat.le_refl _) (.string ⟨#[]⟩)).setCell (p := ⟨w4.heap.size, 6, none⟩) (Nat.le_refl _) (.int .i64 0)).setCell (p := ⟨w4.heap.size, 7, none⟩) (Nat.le_refl _) (.bool false)).setCell (p := ⟨w4.heap.size, 8, none⟩) (Nat.le_refl _) (.bool false))
        refine (frontOf_to lb en wy wt se rs sg fr st s last hs3 HQ.out ys ⟨l2, en2, wy2, wt2, ⟨se2, rs2, sg2, fr2, st2⟩⟩ HRF.out _).mono ?_
        rintro e w6 ⟨v6, rfl, o6, b6⟩
        rw [ftC]
        have hv6 : w4.heap.size + 1 < (((((((((w5.setCell ⟨w4.heap.size, 0, none⟩ (.string nm)).setCell ⟨w4.heap.size, 1, none⟩ (.int .i64 0)).setCell ⟨w4.heap.size, 2, none⟩ (.int .i64 0)).setCell ⟨w4.heap.size, 3, none⟩ (.string ⟨#[]⟩)).setCell ⟨w4.heap.size, 4, none⟩ (.int .i64 0)).setCell ⟨w4.heap.size, 5, none⟩ (.string ⟨#[]⟩)).setCell ⟨w4.heap.size, 6, none⟩ (.int .i64 0)).setCell ⟨w4.heap.size, 7, none⟩ (.bool false)).setCell ⟨w4.heap.size, 8, none⟩ (.bool false)).heap.size := by simp; exact hV5.lt
        have hP := hP.trans b6; have hU := hU.bel b6; have hV := hV.bel b6; have sb := hS.bel hP; clear b6; have sc0 := sb.cell 0 _ rfl; have sc1 := sb.cell 1 _ rfl; have sc2 := sb.cell 2 _ rfl; have sc3 := sb.cell 3 _ rfl; have sc4 := sb.cell 4 _ rfl; have sc5 := sb.cell 5 _ rfl; have sc6 := sb.cell 6 _ rfl; have sc7 := sb.cell 7 _ rfl; have sc8 := sb.cell 8 _ rfl; have uc0 := hU.cell 0 _ rfl; have uc1 := hU.cell 1 _ rfl; have uc2 := hU.cell 2 _ rfl; have uc3 := hU.cell 3 _ rfl; have uc4 := hU.cell 4 _ rfl; have uc5 := hU.cell 5 _ rfl; have uc6 := hU.cell 6 _ rfl; have uc7 := hU.cell 7 _ rfl; have uc8 := hU.cell 8 _ rfl; have uf0 := hU.frozen 0; have uf1 := hU.frozen 1; have uf2 := hU.frozen 2; have uf3 := hU.frozen 3; have uf4 := hU.frozen 4; have uf5 := hU.frozen 5; have uf6 := hU.frozen 6; have uf7 := hU.frozen 7; have uf8 := hU.frozen 8; have vc0 := hV.cell 0 _ rfl; have vc1 := hV.cell 1 _ rfl; have vc2 := hV.cell 2 _ rfl; have vc3 := hV.cell 3 _ rfl; have vc4 := hV.cell 4 _ rfl; have vc5 := hV.cell 5 _ rfl; have vc6 := hV.cell 6 _ rfl; have vc7 := hV.cell 7 _ rfl; have vc8 := hV.cell 8 _ rfl; have vf0 := hV.frozen 0; have vf1 := hV.frozen 1; have vf2 := hV.frozen 2; have vf3 := hV.frozen 3; have vf4 := hV.frozen 4; have vf5 := hV.frozen 5; have vf6 := hV.frozen 6; have vf7 := hV.frozen 7; have vf8 := hV.frozen 8
        go_upto_region 20 with fail
        have hU := (((((((((hU.far (p := ⟨w4.heap.size + 1, 0, none⟩) (by simp) (.string ⟨l2.toArray⟩)).far (p := ⟨w4.heap.size + 1, 1, none⟩) (by simp) (.int .i64 en2)).far (p := ⟨w4.heap.size + 1, 2, none⟩) (by simp) (.int .i64 wy2)).far (p := ⟨w4.heap.size + 1, 3, none⟩) (by simp) (.string ⟨wt2.toArray⟩)).far (p := ⟨w4.heap.size + 1, 4, none⟩) (by simp) (.int .i64 se2)).far (p := ⟨w4.heap.size + 1, 5, none⟩) (by simp) (.string ⟨rs2.toArray⟩)).far (p := ⟨w4.heap.size + 1, 6, none⟩) (by simp) (.int .i64 sg2)).far (p := ⟨w4.heap.size + 1, 7, none⟩) (by simp) (.bool fr2)).far (p := ⟨w4.heap.size + 1, 8, none⟩) (by simp) (.bool st2))
        have hV : Box (((((((((w6.setCell ⟨w4.heap.size + 1, 0, none⟩ (.string ⟨l2.toArray⟩)).setCell ⟨w4.heap.size + 1, 1, none⟩ (.int .i64 en2)).setCell ⟨w4.heap.size + 1, 2, none⟩ (.int .i64 wy2)).setCell ⟨w4.heap.size + 1, 3, none⟩ (.string ⟨wt2.toArray⟩)).setCell ⟨w4.heap.size + 1, 4, none⟩ (.int .i64 se2)).setCell ⟨w4.heap.size + 1, 5, none⟩ (.string ⟨rs2.toArray⟩)).setCell ⟨w4.heap.size + 1, 6, none⟩ (.int .i64 sg2)).setCell ⟨w4.heap.size + 1, 7, none⟩ (.bool fr2)).setCell ⟨w4.heap.size + 1, 8, none⟩ (.bool st2)) (w4.heap.size + 1) 25 [.string ⟨l2.toArray⟩, .int .i64 en2, .int .i64 wy2, .string ⟨wt2.toArray⟩, .int .i64 se2, .string ⟨rs2.toArray⟩, .int .i64 sg2, .bool fr2, .bool st2] := (((((((((hV.set 0 (.string ⟨l2.toArray⟩)).set 1 (.int .i64 en2)).set 2 (.int .i64 wy2)).set 3 (.string ⟨wt2.toArray⟩)).set 4 (.int .i64 se2)).set 5 (.string ⟨rs2.toArray⟩)).set 6 (.int .i64 sg2)).set 7 (.bool fr2)).set 8 (.bool st2))
        have hP := (((((((((hP.setCell (p := ⟨w4.heap.size + 1, 0, none⟩) (Nat.le_succ _) (.string ⟨l2.toArray⟩)).setCell (p := ⟨w4.heap.size + 1, 1, none⟩) (Nat.le_succ _) (.int .i64 en2)).setCell (p := ⟨w4.heap.size + 1, 2, none⟩) (Nat.le_succ _) (.int .i64 wy2)).setCell (p := ⟨w4.heap.size + 1, 3, none⟩) (Nat.le_succ _) (.string ⟨wt2.toArray⟩)).setCell (p := ⟨w4.heap.size + 1, 4, none⟩) (Nat.le_succ _) (.int .i64 se2)).setCell (p := ⟨w4.heap.size + 1, 5, none⟩) (Nat.le_succ _) (.string ⟨rs2.toArray⟩)).setCell (p := ⟨w4.heap.size + 1, 6, none⟩) (Nat.le_succ _) (.int .i64 sg2)).setCell (p := ⟨w4.heap.size + 1, 7, none⟩) (Nat.le_succ _) (.bool fr2)).setCell (p := ⟨w4.heap.size + 1, 8, none⟩) (Nat.le_succ _) (.bool st2))
        have i6 := (((((((((o6.setCell (p := ⟨w4.heap.size + 1, 0, none⟩) hv6 (.string ⟨l2.toArray⟩)).setCell (p := ⟨w4.heap.size + 1, 1, none⟩) hv6 (.int .i64 en2)).setCell (p := ⟨w4.heap.size + 1, 2, none⟩) hv6 (.int .i64 wy2)).setCell (p := ⟨w4.heap.size + 1, 3, none⟩) hv6 (.string ⟨wt2.toArray⟩)).setCell (p := ⟨w4.heap.size + 1, 4, none⟩) hv6 (.int .i64 se2)).setCell (p := ⟨w4.heap.size + 1, 5, none⟩) hv6 (.string ⟨rs2.toArray⟩)).setCell (p := ⟨w4.heap.size + 1, 6, none⟩) hv6 (.int .i64 sg2)).setCell (p := ⟨w4.heap.size + 1, 7, none⟩) hv6 (.bool fr2)).setCell (p := ⟨w4.heap.size + 1, 8, none⟩) hv6 (.bool st2)).ints
        have i3 := IntSl.bel i3 hP
        have hS := hS.bel hP
        have hO := hO.bel hP
        have hT := hT.bel hP
        have hb := hb.trans hP
        have su0 := Box.up hS 0 _ rfl; have su1 := Box.up hS 1 _ rfl; have su2 := Box.up hS 2 _ rfl; have su3 := Box.up hS 3 _ rfl; have su4 := Box.up hS 4 _ rfl; have su5 := Box.up hS 5 _ rfl; have su6 := Box.up hS 6 _ rfl; have su7 := Box.up hS 7 _ rfl; have su8 := Box.up hS 8 _ rfl
        have ou0 := Box.up hO 0 _ rfl; have ou1 := Box.up hO 1 _ rfl; have ou2 := Box.up hO 2 _ rfl; have ou3 := Box.up hO 3 _ rfl; have ou4 := Box.up hO 4 _ rfl; have ou5 := Box.up hO 5 _ rfl; have ou6 := Box.up hO 6 _ rfl; have ou7 := Box.up hO 7 _ rfl; have ou8 := Box.up hO 8 _ rfl
        have tu0 := Box.up hT 0 _ rfl; have tu1 := Box.up hT 1 _ rfl; have tu2 := Box.up hT 2 _ rfl; have tu3 := Box.up hT 3 _ rfl; have tu4 := Box.up hT 4 _ rfl; have tu5 := Box.up hT 5 _ rfl; have tu6 := Box.up hT 6 _ rfl; have tu7 := Box.up hT 7 _ rfl; have tu8 := Box.up hT 8 _ rfl
        have uu0 := Box.up hU 0 _ rfl; have uu1 := Box.up hU 1 _ rfl; have uu2 := Box.up hU 2 _ rfl; have uu3 := Box.up hU 3 _ rfl; have uu4 := Box.up hU 4 _ rfl; have uu5 := Box.up hU 5 _ rfl; have uu6 := Box.up hU 6 _ rfl; have uu7 := Box.up hU 7 _ rfl; have uu8 := Box.up hU 8 _ rfl
        have vu0 := Box.up hV 0 _ rfl; have vu1 := Box.up hV 1 _ rfl; have vu2 := Box.up hV 2 _ rfl; have vu3 := Box.up hV 3 _ rfl; have vu4 := Box.up hV 4 _ rfl; have vu5 := Box.up hV 5 _ rfl; have vu6 := Box.up hV 6 _ rfl; have vu7 := Box.up hV 7 _ rfl; have vu8 := Box.up hV 8 _ rfl
        clear hP
        refine region_up (by kernel_rfl) (by kernel_rfl) ?_
        repeat (go_big_quiet_step ((first
          | (go_at_call 12; exact up_call _ (frontBegun_any _ (hL.bel (hb.trans (Up.b _)))))
          | (go_at_call 13; exact up_call _ (checkFr_to lb en wy wt se rs sg fr st _ HQ.out _))
          | (go_at_call 9; exact up_call _ (checkFront_to lb en wy wt se rs sg fr st _ HQ.out _))
          | (go_at_call 14; exact up_call _ (intsAre_yes (.slice A3 _ c3) _ ys ys 0 _ (i3.bel (Up.b _)) (i6.bel (Up.b _)) (by rw [if_pos rfl]))))))
        refine wpQuiet_nil ?_
        intro _ hw'
        obtain ⟨uu, rfl⟩ := hw'
        have b9 := uu.b
        generalize uu.v = wu at *
        go_wp2_with fail
        go_ret
        exact ⟨rfl, hb.trans b9⟩
      · skip
        have hf2 : (ys, (⟨l2, en2, wy2, wt2, ⟨se2, rs2, sg2, fr2, st2⟩⟩ : M.Ft), g) = ([], ⟨[], 0, 0, [], ⟨0, [], 0, false, false⟩⟩, q) := by rw [← hf, M.feedFE, hq, if_neg hq0]; rfl
        simp only [Prod.mk.injEq, M.Ft.mk.injEq, M.St.mk.injEq] at hf2
        obtain ⟨rfl, ⟨rfl, rfl, rfl, rfl, ⟨rfl, rfl, rfl, rfl, rfl⟩⟩, rfl⟩ := hf2
        have e1 : (g == 0) = false := by simpa using hq0
        have e2 : (g != 0) = true := by simpa using hq0
        clear hf hq hq0 ha hls hch
        go_enter Tryz.func3, Tryz.ntmps3
        have hS := Box.new w 25 [.string lb, .int .i64 en, .int .i64 wy, .string wt, .int .i64 se, .string rs, .int .i64 sg, .bool fr, .bool st]
        have hb := Bel.refl w
        go_wp2_with fail
        refine (choose_to nm s _ _ _ _ HC.out _ (hL.bel ((Bel.refl w).alloc _))).mono ?_
        rintro e w1 ⟨rfl, b1⟩
        have hb := Bel.trans (Bel.trans hb (by repeat (first | exact Bel.refl _ | refine Bel.drewN ?_ _ | refine Bel.drew ?_ | refine Bel.alloc ?_ _ | refine Bel.trans ?_ (by assumption) | refine Bel.setCell ?_ (by simp; omega) _))) b1; have hS := Box.bel (Box.bel hS (by repeat (first | exact Bel.refl _ | refine Bel.drewN ?_ _ | refine Bel.drew ?_ | refine Bel.alloc ?_ _ | refine Bel.trans ?_ (by assumption) | refine Bel.setCell ?_ (by simp; omega) _))) b1; (try have hO := Box.bel (Box.bel hO (by repeat (first | exact Bel.refl _ | refine Bel.drewN ?_ _ | refine Bel.drew ?_ | refine Bel.alloc ?_ _ | refine Bel.trans ?_ (by assumption) | refine Bel.setCell ?_ (by simp; omega) _))) b1); (try have hT := Box.bel (Box.bel hT (by repeat (first | exact Bel.refl _ | refine Bel.drewN ?_ _ | refine Bel.drew ?_ | refine Bel.alloc ?_ _ | refine Bel.trans ?_ (by assumption) | refine Bel.setCell ?_ (by simp; omega) _))) b1); (try have i3 := IntSl.bel (IntSl.bel i3 (by repeat (first | exact Bel.refl _ | refine Bel.drewN ?_ _ | refine Bel.drew ?_ | refine Bel.alloc ?_ _ | refine Bel.trans ?_ (by assumption) | refine Bel.setCell ?_ (by simp; omega) _))) b1); clear b1; have hSl := hS.lt; have sc0 := hS.cell 0 _ rfl; have sc1 := hS.cell 1 _ rfl; have sc2 := hS.cell 2 _ rfl; have sc3 := hS.cell 3 _ rfl; have sc4 := hS.cell 4 _ rfl; have sc5 := hS.cell 5 _ rfl; have sc6 := hS.cell 6 _ rfl; have sc7 := hS.cell 7 _ rfl; have sc8 := hS.cell 8 _ rfl
        go_wp2_with fail
        refine (begin_yes nm HB.out _).mono ?_
        rintro e w2 ⟨rfl, b2⟩
        have hb := Bel.trans (Bel.trans hb (by repeat (first | exact Bel.refl _ | refine Bel.drewN ?_ _ | refine Bel.drew ?_ | refine Bel.alloc ?_ _ | refine Bel.trans ?_ (by assumption) | refine Bel.setCell ?_ (by simp; omega) _))) b2; have hS := Box.bel (Box.bel hS (by repeat (first | exact Bel.refl _ | refine Bel.drewN ?_ _ | refine Bel.drew ?_ | refine Bel.alloc ?_ _ | refine Bel.trans ?_ (by assumption) | refine Bel.setCell ?_ (by simp; omega) _))) b2; (try have hO := Box.bel (Box.bel hO (by repeat (first | exact Bel.refl _ | refine Bel.drewN ?_ _ | refine Bel.drew ?_ | refine Bel.alloc ?_ _ | refine Bel.trans ?_ (by assumption) | refine Bel.setCell ?_ (by simp; omega) _))) b2); (try have hT := Box.bel (Box.bel hT (by repeat (first | exact Bel.refl _ | refine Bel.drewN ?_ _ | refine Bel.drew ?_ | refine Bel.alloc ?_ _ | refine Bel.trans ?_ (by assumption) | refine Bel.setCell ?_ (by simp; omega) _))) b2); (try have i3 := IntSl.bel (IntSl.bel i3 (by repeat (first | exact Bel.refl _ | refine Bel.drewN ?_ _ | refine Bel.drew ?_ | refine Bel.alloc ?_ _ | refine Bel.trans ?_ (by assumption) | refine Bel.setCell ?_ (by simp; omega) _))) b2); clear b2; have hSl := hS.lt; have sc0 := hS.cell 0 _ rfl; have sc1 := hS.cell 1 _ rfl; have sc2 := hS.cell 2 _ rfl; have sc3 := hS.cell 3 _ rfl; have sc4 := hS.cell 4 _ rfl; have sc5 := hS.cell 5 _ rfl; have sc6 := hS.cell 6 _ rfl; have sc7 := hS.cell 7 _ rfl; have sc8 := hS.cell 8 _ rfl
        have hO := Box.new w2 25 [.string nm, .int .i64 0, .int .i64 0, .string ⟨#[]⟩, .int .i64 0, .string ⟨#[]⟩, .int .i64 0, .bool false, .bool false]
        go_wp2_with fail
        refine (feedF_sl lb en wy wt se rs sg fr st s last _ _ _ _ _ _ _ _ _ _ _ HF.out _ (hL.bel (hb.alloc _))).mono ?_
        rintro e w3 ⟨A3, c3, rfl, o3, b3⟩
        have hO := Box.bel hO b3
        have hOq := hO
        clear hO
        have hb := Bel.trans (Bel.trans hb (by repeat (first | exact Bel.refl _ | refine Bel.drewN ?_ _ | refine Bel.drew ?_ | refine Bel.alloc ?_ _ | refine Bel.trans ?_ (by assumption) | refine Bel.setCell ?_ (by simp; omega) _))) b3; have hS := Box.bel (Box.bel hS (by repeat (first | exact Bel.refl _ | refine Bel.drewN ?_ _ | refine Bel.drew ?_ | refine Bel.alloc ?_ _ | refine Bel.trans ?_ (by assumption) | refine Bel.setCell ?_ (by simp; omega) _))) b3; (try have hO := Box.bel (Box.bel hO (by repeat (first | exact Bel.refl _ | refine Bel.drewN ?_ _ | refine Bel.drew ?_ | refine Bel.alloc ?_ _ | refine Bel.trans ?_ (by assumption) | refine Bel.setCell ?_ (by simp; omega) _))) b3); (try have hT := Box.bel (Box.bel hT (by repeat (first | exact Bel.refl _ | refine Bel.drewN ?_ _ | refine Bel.drew ?_ | refine Bel.alloc ?_ _ | refine Bel.trans ?_ (by assumption) | refine Bel.setCell ?_ (by simp; omega) _))) b3); (try have i3 := IntSl.bel (IntSl.bel i3 (by repeat (first | exact Bel.refl _ | refine Bel.drewN ?_ _ | refine Bel.drew ?_ | refine Bel.alloc ?_ _ | refine Bel.trans ?_ (by assumption) | refine Bel.setCell ?_ (by simp; omega) _))) b3); clear b3; have hSl := hS.lt; have sc0 := hS.cell 0 _ rfl; have sc1 := hS.cell 1 _ rfl; have sc2 := hS.cell 2 _ rfl; have sc3 := hS.cell 3 _ rfl; have sc4 := hS.cell 4 _ rfl; have sc5 := hS.cell 5 _ rfl; have sc6 := hS.cell 6 _ rfl; have sc7 := hS.cell 7 _ rfl; have sc8 := hS.cell 8 _ rfl
        have hO := hOq
        clear hOq
        have i3 := o3.ints
        clear o3
        have hT := Box.new w3 25 [.string ⟨#[]⟩, .int .i64 0, .int .i64 0, .string ⟨#[]⟩, .int .i64 0, .string ⟨#[]⟩, .int .i64 0, .bool false, .bool false]
        go_wp2_with fail
        refine (long_to nm _ HA.out _).mono ?_
        rintro e w' ⟨rfl, rfl⟩
        go_wp2_with fail
        skip
        refine (long_to s _ HLS.out _).mono ?_
        rintro e w' ⟨rfl, rfl⟩
        go_wp2_with fail
        skip
        refine (checkFront_to lb en wy wt se rs sg fr st _ HQ.out _).mono ?_
        rintro e w4 ⟨rfl, b4⟩
        have hO := Box.bel (Box.bel hO (by repeat (first | exact Bel.refl _ | refine Bel.drewN ?_ _ | refine Bel.drew ?_ | refine Bel.alloc ?_ _ | refine Bel.trans ?_ (by assumption) | refine Bel.setCell ?_ (by simp; omega) _))) b4
        have hT := Box.bel hT b4
        have hb := Bel.trans (Bel.trans hb (by repeat (first | exact Bel.refl _ | refine Bel.drewN ?_ _ | refine Bel.drew ?_ | refine Bel.alloc ?_ _ | refine Bel.trans ?_ (by assumption) | refine Bel.setCell ?_ (by simp; omega) _))) b4
        have hS := Box.bel (Box.bel hS (by repeat (first | exact Bel.refl _ | refine Bel.drewN ?_ _ | refine Bel.drew ?_ | refine Bel.alloc ?_ _ | refine Bel.trans ?_ (by assumption) | refine Bel.setCell ?_ (by simp; omega) _))) b4
        have i3 := IntSl.bel (IntSl.bel i3 (by repeat (first | exact Bel.refl _ | refine Bel.drewN ?_ _ | refine Bel.drew ?_ | refine Bel.alloc ?_ _ | refine Bel.trans ?_ (by assumption) | refine Bel.setCell ?_ (by simp; omega) _))) b4
        clear b4
        have sc0 := hS.cell 0 _ rfl; have sc1 := hS.cell 1 _ rfl; have sc2 := hS.cell 2 _ rfl; have sc3 := hS.cell 3 _ rfl; have sc4 := hS.cell 4 _ rfl; have sc5 := hS.cell 5 _ rfl; have sc6 := hS.cell 6 _ rfl; have sc7 := hS.cell 7 _ rfl; have sc8 := hS.cell 8 _ rfl
        go_upto_if 62 with fail
        have hP : Bel w4 ((w4.alloc (.cells #[.string ⟨#[]⟩, .int .i64 0, .int .i64 0, .string ⟨#[]⟩, .int .i64 0, .string ⟨#[]⟩, .int .i64 0, .bool false, .bool false] 25)).alloc (.cells #[.string ⟨#[]⟩, .int .i64 0, .int .i64 0, .string ⟨#[]⟩, .int .i64 0, .string ⟨#[]⟩, .int .i64 0, .bool false, .bool false] 25)) := (by repeat (first | exact Bel.refl _ | refine Bel.drewN ?_ _ | refine Bel.drew ?_ | refine Bel.alloc ?_ _ | refine Bel.trans ?_ (by assumption) | refine Bel.setCell ?_ (by simp; omega) _))
        have hU := (Box.new w4 25 [.string ⟨#[]⟩, .int .i64 0, .int .i64 0, .string ⟨#[]⟩, .int .i64 0, .string ⟨#[]⟩, .int .i64 0, .bool false, .bool false]).bel ((Bel.refl _).alloc (.cells #[.string ⟨#[]⟩, .int .i64 0, .int .i64 0, .string ⟨#[]⟩, .int .i64 0, .string ⟨#[]⟩, .int .i64 0, .bool false, .bool false] 25))
        have hV : Box ((w4.alloc (.cells #[.string ⟨#[]⟩, .int .i64 0, .int .i64 0, .string ⟨#[]⟩, .int .i64 0, .string ⟨#[]⟩, .int .i64 0, .bool false, .bool false] 25)).alloc (.cells #[.string ⟨#[]⟩, .int .i64 0, .int .i64 0, .string ⟨#[]⟩, .int .i64 0, .string ⟨#[]⟩, .int .i64 0, .bool false, .bool false] 25)) (w4.heap.size + 1) 25 [.string ⟨#[]⟩, .int .i64 0, .int .i64 0, .string ⟨#[]⟩, .int .i64 0, .string ⟨#[]⟩, .int .i64 0, .bool false, .bool false] := by have := Box.new (w4.alloc (.cells #[.string ⟨#[]⟩, .int .i64 0, .int .i64 0, .string ⟨#[]⟩, .int .i64 0, .string ⟨#[]⟩, .int .i64 0, .bool false, .bool false] 25)) 25 [.string ⟨#[]⟩, .int .i64 0, .int .i64 0, .string ⟨#[]⟩, .int .i64 0, .string ⟨#[]⟩, .int .i64 0, .bool false, .bool false]; simpa using this
        have hso := hS.lt
        have hoo := hO.lt
        have hto := hT.lt
        generalize ((w4.alloc (.cells #[.string ⟨#[]⟩, .int .i64 0, .int .i64 0, .string ⟨#[]⟩, .int .i64 0, .string ⟨#[]⟩, .int .i64 0, .bool false, .bool false] 25)).alloc (.cells #[.string ⟨#[]⟩, .int .i64 0, .int .i64 0, .string ⟨#[]⟩, .int .i64 0, .string ⟨#[]⟩, .int .i64 0, .bool false, .bool false] 25)) = P at *
        have hup := hU.lt
        have hvp := hV.lt
        have sb := hS.bel hP
        have sc0 := sb.cell 0 _ rfl; have sc1 := sb.cell 1 _ rfl; have sc2 := sb.cell 2 _ rfl; have sc3 := sb.cell 3 _ rfl; have sc4 := sb.cell 4 _ rfl; have sc5 := sb.cell 5 _ rfl; have sc6 := sb.cell 6 _ rfl; have sc7 := sb.cell 7 _ rfl; have sc8 := sb.cell 8 _ rfl
        have uc0 := hU.cell 0 _ rfl; have uc1 := hU.cell 1 _ rfl; have uc2 := hU.cell 2 _ rfl; have uc3 := hU.cell 3 _ rfl; have uc4 := hU.cell 4 _ rfl; have uc5 := hU.cell 5 _ rfl; have uc6 := hU.cell 6 _ rfl; have uc7 := hU.cell 7 _ rfl; have uc8 := hU.cell 8 _ rfl; have uf0 := hU.frozen 0; have uf1 := hU.frozen 1; have uf2 := hU.frozen 2; have uf3 := hU.frozen 3; have uf4 := hU.frozen 4; have uf5 := hU.frozen 5; have uf6 := hU.frozen 6; have uf7 := hU.frozen 7; have uf8 := hU.frozen 8
        have vc0 := hV.cell 0 _ rfl; have vc1 := hV.cell 1 _ rfl; have vc2 := hV.cell 2 _ rfl; have vc3 := hV.cell 3 _ rfl; have vc4 := hV.cell 4 _ rfl; have vc5 := hV.cell 5 _ rfl; have vc6 := hV.cell 6 _ rfl; have vc7 := hV.cell 7 _ rfl; have vc8 := hV.cell 8 _ rfl; have vf0 := hV.frozen 0; have vf1 := hV.frozen 1; have vf2 := hV.frozen 2; have vf3 := hV.frozen 3; have vf4 := hV.frozen 4; have vf5 := hV.frozen 5; have vf6 := hV.frozen 6; have vf7 := hV.frozen 7; have vf8 := hV.frozen 8
        go_wp2_with fail
        refine (HDO.out _).mono ?_
        rintro e w5 ⟨rfl, b5⟩
        have hP := hP.trans b5; have hU := hU.bel b5; have hV := hV.bel b5; have sb := hS.bel hP; clear b5; have sc0 := sb.cell 0 _ rfl; have sc1 := sb.cell 1 _ rfl; have sc2 := sb.cell 2 _ rfl; have sc3 := sb.cell 3 _ rfl; have sc4 := sb.cell 4 _ rfl; have sc5 := sb.cell 5 _ rfl; have sc6 := sb.cell 6 _ rfl; have sc7 := sb.cell 7 _ rfl; have sc8 := sb.cell 8 _ rfl; have uc0 := hU.cell 0 _ rfl; have uc1 := hU.cell 1 _ rfl; have uc2 := hU.cell 2 _ rfl; have uc3 := hU.cell 3 _ rfl; have uc4 := hU.cell 4 _ rfl; have uc5 := hU.cell 5 _ rfl; have uc6 := hU.cell 6 _ rfl; have uc7 := hU.cell 7 _ rfl; have uc8 := hU.cell 8 _ rfl; have uf0 := hU.frozen 0; have uf1 := hU.frozen 1; have uf2 := hU.frozen 2; have uf3 := hU.frozen 3; have uf4 := hU.frozen 4; have uf5 := hU.frozen 5; have uf6 := hU.frozen 6; have uf7 := hU.frozen 7; have uf8 := hU.frozen 8; have vc0 := hV.cell 0 _ rfl; have vc1 := hV.cell 1 _ rfl; have vc2 := hV.cell 2 _ rfl; have vc3 := hV.cell 3 _ rfl; have vc4 := hV.cell 4 _ rfl; have vc5 := hV.cell 5 _ rfl; have vc6 := hV.cell 6 _ rfl; have vc7 := hV.cell 7 _ rfl; have vc8 := hV.cell 8 _ rfl; have vf0 := hV.frozen 0; have vf1 := hV.frozen 1; have vf2 := hV.frozen 2; have vf3 := hV.frozen 3; have vf4 := hV.frozen 4; have vf5 := hV.frozen 5; have vf6 := hV.frozen 6; have vf7 := hV.frozen 7; have vf8 := hV.frozen 8
        go_upto_region 20 with fail
        have hU : Box (((((((((w5.setCell ⟨w4.heap.size, 0, none⟩ (.string nm)).setCell ⟨w4.heap.size, 1, none⟩ (.int .i64 0)).setCell ⟨w4.heap.size, 2, none⟩ (.int .i64 0)).setCell ⟨w4.heap.size, 3, none⟩ (.string ⟨#[]⟩)).setCell ⟨w4.heap.size, 4, none⟩ (.int .i64 0)).setCell ⟨w4.heap.size, 5, none⟩ (.string ⟨#[]⟩)).setCell ⟨w4.heap.size, 6, none⟩ (.int .i64 0)).setCell ⟨w4.heap.size, 7, none⟩ (.bool false)).setCell ⟨w4.heap.size, 8, none⟩ (.bool false)) w4.heap.size 25 [.string nm, .int .i64 0, .int .i64 0, .string ⟨#[]⟩, .int .i64 0, .string ⟨#[]⟩, .int .i64 0, .bool false, .bool false] := (((((((((hU.set 0 (.string nm)).set 1 (.int .i64 0)).set 2 (.int .i64 0)).set 3 (.string ⟨#[]⟩)).set 4 (.int .i64 0)).set 5 (.string ⟨#[]⟩)).set 6 (.int .i64 0)).set 7 (.bool false)).set 8 (.bool false))
        have hV : Box (((((((((w5.setCell ⟨w4.heap.size, 0, none⟩ (.string nm)).setCell ⟨w4.heap.size, 1, none⟩ (.int .i64 0)).setCell ⟨w4.heap.size, 2, none⟩ (.int .i64 0)).setCell ⟨w4.heap.size, 3, none⟩ (.string ⟨#[]⟩)).setCell ⟨w4.heap.size, 4, none⟩ (.int .i64 0)).setCell ⟨w4.heap.size, 5, none⟩ (.string ⟨#[]⟩)).setCell ⟨w4.heap.size, 6, none⟩ (.int .i64 0)).setCell ⟨w4.heap.size, 7, none⟩ (.bool false)).setCell ⟨w4.heap.size, 8, none⟩ (.bool false)) (w4.heap.size + 1) 25 [.string ⟨#[]⟩, .int .i64 0, .int .i64 0, .string ⟨#[]⟩, .int .i64 0, .string ⟨#[]⟩, .int .i64 0, .bool false, .bool false] := (((((((((hV.far (p := ⟨w4.heap.size, 0, none⟩) (by simp) (.string nm)).far (p := ⟨w4.heap.size, 1, none⟩) (by simp) (.int .i64 0)).far (p := ⟨w4.heap.size, 2, none⟩) (by simp) (.int .i64 0)).far (p := ⟨w4.heap.size, 3, none⟩) (by simp) (.string ⟨#[]⟩)).far (p := ⟨w4.heap.size, 4, none⟩) (by simp) (.int .i64 0)).far (p := ⟨w4.heap.size, 5, none⟩) (by simp) (.string ⟨#[]⟩)).far (p := ⟨w4.heap.size, 6, none⟩) (by simp) (.int .i64 0)).far (p := ⟨w4.heap.size, 7, none⟩) (by simp) (.bool false)).far (p := ⟨w4.heap.size, 8, none⟩) (by simp) (.bool false))
        have hP := (((((((((hP.setCell (p := ⟨w4.heap.size, 0, none⟩) (Nat.le_refl _) (.string nm)).setCell (p := ⟨w4.heap.size, 1, none⟩) (Nat.le_refl _) (.int .i64 0)).setCell (p := ⟨w4.heap.size, 2, none⟩) (Nat.le_refl _) (.int .i64 0)).setCell (p := ⟨w4.heap.size, 3, none⟩) (Nat.le_refl _) (.string ⟨#[]⟩)).setCell (p := ⟨w4.heap.size, 4, none⟩) (Nat.le_refl _) (.int .i64 0)).setCell (p := ⟨w4.heap.size, 5, none⟩) (Nat.le_refl _) (.string ⟨#[]⟩)).setCell (p := ⟨w4.heap.size, 6, none⟩) (Nat.le_refl _) (.int .i64 0)).setCell (p := ⟨w4.heap.size, 7, none⟩) (Nat.le_refl _) (.bool false)).setCell (p := ⟨w4.heap.size, 8, none⟩) (Nat.le_refl _) (.bool false))
        have i3 := IntSl.bel i3 hP
        have hS := hS.bel hP
        have hO := hO.bel hP
        have hT := hT.bel hP
        have hb := hb.trans hP
        have su0 := Box.up hS 0 _ rfl; have su1 := Box.up hS 1 _ rfl; have su2 := Box.up hS 2 _ rfl; have su3 := Box.up hS 3 _ rfl; have su4 := Box.up hS 4 _ rfl; have su5 := Box.up hS 5 _ rfl; have su6 := Box.up hS 6 _ rfl; have su7 := Box.up hS 7 _ rfl; have su8 := Box.up hS 8 _ rfl
        have ou0 := Box.up hO 0 _ rfl; have ou1 := Box.up hO 1 _ rfl; have ou2 := Box.up hO 2 _ rfl; have ou3 := Box.up hO 3 _ rfl; have ou4 := Box.up hO 4 _ rfl; have ou5 := Box.up hO 5 _ rfl; have ou6 := Box.up hO 6 _ rfl; have ou7 := Box.up hO 7 _ rfl; have ou8 := Box.up hO 8 _ rfl
        have tu0 := Box.up hT 0 _ rfl; have tu1 := Box.up hT 1 _ rfl; have tu2 := Box.up hT 2 _ rfl; have tu3 := Box.up hT 3 _ rfl; have tu4 := Box.up hT 4 _ rfl; have tu5 := Box.up hT 5 _ rfl; have tu6 := Box.up hT 6 _ rfl; have tu7 := Box.up hT 7 _ rfl; have tu8 := Box.up hT 8 _ rfl
        have uu0 := Box.up hU 0 _ rfl; have uu1 := Box.up hU 1 _ rfl; have uu2 := Box.up hU 2 _ rfl; have uu3 := Box.up hU 3 _ rfl; have uu4 := Box.up hU 4 _ rfl; have uu5 := Box.up hU 5 _ rfl; have uu6 := Box.up hU 6 _ rfl; have uu7 := Box.up hU 7 _ rfl; have uu8 := Box.up hU 8 _ rfl
        have vu0 := Box.up hV 0 _ rfl; have vu1 := Box.up hV 1 _ rfl; have vu2 := Box.up hV 2 _ rfl; have vu3 := Box.up hV 3 _ rfl; have vu4 := Box.up hV 4 _ rfl; have vu5 := Box.up hV 5 _ rfl; have vu6 := Box.up hV 6 _ rfl; have vu7 := Box.up hV 7 _ rfl; have vu8 := Box.up hV 8 _ rfl
        clear hP
        refine region_up (by kernel_rfl) (by kernel_rfl) ?_
        repeat (go_big_quiet_step ((first
          | (go_at_call 12; exact up_call _ (frontBegun_any _ (hL.bel (hb.trans (Up.b _)))))
          | (go_at_call 13; exact up_call _ (checkFr_to lb en wy wt se rs sg fr st _ HQ.out _))
          | (go_at_call 9; exact up_call _ (checkFront_to lb en wy wt se rs sg fr st _ HQ.out _))
          | (go_at_call 14; exact up_call _ (intsAre_yes (.slice A3 _ c3) _ [] [] g _ (i3.bel (Up.b _)) (IntSl.nil_ _) (by split <;> rfl))))))
        refine wpQuiet_nil ?_
        intro _ hw'
        obtain ⟨uu, rfl⟩ := hw'
        have b9 := uu.b
        generalize uu.v = wu at *
        go_wp2_with fail
        go_ret
        exact ⟨rfl, hb.trans b9⟩
end Go.Proofs.YtcgdecpjlggekaaGreatDoor

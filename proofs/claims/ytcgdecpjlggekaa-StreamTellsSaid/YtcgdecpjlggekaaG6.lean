/-
  Texts of the proof, laid together: LawStream5. No condition of its own.
-/
import Derived.Test.YtcgdecpjlggekaaG4
import Derived.Test.YtcgdecpjlggekaaG5
import Derived.Deep.Cut

/-
  The law StreamTells.
-/
namespace Go.Proofs.Ytcgdecpjlggekaa
open Go.RowKit
set_option maxRecDepth 1000000

theorem feedOf_sl (n : Int) (hn : M.isEnc n = true) (r : ByteArray) (sg : Int) (fr st : Bool) (b : ByteArray) (last : Bool) (hsz : r.size + b.size ≤ 68719476730) (xs : List Int) (n2 : Int) (l2 : List UInt8) (sg2 : Int) (fr2 st2 : Bool) (hd : M.refM ⟨n, r.data.toList, sg, fr, st⟩ b.data.toList last = (xs, ⟨n2, l2, sg2, fr2, st2⟩)) (w : World) :
    Calls Try.prog 11 #[.agg #[.int .i64 n, .string r, .int .i64 sg, .bool fr, .bool st], .string b, .bool last] w fun e w' => ∃ v, e = .returned (.tuple #[v, .agg #[.int .i64 n2, .string ⟨l2.toArray⟩, .int .i64 sg2, .bool fr2, .bool st2]]) ∧ Own w.heap.size 3 w' v (xs.map (Value.int .i64)) ∧ Bel w w' := feedOf_any n hn r sg fr st b last hsz xs _ hd w
set_option maxHeartbeats 8000000 in
theorem streamTellsTrue (n : Int) (e0 : Int) (r : ByteArray) (sg : Int) (fr st : Bool) (b : ByteArray) (last : Bool) (w : World) (_ : -9223372036854775808 ≤ n ∧ n ≤ 9223372036854775807) (_ : b.size ≤ reachBytes) : Calls Try.prog 3 #[.int .i64 n, .agg #[.int .i64 e0, .string r, .int .i64 sg, .bool fr, .bool st], .string b, .bool last] w fun e w' => e = .returned (.bool true) ∧ Bel w w' := by
  obtain ⟨⟨ys, ⟨n2, l2, sg2, fr2, st2⟩, g⟩, hf⟩ : ∃ q : List Int × M.St × Int, M.feedE ⟨e0, r.data.toList, sg, fr, st⟩ b.data.toList last = q := ⟨_, rfl⟩
  have HF := Lib.hid hf
  obtain ⟨q, hq⟩ : ∃ q, M.checkM ⟨e0, r.data.toList, sg, fr, st⟩ = q := ⟨_, rfl⟩
  have HQ := Lib.hid hq
  obtain ⟨lg, hlg⟩ : ∃ lg, M.long b.data.toList = lg := ⟨_, rfl⟩
  have HL := Lib.hid hlg
  cases h : M.isEnc n with
  | false =>
    have HI := Lib.hid h
    have HD := Lib.hid (show M.decE n b.data.toList = ([], 6) by
      have h6 : M.readyE n b.data.toList = 6 := by rw [M.readyE, if_pos h]
      rw [M.decE, h6, if_neg (by decide)])
    by_cases hq0 : q = 0
    · subst hq0
      rcases long_cases b with ⟨hbl, hl2⟩ | ⟨hbl, hl0⟩
      · obtain rfl : lg = 2 := hlg.symm.trans hl2
        have hf2 : (ys, (⟨n2, l2, sg2, fr2, st2⟩ : M.St), g) = ([], ⟨0, [], 0, false, false⟩, 2) := by rw [← hf, M.feedE, hq, if_pos rfl, if_pos (by rw [← Lib.size_eq]; exact hbl)]
        simp only [Prod.mk.injEq, M.St.mk.injEq] at hf2
        obtain ⟨rfl, ⟨rfl, rfl, rfl, rfl, rfl⟩, rfl⟩ := hf2
        clear hf hq hlg h hl2 hbl
        go_enter Try.func3, Try.ntmps3
        have hS := Box.new w 23 [.int .i64 e0, .string r, .int .i64 sg, .bool fr, .bool st]
        have hb := Bel.refl w
        go_wp2_with fail
        refine (decE_sl n b _ _ HD.out _).mono ?_
        rintro e w1 ⟨A1, c1, rfl, o1, b1⟩
        have hb := Bel.trans (Bel.trans hb (by repeat (first | exact Bel.refl _ | refine Bel.drewN ?_ _ | refine Bel.drew ?_ | refine Bel.alloc ?_ _ | refine Bel.trans ?_ (by assumption) | refine Bel.setCell ?_ (by simp; omega) _))) b1; have hS := Box.bel (Box.bel hS (by repeat (first | exact Bel.refl _ | refine Bel.drewN ?_ _ | refine Bel.drew ?_ | refine Bel.alloc ?_ _ | refine Bel.trans ?_ (by assumption) | refine Bel.setCell ?_ (by simp; omega) _))) b1; (try have hO := Box.bel (Box.bel hO (by repeat (first | exact Bel.refl _ | refine Bel.drewN ?_ _ | refine Bel.drew ?_ | refine Bel.alloc ?_ _ | refine Bel.trans ?_ (by assumption) | refine Bel.setCell ?_ (by simp; omega) _))) b1); (try have hT := Box.bel (Box.bel hT (by repeat (first | exact Bel.refl _ | refine Bel.drewN ?_ _ | refine Bel.drew ?_ | refine Bel.alloc ?_ _ | refine Bel.trans ?_ (by assumption) | refine Bel.setCell ?_ (by simp; omega) _))) b1); (try have hU := Box.bel (Box.bel hU (by repeat (first | exact Bel.refl _ | refine Bel.drewN ?_ _ | refine Bel.drew ?_ | refine Bel.alloc ?_ _ | refine Bel.trans ?_ (by assumption) | refine Bel.setCell ?_ (by simp; omega) _))) b1); (try have hV := Box.bel (Box.bel hV (by repeat (first | exact Bel.refl _ | refine Bel.drewN ?_ _ | refine Bel.drew ?_ | refine Bel.alloc ?_ _ | refine Bel.trans ?_ (by assumption) | refine Bel.setCell ?_ (by simp; omega) _))) b1); (try have i1 := IntSl.bel (IntSl.bel i1 (by repeat (first | exact Bel.refl _ | refine Bel.drewN ?_ _ | refine Bel.drew ?_ | refine Bel.alloc ?_ _ | refine Bel.trans ?_ (by assumption) | refine Bel.setCell ?_ (by simp; omega) _))) b1); (try have i3 := IntSl.bel (IntSl.bel i3 (by repeat (first | exact Bel.refl _ | refine Bel.drewN ?_ _ | refine Bel.drew ?_ | refine Bel.alloc ?_ _ | refine Bel.trans ?_ (by assumption) | refine Bel.setCell ?_ (by simp; omega) _))) b1); clear b1; have hSl := hS.lt; have sc0 := hS.cell 0 _ rfl; have sc1 := hS.cell 1 _ rfl; have sc2 := hS.cell 2 _ rfl; have sc3 := hS.cell 3 _ rfl; have sc4 := hS.cell 4 _ rfl
        have i1 := o1.ints
        clear o1
        go_wp2_with fail
        refine (open_no n HI.out _).mono ?_
        rintro e w2 ⟨rfl, b2⟩
        have hb := Bel.trans (Bel.trans hb (by repeat (first | exact Bel.refl _ | refine Bel.drewN ?_ _ | refine Bel.drew ?_ | refine Bel.alloc ?_ _ | refine Bel.trans ?_ (by assumption) | refine Bel.setCell ?_ (by simp; omega) _))) b2; have hS := Box.bel (Box.bel hS (by repeat (first | exact Bel.refl _ | refine Bel.drewN ?_ _ | refine Bel.drew ?_ | refine Bel.alloc ?_ _ | refine Bel.trans ?_ (by assumption) | refine Bel.setCell ?_ (by simp; omega) _))) b2; (try have hO := Box.bel (Box.bel hO (by repeat (first | exact Bel.refl _ | refine Bel.drewN ?_ _ | refine Bel.drew ?_ | refine Bel.alloc ?_ _ | refine Bel.trans ?_ (by assumption) | refine Bel.setCell ?_ (by simp; omega) _))) b2); (try have hT := Box.bel (Box.bel hT (by repeat (first | exact Bel.refl _ | refine Bel.drewN ?_ _ | refine Bel.drew ?_ | refine Bel.alloc ?_ _ | refine Bel.trans ?_ (by assumption) | refine Bel.setCell ?_ (by simp; omega) _))) b2); (try have hU := Box.bel (Box.bel hU (by repeat (first | exact Bel.refl _ | refine Bel.drewN ?_ _ | refine Bel.drew ?_ | refine Bel.alloc ?_ _ | refine Bel.trans ?_ (by assumption) | refine Bel.setCell ?_ (by simp; omega) _))) b2); (try have hV := Box.bel (Box.bel hV (by repeat (first | exact Bel.refl _ | refine Bel.drewN ?_ _ | refine Bel.drew ?_ | refine Bel.alloc ?_ _ | refine Bel.trans ?_ (by assumption) | refine Bel.setCell ?_ (by simp; omega) _))) b2); (try have i1 := IntSl.bel (IntSl.bel i1 (by repeat (first | exact Bel.refl _ | refine Bel.drewN ?_ _ | refine Bel.drew ?_ | refine Bel.alloc ?_ _ | refine Bel.trans ?_ (by assumption) | refine Bel.setCell ?_ (by simp; omega) _))) b2); (try have i3 := IntSl.bel (IntSl.bel i3 (by repeat (first | exact Bel.refl _ | refine Bel.drewN ?_ _ | refine Bel.drew ?_ | refine Bel.alloc ?_ _ | refine Bel.trans ?_ (by assumption) | refine Bel.setCell ?_ (by simp; omega) _))) b2); clear b2; have hSl := hS.lt; have sc0 := hS.cell 0 _ rfl; have sc1 := hS.cell 1 _ rfl; have sc2 := hS.cell 2 _ rfl; have sc3 := hS.cell 3 _ rfl; have sc4 := hS.cell 4 _ rfl
        have hO := Box.new w2 23 [.int .i64 0, .string ⟨#[]⟩, .int .i64 0, .bool false, .bool false]
        go_wp2_with fail
        refine (feed_sl e0 r sg fr st b last _ _ _ _ _ _ _ HF.out _).mono ?_
        rintro e w3 ⟨A3, c3, rfl, o3, b3⟩
        have hO := Box.bel hO b3
        have hOq := hO
        clear hO
        have hb := Bel.trans (Bel.trans hb (by repeat (first | exact Bel.refl _ | refine Bel.drewN ?_ _ | refine Bel.drew ?_ | refine Bel.alloc ?_ _ | refine Bel.trans ?_ (by assumption) | refine Bel.setCell ?_ (by simp; omega) _))) b3; have hS := Box.bel (Box.bel hS (by repeat (first | exact Bel.refl _ | refine Bel.drewN ?_ _ | refine Bel.drew ?_ | refine Bel.alloc ?_ _ | refine Bel.trans ?_ (by assumption) | refine Bel.setCell ?_ (by simp; omega) _))) b3; (try have hO := Box.bel (Box.bel hO (by repeat (first | exact Bel.refl _ | refine Bel.drewN ?_ _ | refine Bel.drew ?_ | refine Bel.alloc ?_ _ | refine Bel.trans ?_ (by assumption) | refine Bel.setCell ?_ (by simp; omega) _))) b3); (try have hT := Box.bel (Box.bel hT (by repeat (first | exact Bel.refl _ | refine Bel.drewN ?_ _ | refine Bel.drew ?_ | refine Bel.alloc ?_ _ | refine Bel.trans ?_ (by assumption) | refine Bel.setCell ?_ (by simp; omega) _))) b3); (try have hU := Box.bel (Box.bel hU (by repeat (first | exact Bel.refl _ | refine Bel.drewN ?_ _ | refine Bel.drew ?_ | refine Bel.alloc ?_ _ | refine Bel.trans ?_ (by assumption) | refine Bel.setCell ?_ (by simp; omega) _))) b3); (try have hV := Box.bel (Box.bel hV (by repeat (first | exact Bel.refl _ | refine Bel.drewN ?_ _ | refine Bel.drew ?_ | refine Bel.alloc ?_ _ | refine Bel.trans ?_ (by assumption) | refine Bel.setCell ?_ (by simp; omega) _))) b3); (try have i1 := IntSl.bel (IntSl.bel i1 (by repeat (first | exact Bel.refl _ | refine Bel.drewN ?_ _ | refine Bel.drew ?_ | refine Bel.alloc ?_ _ | refine Bel.trans ?_ (by assumption) | refine Bel.setCell ?_ (by simp; omega) _))) b3); (try have i3 := IntSl.bel (IntSl.bel i3 (by repeat (first | exact Bel.refl _ | refine Bel.drewN ?_ _ | refine Bel.drew ?_ | refine Bel.alloc ?_ _ | refine Bel.trans ?_ (by assumption) | refine Bel.setCell ?_ (by simp; omega) _))) b3); clear b3; have hSl := hS.lt; have sc0 := hS.cell 0 _ rfl; have sc1 := hS.cell 1 _ rfl; have sc2 := hS.cell 2 _ rfl; have sc3 := hS.cell 3 _ rfl; have sc4 := hS.cell 4 _ rfl
        have hO := hOq
        clear hOq
        have i3 := o3.ints
        clear o3
        have hT := Box.new w3 23 [.int .i64 0, .string ⟨#[]⟩, .int .i64 0, .bool false, .bool false]
        go_wp2_with fail
        refine (isEncoding_to n _ HI.out _).mono ?_
        rintro e w' ⟨rfl, rfl⟩
        go_wp2_with fail
        refine (checkState_any e0 r sg fr st _ HQ.out _).mono ?_
        rintro e w4 ⟨rfl, b4⟩
        have hO := Box.bel (Box.bel hO (by repeat (first | exact Bel.refl _ | refine Bel.drewN ?_ _ | refine Bel.drew ?_ | refine Bel.alloc ?_ _ | refine Bel.trans ?_ (by assumption) | refine Bel.setCell ?_ (by simp; omega) _))) b4
        have hT := Box.bel hT b4
        have hb := Bel.trans (Bel.trans hb (by repeat (first | exact Bel.refl _ | refine Bel.drewN ?_ _ | refine Bel.drew ?_ | refine Bel.alloc ?_ _ | refine Bel.trans ?_ (by assumption) | refine Bel.setCell ?_ (by simp; omega) _))) b4
        have hS := Box.bel (Box.bel hS (by repeat (first | exact Bel.refl _ | refine Bel.drewN ?_ _ | refine Bel.drew ?_ | refine Bel.alloc ?_ _ | refine Bel.trans ?_ (by assumption) | refine Bel.setCell ?_ (by simp; omega) _))) b4
        have i1 := IntSl.bel (IntSl.bel i1 (by repeat (first | exact Bel.refl _ | refine Bel.drewN ?_ _ | refine Bel.drew ?_ | refine Bel.alloc ?_ _ | refine Bel.trans ?_ (by assumption) | refine Bel.setCell ?_ (by simp; omega) _))) b4
        have i3 := IntSl.bel (IntSl.bel i3 (by repeat (first | exact Bel.refl _ | refine Bel.drewN ?_ _ | refine Bel.drew ?_ | refine Bel.alloc ?_ _ | refine Bel.trans ?_ (by assumption) | refine Bel.setCell ?_ (by simp; omega) _))) b4
        clear b4
        have sc0 := hS.cell 0 _ rfl; have sc1 := hS.cell 1 _ rfl; have sc2 := hS.cell 2 _ rfl; have sc3 := hS.cell 3 _ rfl; have sc4 := hS.cell 4 _ rfl
        go_wp2_with fail
        refine (long_to _ _ HL.out _).mono ?_
        rintro e w' ⟨rfl, rfl⟩
        go_upto_if 56 with fail
        have hP : Bel w4 ((w4.alloc (.cells #[.int .i64 0, .string ⟨#[]⟩, .int .i64 0, .bool false, .bool false] 23)).alloc (.cells #[.int .i64 0, .string ⟨#[]⟩, .int .i64 0, .bool false, .bool false] 23)) := (by repeat (first | exact Bel.refl _ | refine Bel.drewN ?_ _ | refine Bel.drew ?_ | refine Bel.alloc ?_ _ | refine Bel.trans ?_ (by assumption) | refine Bel.setCell ?_ (by simp; omega) _))
        have hU := (Box.new w4 23 [.int .i64 0, .string ⟨#[]⟩, .int .i64 0, .bool false, .bool false]).bel ((Bel.refl _).alloc (.cells #[.int .i64 0, .string ⟨#[]⟩, .int .i64 0, .bool false, .bool false] 23))
        have hV : Box ((w4.alloc (.cells #[.int .i64 0, .string ⟨#[]⟩, .int .i64 0, .bool false, .bool false] 23)).alloc (.cells #[.int .i64 0, .string ⟨#[]⟩, .int .i64 0, .bool false, .bool false] 23)) (w4.heap.size + 1) 23 [.int .i64 0, .string ⟨#[]⟩, .int .i64 0, .bool false, .bool false] := by have := Box.new (w4.alloc (.cells #[.int .i64 0, .string ⟨#[]⟩, .int .i64 0, .bool false, .bool false] 23)) 23 [.int .i64 0, .string ⟨#[]⟩, .int .i64 0, .bool false, .bool false]; simpa using this
        have hso := hS.lt
        have hoo := hO.lt
        have hto := hT.lt
        generalize ((w4.alloc (.cells #[.int .i64 0, .string ⟨#[]⟩, .int .i64 0, .bool false, .bool false] 23)).alloc (.cells #[.int .i64 0, .string ⟨#[]⟩, .int .i64 0, .bool false, .bool false] 23)) = P at *
        have hup := hU.lt
        have hvp := hV.lt
        have sb := hS.bel hP
        have sc0 := sb.cell 0 _ rfl; have sc1 := sb.cell 1 _ rfl; have sc2 := sb.cell 2 _ rfl; have sc3 := sb.cell 3 _ rfl; have sc4 := sb.cell 4 _ rfl
        have uc0 := hU.cell 0 _ rfl; have uc1 := hU.cell 1 _ rfl; have uc2 := hU.cell 2 _ rfl; have uc3 := hU.cell 3 _ rfl; have uc4 := hU.cell 4 _ rfl; have uf0 := hU.frozen 0; have uf1 := hU.frozen 1; have uf2 := hU.frozen 2; have uf3 := hU.frozen 3; have uf4 := hU.frozen 4
        have vc0 := hV.cell 0 _ rfl; have vc1 := hV.cell 1 _ rfl; have vc2 := hV.cell 2 _ rfl; have vc3 := hV.cell 3 _ rfl; have vc4 := hV.cell 4 _ rfl; have vf0 := hV.frozen 0; have vf1 := hV.frozen 1; have vf2 := hV.frozen 2; have vf3 := hV.frozen 3; have vf4 := hV.frozen 4
        go_upto_region 20 with fail
        have i1 := IntSl.bel i1 hP
        have i3 := IntSl.bel i3 hP
        have hS := hS.bel hP
        have hO := hO.bel hP
        have hT := hT.bel hP
        have hb := hb.trans hP
        have su0 := Box.up hS 0 _ rfl; have su1 := Box.up hS 1 _ rfl; have su2 := Box.up hS 2 _ rfl; have su3 := Box.up hS 3 _ rfl; have su4 := Box.up hS 4 _ rfl
        have ou0 := Box.up hO 0 _ rfl; have ou1 := Box.up hO 1 _ rfl; have ou2 := Box.up hO 2 _ rfl; have ou3 := Box.up hO 3 _ rfl; have ou4 := Box.up hO 4 _ rfl
        have tu0 := Box.up hT 0 _ rfl; have tu1 := Box.up hT 1 _ rfl; have tu2 := Box.up hT 2 _ rfl; have tu3 := Box.up hT 3 _ rfl; have tu4 := Box.up hT 4 _ rfl
        have uu0 := Box.up hU 0 _ rfl; have uu1 := Box.up hU 1 _ rfl; have uu2 := Box.up hU 2 _ rfl; have uu3 := Box.up hU 3 _ rfl; have uu4 := Box.up hU 4 _ rfl
        have vu0 := Box.up hV 0 _ rfl; have vu1 := Box.up hV 1 _ rfl; have vu2 := Box.up hV 2 _ rfl; have vu3 := Box.up hV 3 _ rfl; have vu4 := Box.up hV 4 _ rfl
        clear hP
        refine region_up (by kernel_rfl) (by kernel_rfl) ?_
        repeat (go_big_quiet_step ((first
          | (go_at_call 12; exact up_call _ (streamBegun_any _))
          | (go_at_call 13; exact up_call _ (check_any e0 r sg fr st _ HQ.out _))
          | (go_at_call 9; exact up_call _ (checkState_any e0 r sg fr st _ HQ.out _))
          | (go_at_call 14; (first | with_reducible exact up_call _ (intsAre_yes (.slice A1 _ c1) _ [] [] 6 _ (i1.bel (Up.b _)) (IntSl.nil_ _) rfl) | with_reducible exact up_call _ (intsAre_yes (.slice A3 _ c3) _ [] [] 2 _ (i3.bel (Up.b _)) (IntSl.nil_ _) rfl))))))
        refine wpQuiet_nil ?_
        intro _ hw'
        obtain ⟨uu, rfl⟩ := hw'
        have b9 := uu.b
        generalize uu.v = wu at *
        go_wp2_with fail
        go_ret
        exact ⟨rfl, hb.trans b9⟩
      · obtain rfl : lg = 0 := hlg.symm.trans hl0
        have hf2 : (ys, (⟨n2, l2, sg2, fr2, st2⟩ : M.St), g) = ((M.rawM ⟨e0, r.data.toList, sg, fr, st⟩ b.data.toList last).1, (M.rawM ⟨e0, r.data.toList, sg, fr, st⟩ b.data.toList last).2, 0) := by rw [← hf, M.feedE, if_pos hq, if_neg (by rw [← Lib.size_eq]; omega)]
        have hright := (M.check_right _).1 hq
        have HE0 := Lib.hid (show M.isEnc e0 = true from hright.enc)
        have hr3 : r.size ≤ 3 := by rw [Lib.size_eq]; exact hright.len
        have HRF := Lib.hid (show M.refM ⟨e0, r.data.toList, sg, fr, st⟩ b.data.toList last = (ys, ⟨n2, l2, sg2, fr2, st2⟩) by
          rw [M.ref_raw _ hright]
          simp only [Prod.mk.injEq] at hf2
          exact Prod.ext hf2.1.symm hf2.2.1.symm)
        obtain rfl : g = 0 := by simp only [Prod.mk.injEq] at hf2; exact hf2.2.2
        clear hf2 hright
        clear hf hq hlg h hl0
        go_enter Try.func3, Try.ntmps3
        have hS := Box.new w 23 [.int .i64 e0, .string r, .int .i64 sg, .bool fr, .bool st]
        have hb := Bel.refl w
        go_wp2_with fail
        refine (decE_sl n b _ _ HD.out _).mono ?_
        rintro e w1 ⟨A1, c1, rfl, o1, b1⟩
        have hb := Bel.trans (Bel.trans hb (by repeat (first | exact Bel.refl _ | refine Bel.drewN ?_ _ | refine Bel.drew ?_ | refine Bel.alloc ?_ _ | refine Bel.trans ?_ (by assumption) | refine Bel.setCell ?_ (by simp; omega) _))) b1; have hS := Box.bel (Box.bel hS (by repeat (first | exact Bel.refl _ | refine Bel.drewN ?_ _ | refine Bel.drew ?_ | refine Bel.alloc ?_ _ | refine Bel.trans ?_ (by assumption) | refine Bel.setCell ?_ (by simp; omega) _))) b1; (try have hO := Box.bel (Box.bel hO (by repeat (first | exact Bel.refl _ | refine Bel.drewN ?_ _ | refine Bel.drew ?_ | refine Bel.alloc ?_ _ | refine Bel.trans ?_ (by assumption) | refine Bel.setCell ?_ (by simp; omega) _))) b1); (try have hT := Box.bel (Box.bel hT (by repeat (first | exact Bel.refl _ | refine Bel.drewN ?_ _ | refine Bel.drew ?_ | refine Bel.alloc ?_ _ | refine Bel.trans ?_ (by assumption) | refine Bel.setCell ?_ (by simp; omega) _))) b1); (try have hU := Box.bel (Box.bel hU (by repeat (first | exact Bel.refl _ | refine Bel.drewN ?_ _ | refine Bel.drew ?_ | refine Bel.alloc ?_ _ | refine Bel.trans ?_ (by assumption) | refine Bel.setCell ?_ (by simp; omega) _))) b1); (try have hV := Box.bel (Box.bel hV (by repeat (first | exact Bel.refl _ | refine Bel.drewN ?_ _ | refine Bel.drew ?_ | refine Bel.alloc ?_ _ | refine Bel.trans ?_ (by assumption) | refine Bel.setCell ?_ (by simp; omega) _))) b1); (try have i1 := IntSl.bel (IntSl.bel i1 (by repeat (first | exact Bel.refl _ | refine Bel.drewN ?_ _ | refine Bel.drew ?_ | refine Bel.alloc ?_ _ | refine Bel.trans ?_ (by assumption) | refine Bel.setCell ?_ (by simp; omega) _))) b1); (try have i3 := IntSl.bel (IntSl.bel i3 (by repeat (first | exact Bel.refl _ | refine Bel.drewN ?_ _ | refine Bel.drew ?_ | refine Bel.alloc ?_ _ | refine Bel.trans ?_ (by assumption) | refine Bel.setCell ?_ (by simp; omega) _))) b1); clear b1; have hSl := hS.lt; have sc0 := hS.cell 0 _ rfl; have sc1 := hS.cell 1 _ rfl; have sc2 := hS.cell 2 _ rfl; have sc3 := hS.cell 3 _ rfl; have sc4 := hS.cell 4 _ rfl
        have i1 := o1.ints
        clear o1
        go_wp2_with fail
        refine (open_no n HI.out _).mono ?_
        rintro e w2 ⟨rfl, b2⟩
        have hb := Bel.trans (Bel.trans hb (by repeat (first | exact Bel.refl _ | refine Bel.drewN ?_ _ | refine Bel.drew ?_ | refine Bel.alloc ?_ _ | refine Bel.trans ?_ (by assumption) | refine Bel.setCell ?_ (by simp; omega) _))) b2; have hS := Box.bel (Box.bel hS (by repeat (first | exact Bel.refl _ | refine Bel.drewN ?_ _ | refine Bel.drew ?_ | refine Bel.alloc ?_ _ | refine Bel.trans ?_ (by assumption) | refine Bel.setCell ?_ (by simp; omega) _))) b2; (try have hO := Box.bel (Box.bel hO (by repeat (first | exact Bel.refl _ | refine Bel.drewN ?_ _ | refine Bel.drew ?_ | refine Bel.alloc ?_ _ | refine Bel.trans ?_ (by assumption) | refine Bel.setCell ?_ (by simp; omega) _))) b2); (try have hT := Box.bel (Box.bel hT (by repeat (first | exact Bel.refl _ | refine Bel.drewN ?_ _ | refine Bel.drew ?_ | refine Bel.alloc ?_ _ | refine Bel.trans ?_ (by assumption) | refine Bel.setCell ?_ (by simp; omega) _))) b2); (try have hU := Box.bel (Box.bel hU (by repeat (first | exact Bel.refl _ | refine Bel.drewN ?_ _ | refine Bel.drew ?_ | refine Bel.alloc ?_ _ | refine Bel.trans ?_ (by assumption) | refine Bel.setCell ?_ (by simp; omega) _))) b2); (try have hV := Box.bel (Box.bel hV (by repeat (first | exact Bel.refl _ | refine Bel.drewN ?_ _ | refine Bel.drew ?_ | refine Bel.alloc ?_ _ | refine Bel.trans ?_ (by assumption) | refine Bel.setCell ?_ (by simp; omega) _))) b2); (try have i1 := IntSl.bel (IntSl.bel i1 (by repeat (first | exact Bel.refl _ | refine Bel.drewN ?_ _ | refine Bel.drew ?_ | refine Bel.alloc ?_ _ | refine Bel.trans ?_ (by assumption) | refine Bel.setCell ?_ (by simp; omega) _))) b2); (try have i3 := IntSl.bel (IntSl.bel i3 (by repeat (first | exact Bel.refl _ | refine Bel.drewN ?_ _ | refine Bel.drew ?_ | refine Bel.alloc ?_ _ | refine Bel.trans ?_ (by assumption) | refine Bel.setCell ?_ (by simp; omega) _))) b2); clear b2; have hSl := hS.lt; have sc0 := hS.cell 0 _ rfl; have sc1 := hS.cell 1 _ rfl; have sc2 := hS.cell 2 _ rfl; have sc3 := hS.cell 3 _ rfl; have sc4 := hS.cell 4 _ rfl
        have hO := Box.new w2 23 [.int .i64 0, .string ⟨#[]⟩, .int .i64 0, .bool false, .bool false]
        go_wp2_with fail
        refine (feed_sl e0 r sg fr st b last _ _ _ _ _ _ _ HF.out _).mono ?_
        rintro e w3 ⟨A3, c3, rfl, o3, b3⟩
        have hO := Box.bel hO b3
        have hOq := hO
        clear hO
        have hb := Bel.trans (Bel.trans hb (by repeat (first | exact Bel.refl _ | refine Bel.drewN ?_ _ | refine Bel.drew ?_ | refine Bel.alloc ?_ _ | refine Bel.trans ?_ (by assumption) | refine Bel.setCell ?_ (by simp; omega) _))) b3; have hS := Box.bel (Box.bel hS (by repeat (first | exact Bel.refl _ | refine Bel.drewN ?_ _ | refine Bel.drew ?_ | refine Bel.alloc ?_ _ | refine Bel.trans ?_ (by assumption) | refine Bel.setCell ?_ (by simp; omega) _))) b3; (try have hO := Box.bel (Box.bel hO (by repeat (first | exact Bel.refl _ | refine Bel.drewN ?_ _ | refine Bel.drew ?_ | refine Bel.alloc ?_ _ | refine Bel.trans ?_ (by assumption) | refine Bel.setCell ?_ (by simp; omega) _))) b3); (try have hT := Box.bel (Box.bel hT (by repeat (first | exact Bel.refl _ | refine Bel.drewN ?_ _ | refine Bel.drew ?_ | refine Bel.alloc ?_ _ | refine Bel.trans ?_ (by assumption) | refine Bel.setCell ?_ (by simp; omega) _))) b3); (try have hU := Box.bel (Box.bel hU (by repeat (first | exact Bel.refl _ | refine Bel.drewN ?_ _ | refine Bel.drew ?_ | refine Bel.alloc ?_ _ | refine Bel.trans ?_ (by assumption) | refine Bel.setCell ?_ (by simp; omega) _))) b3); (try have hV := Box.bel (Box.bel hV (by repeat (first | exact Bel.refl _ | refine Bel.drewN ?_ _ | refine Bel.drew ?_ | refine Bel.alloc ?_ _ | refine Bel.trans ?_ (by assumption) | refine Bel.setCell ?_ (by simp; omega) _))) b3); (try have i1 := IntSl.bel (IntSl.bel i1 (by repeat (first | exact Bel.refl _ | refine Bel.drewN ?_ _ | refine Bel.drew ?_ | refine Bel.alloc ?_ _ | refine Bel.trans ?_ (by assumption) | refine Bel.setCell ?_ (by simp; omega) _))) b3); (try have i3 := IntSl.bel (IntSl.bel i3 (by repeat (first | exact Bel.refl _ | refine Bel.drewN ?_ _ | refine Bel.drew ?_ | refine Bel.alloc ?_ _ | refine Bel.trans ?_ (by assumption) | refine Bel.setCell ?_ (by simp; omega) _))) b3); clear b3; have hSl := hS.lt; have sc0 := hS.cell 0 _ rfl; have sc1 := hS.cell 1 _ rfl; have sc2 := hS.cell 2 _ rfl; have sc3 := hS.cell 3 _ rfl; have sc4 := hS.cell 4 _ rfl
        have hO := hOq
        clear hOq
        have i3 := o3.ints
        clear o3
        have hT := Box.new w3 23 [.int .i64 n2, .string ⟨l2.toArray⟩, .int .i64 sg2, .bool fr2, .bool st2]
        go_wp2_with fail
        refine (isEncoding_to n _ HI.out _).mono ?_
        rintro e w' ⟨rfl, rfl⟩
        go_wp2_with fail
        refine (checkState_any e0 r sg fr st _ HQ.out _).mono ?_
        rintro e w4 ⟨rfl, b4⟩
        have hO := Box.bel (Box.bel hO (by repeat (first | exact Bel.refl _ | refine Bel.drewN ?_ _ | refine Bel.drew ?_ | refine Bel.alloc ?_ _ | refine Bel.trans ?_ (by assumption) | refine Bel.setCell ?_ (by simp; omega) _))) b4
        have hT := Box.bel hT b4
        have hb := Bel.trans (Bel.trans hb (by repeat (first | exact Bel.refl _ | refine Bel.drewN ?_ _ | refine Bel.drew ?_ | refine Bel.alloc ?_ _ | refine Bel.trans ?_ (by assumption) | refine Bel.setCell ?_ (by simp; omega) _))) b4
        have hS := Box.bel (Box.bel hS (by repeat (first | exact Bel.refl _ | refine Bel.drewN ?_ _ | refine Bel.drew ?_ | refine Bel.alloc ?_ _ | refine Bel.trans ?_ (by assumption) | refine Bel.setCell ?_ (by simp; omega) _))) b4
        have i1 := IntSl.bel (IntSl.bel i1 (by repeat (first | exact Bel.refl _ | refine Bel.drewN ?_ _ | refine Bel.drew ?_ | refine Bel.alloc ?_ _ | refine Bel.trans ?_ (by assumption) | refine Bel.setCell ?_ (by simp; omega) _))) b4
        have i3 := IntSl.bel (IntSl.bel i3 (by repeat (first | exact Bel.refl _ | refine Bel.drewN ?_ _ | refine Bel.drew ?_ | refine Bel.alloc ?_ _ | refine Bel.trans ?_ (by assumption) | refine Bel.setCell ?_ (by simp; omega) _))) b4
        clear b4
        have sc0 := hS.cell 0 _ rfl; have sc1 := hS.cell 1 _ rfl; have sc2 := hS.cell 2 _ rfl; have sc3 := hS.cell 3 _ rfl; have sc4 := hS.cell 4 _ rfl
        go_wp2_with fail
        refine (long_to _ _ HL.out _).mono ?_
        rintro e w' ⟨rfl, rfl⟩
        go_upto_if 56 with fail
        have hP : Bel w4 ((w4.alloc (.cells #[.int .i64 0, .string ⟨#[]⟩, .int .i64 0, .bool false, .bool false] 23)).alloc (.cells #[.int .i64 0, .string ⟨#[]⟩, .int .i64 0, .bool false, .bool false] 23)) := (by repeat (first | exact Bel.refl _ | refine Bel.drewN ?_ _ | refine Bel.drew ?_ | refine Bel.alloc ?_ _ | refine Bel.trans ?_ (by assumption) | refine Bel.setCell ?_ (by simp; omega) _))
        have hU := (Box.new w4 23 [.int .i64 0, .string ⟨#[]⟩, .int .i64 0, .bool false, .bool false]).bel ((Bel.refl _).alloc (.cells #[.int .i64 0, .string ⟨#[]⟩, .int .i64 0, .bool false, .bool false] 23))
        have hV : Box ((w4.alloc (.cells #[.int .i64 0, .string ⟨#[]⟩, .int .i64 0, .bool false, .bool false] 23)).alloc (.cells #[.int .i64 0, .string ⟨#[]⟩, .int .i64 0, .bool false, .bool false] 23)) (w4.heap.size + 1) 23 [.int .i64 0, .string ⟨#[]⟩, .int .i64 0, .bool false, .bool false] := by have := Box.new (w4.alloc (.cells #[.int .i64 0, .string ⟨#[]⟩, .int .i64 0, .bool false, .bool false] 23)) 23 [.int .i64 0, .string ⟨#[]⟩, .int .i64 0, .bool false, .bool false]; simpa using this
        have hso := hS.lt
        have hoo := hO.lt
        have hto := hT.lt
        generalize ((w4.alloc (.cells #[.int .i64 0, .string ⟨#[]⟩, .int .i64 0, .bool false, .bool false] 23)).alloc (.cells #[.int .i64 0, .string ⟨#[]⟩, .int .i64 0, .bool false, .bool false] 23)) = P at *
        have hup := hU.lt
        have hvp := hV.lt
        have sb := hS.bel hP
        have sc0 := sb.cell 0 _ rfl; have sc1 := sb.cell 1 _ rfl; have sc2 := sb.cell 2 _ rfl; have sc3 := sb.cell 3 _ rfl; have sc4 := sb.cell 4 _ rfl
        have uc0 := hU.cell 0 _ rfl; have uc1 := hU.cell 1 _ rfl; have uc2 := hU.cell 2 _ rfl; have uc3 := hU.cell 3 _ rfl; have uc4 := hU.cell 4 _ rfl; have uf0 := hU.frozen 0; have uf1 := hU.frozen 1; have uf2 := hU.frozen 2; have uf3 := hU.frozen 3; have uf4 := hU.frozen 4
        have vc0 := hV.cell 0 _ rfl; have vc1 := hV.cell 1 _ rfl; have vc2 := hV.cell 2 _ rfl; have vc3 := hV.cell 3 _ rfl; have vc4 := hV.cell 4 _ rfl; have vf0 := hV.frozen 0; have vf1 := hV.frozen 1; have vf2 := hV.frozen 2; have vf3 := hV.frozen 3; have vf4 := hV.frozen 4
        go_wp2_with fail
        refine (feedOf_sl e0 HE0.out r sg fr st b last (by omega) ys n2 l2 sg2 fr2 st2 HRF.out _).mono ?_
        rintro e w6 ⟨v6, rfl, o6, b6⟩
        have hv6 := hvp
        have hP := hP.trans b6; have hU := hU.bel b6; have hV := hV.bel b6; have sb := hS.bel hP; clear b6; have sc0 := sb.cell 0 _ rfl; have sc1 := sb.cell 1 _ rfl; have sc2 := sb.cell 2 _ rfl; have sc3 := sb.cell 3 _ rfl; have sc4 := sb.cell 4 _ rfl; have uc0 := hU.cell 0 _ rfl; have uc1 := hU.cell 1 _ rfl; have uc2 := hU.cell 2 _ rfl; have uc3 := hU.cell 3 _ rfl; have uc4 := hU.cell 4 _ rfl; have uf0 := hU.frozen 0; have uf1 := hU.frozen 1; have uf2 := hU.frozen 2; have uf3 := hU.frozen 3; have uf4 := hU.frozen 4; have vc0 := hV.cell 0 _ rfl; have vc1 := hV.cell 1 _ rfl; have vc2 := hV.cell 2 _ rfl; have vc3 := hV.cell 3 _ rfl; have vc4 := hV.cell 4 _ rfl; have vf0 := hV.frozen 0; have vf1 := hV.frozen 1; have vf2 := hV.frozen 2; have vf3 := hV.frozen 3; have vf4 := hV.frozen 4
        go_upto_region 20 with fail
        have hU := ((((hU.far (p := ⟨w4.heap.size + 1, 0, none⟩) (by simp) (.int .i64 n2)).far (p := ⟨w4.heap.size + 1, 1, none⟩) (by simp) (.string ⟨l2.toArray⟩)).far (p := ⟨w4.heap.size + 1, 2, none⟩) (by simp) (.int .i64 sg2)).far (p := ⟨w4.heap.size + 1, 3, none⟩) (by simp) (.bool fr2)).far (p := ⟨w4.heap.size + 1, 4, none⟩) (by simp) (.bool st2)
        have hV := ((((hV.set 0 (.int .i64 n2)).set 1 (.string ⟨l2.toArray⟩)).set 2 (.int .i64 sg2)).set 3 (.bool fr2)).set 4 (.bool st2)
        have hP := ((((hP.setCell (p := ⟨w4.heap.size + 1, 0, none⟩) (Nat.le_succ _) (.int .i64 n2)).setCell (p := ⟨w4.heap.size + 1, 1, none⟩) (Nat.le_succ _) (.string ⟨l2.toArray⟩)).setCell (p := ⟨w4.heap.size + 1, 2, none⟩) (Nat.le_succ _) (.int .i64 sg2)).setCell (p := ⟨w4.heap.size + 1, 3, none⟩) (Nat.le_succ _) (.bool fr2)).setCell (p := ⟨w4.heap.size + 1, 4, none⟩) (Nat.le_succ _) (.bool st2)
        have i6 := (((((o6.setCell (p := ⟨w4.heap.size + 1, 0, none⟩) hv6 (.int .i64 n2)).setCell (p := ⟨w4.heap.size + 1, 1, none⟩) hv6 (.string ⟨l2.toArray⟩)).setCell (p := ⟨w4.heap.size + 1, 2, none⟩) hv6 (.int .i64 sg2)).setCell (p := ⟨w4.heap.size + 1, 3, none⟩) hv6 (.bool fr2)).setCell (p := ⟨w4.heap.size + 1, 4, none⟩) hv6 (.bool st2)).ints
        have i1 := IntSl.bel i1 hP
        have i3 := IntSl.bel i3 hP
        have hS := hS.bel hP
        have hO := hO.bel hP
        have hT := hT.bel hP
        have hb := hb.trans hP
        have su0 := Box.up hS 0 _ rfl; have su1 := Box.up hS 1 _ rfl; have su2 := Box.up hS 2 _ rfl; have su3 := Box.up hS 3 _ rfl; have su4 := Box.up hS 4 _ rfl
        have ou0 := Box.up hO 0 _ rfl; have ou1 := Box.up hO 1 _ rfl; have ou2 := Box.up hO 2 _ rfl; have ou3 := Box.up hO 3 _ rfl; have ou4 := Box.up hO 4 _ rfl
        have tu0 := Box.up hT 0 _ rfl; have tu1 := Box.up hT 1 _ rfl; have tu2 := Box.up hT 2 _ rfl; have tu3 := Box.up hT 3 _ rfl; have tu4 := Box.up hT 4 _ rfl
        have uu0 := Box.up hU 0 _ rfl; have uu1 := Box.up hU 1 _ rfl; have uu2 := Box.up hU 2 _ rfl; have uu3 := Box.up hU 3 _ rfl; have uu4 := Box.up hU 4 _ rfl
        have vu0 := Box.up hV 0 _ rfl; have vu1 := Box.up hV 1 _ rfl; have vu2 := Box.up hV 2 _ rfl; have vu3 := Box.up hV 3 _ rfl; have vu4 := Box.up hV 4 _ rfl
        clear hP
        refine region_up (by kernel_rfl) (by kernel_rfl) ?_
        repeat (go_big_quiet_step ((first
          | (go_at_call 12; exact up_call _ (streamBegun_any _))
          | (go_at_call 13; exact up_call _ (check_any e0 r sg fr st _ HQ.out _))
          | (go_at_call 9; exact up_call _ (checkState_any e0 r sg fr st _ HQ.out _))
          | (go_at_call 14; (first | with_reducible exact up_call _ (intsAre_yes (.slice A1 _ c1) _ [] [] 6 _ (i1.bel (Up.b _)) (IntSl.nil_ _) rfl) | with_reducible exact up_call _ (intsAre_yes (.slice A3 _ c3) _ ys ys 0 _ (i3.bel (Up.b _)) (i6.bel (Up.b _)) (by rw [if_pos rfl])))))))
        refine wpQuiet_nil ?_
        intro _ hw'
        obtain ⟨uu, rfl⟩ := hw'
        have b9 := uu.b
        generalize uu.v = wu at *
        go_wp2_with fail
        go_ret
        exact ⟨rfl, hb.trans b9⟩
    · skip
      have hf2 : (ys, (⟨n2, l2, sg2, fr2, st2⟩ : M.St), g) = ([], ⟨0, [], 0, false, false⟩, q) := by rw [← hf, M.feedE, hq, if_neg hq0]
      simp only [Prod.mk.injEq, M.St.mk.injEq] at hf2
      obtain ⟨rfl, ⟨rfl, rfl, rfl, rfl, rfl⟩, rfl⟩ := hf2
      have e1 : (g == 0) = false := by simpa using hq0
      have e2 : (g != 0) = true := by simpa using hq0
      clear hf hq hlg h hq0
      go_enter Try.func3, Try.ntmps3
      have hS := Box.new w 23 [.int .i64 e0, .string r, .int .i64 sg, .bool fr, .bool st]
      have hb := Bel.refl w
      go_wp2_with fail
      refine (decE_sl n b _ _ HD.out _).mono ?_
      rintro e w1 ⟨A1, c1, rfl, o1, b1⟩
      have hb := Bel.trans (Bel.trans hb (by repeat (first | exact Bel.refl _ | refine Bel.drewN ?_ _ | refine Bel.drew ?_ | refine Bel.alloc ?_ _ | refine Bel.trans ?_ (by assumption) | refine Bel.setCell ?_ (by simp; omega) _))) b1; have hS := Box.bel (Box.bel hS (by repeat (first | exact Bel.refl _ | refine Bel.drewN ?_ _ | refine Bel.drew ?_ | refine Bel.alloc ?_ _ | refine Bel.trans ?_ (by assumption) | refine Bel.setCell ?_ (by simp; omega) _))) b1; (try have hO := Box.bel (Box.bel hO (by repeat (first | exact Bel.refl _ | refine Bel.drewN ?_ _ | refine Bel.drew ?_ | refine Bel.alloc ?_ _ | refine Bel.trans ?_ (by assumption) | refine Bel.setCell ?_ (by simp; omega) _))) b1); (try have hT := Box.bel (Box.bel hT (by repeat (first | exact Bel.refl _ | refine Bel.drewN ?_ _ | refine Bel.drew ?_ | refine Bel.alloc ?_ _ | refine Bel.trans ?_ (by assumption) | refine Bel.setCell ?_ (by simp; omega) _))) b1); (try have hU := Box.bel (Box.bel hU (by repeat (first | exact Bel.refl _ | refine Bel.drewN ?_ _ | refine Bel.drew ?_ | refine Bel.alloc ?_ _ | refine Bel.trans ?_ (by assumption) | refine Bel.setCell ?_ (by simp; omega) _))) b1); (try have hV := Box.bel (Box.bel hV (by repeat (first | exact Bel.refl _ | refine Bel.drewN ?_ _ | refine Bel.drew ?_ | refine Bel.alloc ?_ _ | refine Bel.trans ?_ (by assumption) | refine Bel.setCell ?_ (by simp; omega) _))) b1); (try have i1 := IntSl.bel (IntSl.bel i1 (by repeat (first | exact Bel.refl _ | refine Bel.drewN ?_ _ | refine Bel.drew ?_ | refine Bel.alloc ?_ _ | refine Bel.trans ?_ (by assumption) | refine Bel.setCell ?_ (by simp; omega) _))) b1); (try have i3 := IntSl.bel (IntSl.bel i3 (by repeat (first | exact Bel.refl _ | refine Bel.drewN ?_ _ | refine Bel.drew ?_ | refine Bel.alloc ?_ _ | refine Bel.trans ?_ (by assumption) | refine Bel.setCell ?_ (by simp; omega) _))) b1); clear b1; have hSl := hS.lt; have sc0 := hS.cell 0 _ rfl; have sc1 := hS.cell 1 _ rfl; have sc2 := hS.cell 2 _ rfl; have sc3 := hS.cell 3 _ rfl; have sc4 := hS.cell 4 _ rfl
      have i1 := o1.ints
      clear o1
      go_wp2_with fail
      refine (open_no n HI.out _).mono ?_
      rintro e w2 ⟨rfl, b2⟩
      have hb := Bel.trans (Bel.trans hb (by repeat (first | exact Bel.refl _ | refine Bel.drewN ?_ _ | refine Bel.drew ?_ | refine Bel.alloc ?_ _ | refine Bel.trans ?_ (by assumption) | refine Bel.setCell ?_ (by simp; omega) _))) b2; have hS := Box.bel (Box.bel hS (by repeat (first | exact Bel.refl _ | refine Bel.drewN ?_ _ | refine Bel.drew ?_ | refine Bel.alloc ?_ _ | refine Bel.trans ?_ (by assumption) | refine Bel.setCell ?_ (by simp; omega) _))) b2; (try have hO := Box.bel (Box.bel hO (by repeat (first | exact Bel.refl _ | refine Bel.drewN ?_ _ | refine Bel.drew ?_ | refine Bel.alloc ?_ _ | refine Bel.trans ?_ (by assumption) | refine Bel.setCell ?_ (by simp; omega) _))) b2); (try have hT := Box.bel (Box.bel hT (by repeat (first | exact Bel.refl _ | refine Bel.drewN ?_ _ | refine Bel.drew ?_ | refine Bel.alloc ?_ _ | refine Bel.trans ?_ (by assumption) | refine Bel.setCell ?_ (by simp; omega) _))) b2); (try have hU := Box.bel (Box.bel hU (by repeat (first | exact Bel.refl _ | refine Bel.drewN ?_ _ | refine Bel.drew ?_ | refine Bel.alloc ?_ _ | refine Bel.trans ?_ (by assumption) | refine Bel.setCell ?_ (by simp; omega) _))) b2); (try have hV := Box.bel (Box.bel hV (by repeat (first | exact Bel.refl _ | refine Bel.drewN ?_ _ | refine Bel.drew ?_ | refine Bel.alloc ?_ _ | refine Bel.trans ?_ (by assumption) | refine Bel.setCell ?_ (by simp; omega) _))) b2); (try have i1 := IntSl.bel (IntSl.bel i1 (by repeat (first | exact Bel.refl _ | refine Bel.drewN ?_ _ | refine Bel.drew ?_ | refine Bel.alloc ?_ _ | refine Bel.trans ?_ (by assumption) | refine Bel.setCell ?_ (by simp; omega) _))) b2); (try have i3 := IntSl.bel (IntSl.bel i3 (by repeat (first | exact Bel.refl _ | refine Bel.drewN ?_ _ | refine Bel.drew ?_ | refine Bel.alloc ?_ _ | refine Bel.trans ?_ (by assumption) | refine Bel.setCell ?_ (by simp; omega) _))) b2); clear b2; have hSl := hS.lt; have sc0 := hS.cell 0 _ rfl; have sc1 := hS.cell 1 _ rfl; have sc2 := hS.cell 2 _ rfl; have sc3 := hS.cell 3 _ rfl; have sc4 := hS.cell 4 _ rfl
      have hO := Box.new w2 23 [.int .i64 0, .string ⟨#[]⟩, .int .i64 0, .bool false, .bool false]
      go_wp2_with fail
      refine (feed_sl e0 r sg fr st b last _ _ _ _ _ _ _ HF.out _).mono ?_
      rintro e w3 ⟨A3, c3, rfl, o3, b3⟩
      have hO := Box.bel hO b3
      have hOq := hO
      clear hO
      have hb := Bel.trans (Bel.trans hb (by repeat (first | exact Bel.refl _ | refine Bel.drewN ?_ _ | refine Bel.drew ?_ | refine Bel.alloc ?_ _ | refine Bel.trans ?_ (by assumption) | refine Bel.setCell ?_ (by simp; omega) _))) b3; have hS := Box.bel (Box.bel hS (by repeat (first | exact Bel.refl _ | refine Bel.drewN ?_ _ | refine Bel.drew ?_ | refine Bel.alloc ?_ _ | refine Bel.trans ?_ (by assumption) | refine Bel.setCell ?_ (by simp; omega) _))) b3; (try have hO := Box.bel (Box.bel hO (by repeat (first | exact Bel.refl _ | refine Bel.drewN ?_ _ | refine Bel.drew ?_ | refine Bel.alloc ?_ _ | refine Bel.trans ?_ (by assumption) | refine Bel.setCell ?_ (by simp; omega) _))) b3); (try have hT := Box.bel (Box.bel hT (by repeat (first | exact Bel.refl _ | refine Bel.drewN ?_ _ | refine Bel.drew ?_ | refine Bel.alloc ?_ _ | refine Bel.trans ?_ (by assumption) | refine Bel.setCell ?_ (by simp; omega) _))) b3); (try have hU := Box.bel (Box.bel hU (by repeat (first | exact Bel.refl _ | refine Bel.drewN ?_ _ | refine Bel.drew ?_ | refine Bel.alloc ?_ _ | refine Bel.trans ?_ (by assumption) | refine Bel.setCell ?_ (by simp; omega) _))) b3); (try have hV := Box.bel (Box.bel hV (by repeat (first | exact Bel.refl _ | refine Bel.drewN ?_ _ | refine Bel.drew ?_ | refine Bel.alloc ?_ _ | refine Bel.trans ?_ (by assumption) | refine Bel.setCell ?_ (by simp; omega) _))) b3); (try have i1 := IntSl.bel (IntSl.bel i1 (by repeat (first | exact Bel.refl _ | refine Bel.drewN ?_ _ | refine Bel.drew ?_ | refine Bel.alloc ?_ _ | refine Bel.trans ?_ (by assumption) | refine Bel.setCell ?_ (by simp; omega) _))) b3); (try have i3 := IntSl.bel (IntSl.bel i3 (by repeat (first | exact Bel.refl _ | refine Bel.drewN ?_ _ | refine Bel.drew ?_ | refine Bel.alloc ?_ _ | refine Bel.trans ?_ (by assumption) | refine Bel.setCell ?_ (by simp; omega) _))) b3); clear b3; have hSl := hS.lt; have sc0 := hS.cell 0 _ rfl; have sc1 := hS.cell 1 _ rfl; have sc2 := hS.cell 2 _ rfl; have sc3 := hS.cell 3 _ rfl; have sc4 := hS.cell 4 _ rfl
      have hO := hOq
      clear hOq
      have i3 := o3.ints
      clear o3
      have hT := Box.new w3 23 [.int .i64 0, .string ⟨#[]⟩, .int .i64 0, .bool false, .bool false]
      go_wp2_with fail
      refine (isEncoding_to n _ HI.out _).mono ?_
      rintro e w' ⟨rfl, rfl⟩
      go_wp2_with fail
      refine (checkState_any e0 r sg fr st _ HQ.out _).mono ?_
      rintro e w4 ⟨rfl, b4⟩
      have hO := Box.bel (Box.bel hO (by repeat (first | exact Bel.refl _ | refine Bel.drewN ?_ _ | refine Bel.drew ?_ | refine Bel.alloc ?_ _ | refine Bel.trans ?_ (by assumption) | refine Bel.setCell ?_ (by simp; omega) _))) b4
      have hT := Box.bel hT b4
      have hb := Bel.trans (Bel.trans hb (by repeat (first | exact Bel.refl _ | refine Bel.drewN ?_ _ | refine Bel.drew ?_ | refine Bel.alloc ?_ _ | refine Bel.trans ?_ (by assumption) | refine Bel.setCell ?_ (by simp; omega) _))) b4
      have hS := Box.bel (Box.bel hS (by repeat (first | exact Bel.refl _ | refine Bel.drewN ?_ _ | refine Bel.drew ?_ | refine Bel.alloc ?_ _ | refine Bel.trans ?_ (by assumption) | refine Bel.setCell ?_ (by simp; omega) _))) b4
      have i1 := IntSl.bel (IntSl.bel i1 (by repeat (first | exact Bel.refl _ | refine Bel.drewN ?_ _ | refine Bel.drew ?_ | refine Bel.alloc ?_ _ | refine Bel.trans ?_ (by assumption) | refine Bel.setCell ?_ (by simp; omega) _))) b4
      have i3 := IntSl.bel (IntSl.bel i3 (by repeat (first | exact Bel.refl _ | refine Bel.drewN ?_ _ | refine Bel.drew ?_ | refine Bel.alloc ?_ _ | refine Bel.trans ?_ (by assumption) | refine Bel.setCell ?_ (by simp; omega) _))) b4
      clear b4
      have sc0 := hS.cell 0 _ rfl; have sc1 := hS.cell 1 _ rfl; have sc2 := hS.cell 2 _ rfl; have sc3 := hS.cell 3 _ rfl; have sc4 := hS.cell 4 _ rfl
      go_upto_if 56 with fail
      have hP : Bel w4 ((w4.alloc (.cells #[.int .i64 0, .string ⟨#[]⟩, .int .i64 0, .bool false, .bool false] 23)).alloc (.cells #[.int .i64 0, .string ⟨#[]⟩, .int .i64 0, .bool false, .bool false] 23)) := (by repeat (first | exact Bel.refl _ | refine Bel.drewN ?_ _ | refine Bel.drew ?_ | refine Bel.alloc ?_ _ | refine Bel.trans ?_ (by assumption) | refine Bel.setCell ?_ (by simp; omega) _))
      have hU := (Box.new w4 23 [.int .i64 0, .string ⟨#[]⟩, .int .i64 0, .bool false, .bool false]).bel ((Bel.refl _).alloc (.cells #[.int .i64 0, .string ⟨#[]⟩, .int .i64 0, .bool false, .bool false] 23))
      have hV : Box ((w4.alloc (.cells #[.int .i64 0, .string ⟨#[]⟩, .int .i64 0, .bool false, .bool false] 23)).alloc (.cells #[.int .i64 0, .string ⟨#[]⟩, .int .i64 0, .bool false, .bool false] 23)) (w4.heap.size + 1) 23 [.int .i64 0, .string ⟨#[]⟩, .int .i64 0, .bool false, .bool false] := by have := Box.new (w4.alloc (.cells #[.int .i64 0, .string ⟨#[]⟩, .int .i64 0, .bool false, .bool false] 23)) 23 [.int .i64 0, .string ⟨#[]⟩, .int .i64 0, .bool false, .bool false]; simpa using this
      have hso := hS.lt
      have hoo := hO.lt
      have hto := hT.lt
      generalize ((w4.alloc (.cells #[.int .i64 0, .string ⟨#[]⟩, .int .i64 0, .bool false, .bool false] 23)).alloc (.cells #[.int .i64 0, .string ⟨#[]⟩, .int .i64 0, .bool false, .bool false] 23)) = P at *
      have hup := hU.lt
      have hvp := hV.lt
      have sb := hS.bel hP
      have sc0 := sb.cell 0 _ rfl; have sc1 := sb.cell 1 _ rfl; have sc2 := sb.cell 2 _ rfl; have sc3 := sb.cell 3 _ rfl; have sc4 := sb.cell 4 _ rfl
      have uc0 := hU.cell 0 _ rfl; have uc1 := hU.cell 1 _ rfl; have uc2 := hU.cell 2 _ rfl; have uc3 := hU.cell 3 _ rfl; have uc4 := hU.cell 4 _ rfl; have uf0 := hU.frozen 0; have uf1 := hU.frozen 1; have uf2 := hU.frozen 2; have uf3 := hU.frozen 3; have uf4 := hU.frozen 4
      have vc0 := hV.cell 0 _ rfl; have vc1 := hV.cell 1 _ rfl; have vc2 := hV.cell 2 _ rfl; have vc3 := hV.cell 3 _ rfl; have vc4 := hV.cell 4 _ rfl; have vf0 := hV.frozen 0; have vf1 := hV.frozen 1; have vf2 := hV.frozen 2; have vf3 := hV.frozen 3; have vf4 := hV.frozen 4
      go_upto_region 20 with fail
      have i1 := IntSl.bel i1 hP
      have i3 := IntSl.bel i3 hP
      have hS := hS.bel hP
      have hO := hO.bel hP
      have hT := hT.bel hP
      have hb := hb.trans hP
      have su0 := Box.up hS 0 _ rfl; have su1 := Box.up hS 1 _ rfl; have su2 := Box.up hS 2 _ rfl; have su3 := Box.up hS 3 _ rfl; have su4 := Box.up hS 4 _ rfl
      have ou0 := Box.up hO 0 _ rfl; have ou1 := Box.up hO 1 _ rfl; have ou2 := Box.up hO 2 _ rfl; have ou3 := Box.up hO 3 _ rfl; have ou4 := Box.up hO 4 _ rfl
      have tu0 := Box.up hT 0 _ rfl; have tu1 := Box.up hT 1 _ rfl; have tu2 := Box.up hT 2 _ rfl; have tu3 := Box.up hT 3 _ rfl; have tu4 := Box.up hT 4 _ rfl
      have uu0 := Box.up hU 0 _ rfl; have uu1 := Box.up hU 1 _ rfl; have uu2 := Box.up hU 2 _ rfl; have uu3 := Box.up hU 3 _ rfl; have uu4 := Box.up hU 4 _ rfl
      have vu0 := Box.up hV 0 _ rfl; have vu1 := Box.up hV 1 _ rfl; have vu2 := Box.up hV 2 _ rfl; have vu3 := Box.up hV 3 _ rfl; have vu4 := Box.up hV 4 _ rfl
      clear hP
      refine region_up (by kernel_rfl) (by kernel_rfl) ?_
      repeat (go_big_quiet_step ((first
        | (go_at_call 12; exact up_call _ (streamBegun_any _))
        | (go_at_call 13; exact up_call _ (check_any e0 r sg fr st _ HQ.out _))
        | (go_at_call 9; exact up_call _ (checkState_any e0 r sg fr st _ HQ.out _))
        | (go_at_call 14; (first | with_reducible exact up_call _ (intsAre_yes (.slice A1 _ c1) _ [] [] 6 _ (i1.bel (Up.b _)) (IntSl.nil_ _) rfl) | with_reducible exact up_call _ (intsAre_yes (.slice A3 _ c3) _ [] [] g _ (i3.bel (Up.b _)) (IntSl.nil_ _) (by split <;> rfl)))))))
      refine wpQuiet_nil ?_
      intro _ hw'
      obtain ⟨uu, rfl⟩ := hw'
      have b9 := uu.b
      generalize uu.v = wu at *
      go_wp2_with fail
      go_ret
      exact ⟨rfl, hb.trans b9⟩
  | true =>
    have HI := Lib.hid h
    rcases long_cases b with ⟨hbl, hl2⟩ | ⟨hbl, hl0⟩
    · obtain rfl : lg = 2 := hlg.symm.trans hl2
      have HD := Lib.hid (show M.decE n b.data.toList = ([], 2) by
        have h6 : M.readyE n b.data.toList = 2 := by rw [M.readyE, if_neg (by rw [h]; decide), if_pos (by rw [← Lib.size_eq]; exact hbl)]
        rw [M.decE, h6, if_neg (by decide)])
      by_cases hq0 : q = 0
      · subst hq0
        have hf2 : (ys, (⟨n2, l2, sg2, fr2, st2⟩ : M.St), g) = ([], ⟨0, [], 0, false, false⟩, 2) := by rw [← hf, M.feedE, hq, if_pos rfl, if_pos (by rw [← Lib.size_eq]; exact hbl)]
        simp only [Prod.mk.injEq, M.St.mk.injEq] at hf2
        obtain ⟨rfl, ⟨rfl, rfl, rfl, rfl, rfl⟩, rfl⟩ := hf2
        clear hf hq hlg h hl2 hbl
        go_enter Try.func3, Try.ntmps3
        have hS := Box.new w 23 [.int .i64 e0, .string r, .int .i64 sg, .bool fr, .bool st]
        have hb := Bel.refl w
        go_wp2_with fail
        refine (decE_sl n b _ _ HD.out _).mono ?_
        rintro e w1 ⟨A1, c1, rfl, o1, b1⟩
        have hb := Bel.trans (Bel.trans hb (by repeat (first | exact Bel.refl _ | refine Bel.drewN ?_ _ | refine Bel.drew ?_ | refine Bel.alloc ?_ _ | refine Bel.trans ?_ (by assumption) | refine Bel.setCell ?_ (by simp; omega) _))) b1; have hS := Box.bel (Box.bel hS (by repeat (first | exact Bel.refl _ | refine Bel.drewN ?_ _ | refine Bel.drew ?_ | refine Bel.alloc ?_ _ | refine Bel.trans ?_ (by assumption) | refine Bel.setCell ?_ (by simp; omega) _))) b1; (try have hO := Box.bel (Box.bel hO (by repeat (first | exact Bel.refl _ | refine Bel.drewN ?_ _ | refine Bel.drew ?_ | refine Bel.alloc ?_ _ | refine Bel.trans ?_ (by assumption) | refine Bel.setCell ?_ (by simp; omega) _))) b1); (try have hT := Box.bel (Box.bel hT (by repeat (first | exact Bel.refl _ | refine Bel.drewN ?_ _ | refine Bel.drew ?_ | refine Bel.alloc ?_ _ | refine Bel.trans ?_ (by assumption) | refine Bel.setCell ?_ (by simp; omega) _))) b1); (try have hU := Box.bel (Box.bel hU (by repeat (first | exact Bel.refl _ | refine Bel.drewN ?_ _ | refine Bel.drew ?_ | refine Bel.alloc ?_ _ | refine Bel.trans ?_ (by assumption) | refine Bel.setCell ?_ (by simp; omega) _))) b1); (try have hV := Box.bel (Box.bel hV (by repeat (first | exact Bel.refl _ | refine Bel.drewN ?_ _ | refine Bel.drew ?_ | refine Bel.alloc ?_ _ | refine Bel.trans ?_ (by assumption) | refine Bel.setCell ?_ (by simp; omega) _))) b1); (try have i1 := IntSl.bel (IntSl.bel i1 (by repeat (first | exact Bel.refl _ | refine Bel.drewN ?_ _ | refine Bel.drew ?_ | refine Bel.alloc ?_ _ | refine Bel.trans ?_ (by assumption) | refine Bel.setCell ?_ (by simp; omega) _))) b1); (try have i3 := IntSl.bel (IntSl.bel i3 (by repeat (first | exact Bel.refl _ | refine Bel.drewN ?_ _ | refine Bel.drew ?_ | refine Bel.alloc ?_ _ | refine Bel.trans ?_ (by assumption) | refine Bel.setCell ?_ (by simp; omega) _))) b1); clear b1; have hSl := hS.lt; have sc0 := hS.cell 0 _ rfl; have sc1 := hS.cell 1 _ rfl; have sc2 := hS.cell 2 _ rfl; have sc3 := hS.cell 3 _ rfl; have sc4 := hS.cell 4 _ rfl
        have i1 := o1.ints
        clear o1
        go_wp2_with fail
        refine (open_yes n HI.out _).mono ?_
        rintro e w2 ⟨rfl, b2⟩
        have hb := Bel.trans (Bel.trans hb (by repeat (first | exact Bel.refl _ | refine Bel.drewN ?_ _ | refine Bel.drew ?_ | refine Bel.alloc ?_ _ | refine Bel.trans ?_ (by assumption) | refine Bel.setCell ?_ (by simp; omega) _))) b2; have hS := Box.bel (Box.bel hS (by repeat (first | exact Bel.refl _ | refine Bel.drewN ?_ _ | refine Bel.drew ?_ | refine Bel.alloc ?_ _ | refine Bel.trans ?_ (by assumption) | refine Bel.setCell ?_ (by simp; omega) _))) b2; (try have hO := Box.bel (Box.bel hO (by repeat (first | exact Bel.refl _ | refine Bel.drewN ?_ _ | refine Bel.drew ?_ | refine Bel.alloc ?_ _ | refine Bel.trans ?_ (by assumption) | refine Bel.setCell ?_ (by simp; omega) _))) b2); (try have hT := Box.bel (Box.bel hT (by repeat (first | exact Bel.refl _ | refine Bel.drewN ?_ _ | refine Bel.drew ?_ | refine Bel.alloc ?_ _ | refine Bel.trans ?_ (by assumption) | refine Bel.setCell ?_ (by simp; omega) _))) b2); (try have hU := Box.bel (Box.bel hU (by repeat (first | exact Bel.refl _ | refine Bel.drewN ?_ _ | refine Bel.drew ?_ | refine Bel.alloc ?_ _ | refine Bel.trans ?_ (by assumption) | refine Bel.setCell ?_ (by simp; omega) _))) b2); (try have hV := Box.bel (Box.bel hV (by repeat (first | exact Bel.refl _ | refine Bel.drewN ?_ _ | refine Bel.drew ?_ | refine Bel.alloc ?_ _ | refine Bel.trans ?_ (by assumption) | refine Bel.setCell ?_ (by simp; omega) _))) b2); (try have i1 := IntSl.bel (IntSl.bel i1 (by repeat (first | exact Bel.refl _ | refine Bel.drewN ?_ _ | refine Bel.drew ?_ | refine Bel.alloc ?_ _ | refine Bel.trans ?_ (by assumption) | refine Bel.setCell ?_ (by simp; omega) _))) b2); (try have i3 := IntSl.bel (IntSl.bel i3 (by repeat (first | exact Bel.refl _ | refine Bel.drewN ?_ _ | refine Bel.drew ?_ | refine Bel.alloc ?_ _ | refine Bel.trans ?_ (by assumption) | refine Bel.setCell ?_ (by simp; omega) _))) b2); clear b2; have hSl := hS.lt; have sc0 := hS.cell 0 _ rfl; have sc1 := hS.cell 1 _ rfl; have sc2 := hS.cell 2 _ rfl; have sc3 := hS.cell 3 _ rfl; have sc4 := hS.cell 4 _ rfl
        have hO := Box.new w2 23 [.int .i64 n, .string ⟨#[]⟩, .int .i64 0, .bool false, .bool false]
        go_wp2_with fail
        refine (feed_sl e0 r sg fr st b last _ _ _ _ _ _ _ HF.out _).mono ?_
        rintro e w3 ⟨A3, c3, rfl, o3, b3⟩
        have hO := Box.bel hO b3
        have hOq := hO
        clear hO
        have hb := Bel.trans (Bel.trans hb (by repeat (first | exact Bel.refl _ | refine Bel.drewN ?_ _ | refine Bel.drew ?_ | refine Bel.alloc ?_ _ | refine Bel.trans ?_ (by assumption) | refine Bel.setCell ?_ (by simp; omega) _))) b3; have hS := Box.bel (Box.bel hS (by repeat (first | exact Bel.refl _ | refine Bel.drewN ?_ _ | refine Bel.drew ?_ | refine Bel.alloc ?_ _ | refine Bel.trans ?_ (by assumption) | refine Bel.setCell ?_ (by simp; omega) _))) b3; (try have hO := Box.bel (Box.bel hO (by repeat (first | exact Bel.refl _ | refine Bel.drewN ?_ _ | refine Bel.drew ?_ | refine Bel.alloc ?_ _ | refine Bel.trans ?_ (by assumption) | refine Bel.setCell ?_ (by simp; omega) _))) b3); (try have hT := Box.bel (Box.bel hT (by repeat (first | exact Bel.refl _ | refine Bel.drewN ?_ _ | refine Bel.drew ?_ | refine Bel.alloc ?_ _ | refine Bel.trans ?_ (by assumption) | refine Bel.setCell ?_ (by simp; omega) _))) b3); (try have hU := Box.bel (Box.bel hU (by repeat (first | exact Bel.refl _ | refine Bel.drewN ?_ _ | refine Bel.drew ?_ | refine Bel.alloc ?_ _ | refine Bel.trans ?_ (by assumption) | refine Bel.setCell ?_ (by simp; omega) _))) b3); (try have hV := Box.bel (Box.bel hV (by repeat (first | exact Bel.refl _ | refine Bel.drewN ?_ _ | refine Bel.drew ?_ | refine Bel.alloc ?_ _ | refine Bel.trans ?_ (by assumption) | refine Bel.setCell ?_ (by simp; omega) _))) b3); (try have i1 := IntSl.bel (IntSl.bel i1 (by repeat (first | exact Bel.refl _ | refine Bel.drewN ?_ _ | refine Bel.drew ?_ | refine Bel.alloc ?_ _ | refine Bel.trans ?_ (by assumption) | refine Bel.setCell ?_ (by simp; omega) _))) b3); (try have i3 := IntSl.bel (IntSl.bel i3 (by repeat (first | exact Bel.refl _ | refine Bel.drewN ?_ _ | refine Bel.drew ?_ | refine Bel.alloc ?_ _ | refine Bel.trans ?_ (by assumption) | refine Bel.setCell ?_ (by simp; omega) _))) b3); clear b3; have hSl := hS.lt; have sc0 := hS.cell 0 _ rfl; have sc1 := hS.cell 1 _ rfl; have sc2 := hS.cell 2 _ rfl; have sc3 := hS.cell 3 _ rfl; have sc4 := hS.cell 4 _ rfl
        have hO := hOq
        clear hOq
        have i3 := o3.ints
        clear o3
        have hT := Box.new w3 23 [.int .i64 0, .string ⟨#[]⟩, .int .i64 0, .bool false, .bool false]
        go_wp2_with fail
        refine (isEncoding_to n _ HI.out _).mono ?_
        rintro e w' ⟨rfl, rfl⟩
        go_wp2_with fail
        refine (long_to _ _ HL.out _).mono ?_
        rintro e w' ⟨rfl, rfl⟩
        go_wp2_with fail
        refine (checkState_any e0 r sg fr st _ HQ.out _).mono ?_
        rintro e w4 ⟨rfl, b4⟩
        have hO := Box.bel (Box.bel hO (by repeat (first | exact Bel.refl _ | refine Bel.drewN ?_ _ | refine Bel.drew ?_ | refine Bel.alloc ?_ _ | refine Bel.trans ?_ (by assumption) | refine Bel.setCell ?_ (by simp; omega) _))) b4
        have hT := Box.bel hT b4
        have hb := Bel.trans (Bel.trans hb (by repeat (first | exact Bel.refl _ | refine Bel.drewN ?_ _ | refine Bel.drew ?_ | refine Bel.alloc ?_ _ | refine Bel.trans ?_ (by assumption) | refine Bel.setCell ?_ (by simp; omega) _))) b4
        have hS := Box.bel (Box.bel hS (by repeat (first | exact Bel.refl _ | refine Bel.drewN ?_ _ | refine Bel.drew ?_ | refine Bel.alloc ?_ _ | refine Bel.trans ?_ (by assumption) | refine Bel.setCell ?_ (by simp; omega) _))) b4
        have i1 := IntSl.bel (IntSl.bel i1 (by repeat (first | exact Bel.refl _ | refine Bel.drewN ?_ _ | refine Bel.drew ?_ | refine Bel.alloc ?_ _ | refine Bel.trans ?_ (by assumption) | refine Bel.setCell ?_ (by simp; omega) _))) b4
        have i3 := IntSl.bel (IntSl.bel i3 (by repeat (first | exact Bel.refl _ | refine Bel.drewN ?_ _ | refine Bel.drew ?_ | refine Bel.alloc ?_ _ | refine Bel.trans ?_ (by assumption) | refine Bel.setCell ?_ (by simp; omega) _))) b4
        clear b4
        have sc0 := hS.cell 0 _ rfl; have sc1 := hS.cell 1 _ rfl; have sc2 := hS.cell 2 _ rfl; have sc3 := hS.cell 3 _ rfl; have sc4 := hS.cell 4 _ rfl
        go_wp2_with fail
        refine (long_to _ _ HL.out _).mono ?_
        rintro e w' ⟨rfl, rfl⟩
        go_upto_if 56 with fail
        have hP : Bel w4 ((w4.alloc (.cells #[.int .i64 0, .string ⟨#[]⟩, .int .i64 0, .bool false, .bool false] 23)).alloc (.cells #[.int .i64 0, .string ⟨#[]⟩, .int .i64 0, .bool false, .bool false] 23)) := (by repeat (first | exact Bel.refl _ | refine Bel.drewN ?_ _ | refine Bel.drew ?_ | refine Bel.alloc ?_ _ | refine Bel.trans ?_ (by assumption) | refine Bel.setCell ?_ (by simp; omega) _))
        have hU := (Box.new w4 23 [.int .i64 0, .string ⟨#[]⟩, .int .i64 0, .bool false, .bool false]).bel ((Bel.refl _).alloc (.cells #[.int .i64 0, .string ⟨#[]⟩, .int .i64 0, .bool false, .bool false] 23))
        have hV : Box ((w4.alloc (.cells #[.int .i64 0, .string ⟨#[]⟩, .int .i64 0, .bool false, .bool false] 23)).alloc (.cells #[.int .i64 0, .string ⟨#[]⟩, .int .i64 0, .bool false, .bool false] 23)) (w4.heap.size + 1) 23 [.int .i64 0, .string ⟨#[]⟩, .int .i64 0, .bool false, .bool false] := by have := Box.new (w4.alloc (.cells #[.int .i64 0, .string ⟨#[]⟩, .int .i64 0, .bool false, .bool false] 23)) 23 [.int .i64 0, .string ⟨#[]⟩, .int .i64 0, .bool false, .bool false]; simpa using this
        have hso := hS.lt
        have hoo := hO.lt
        have hto := hT.lt
        generalize ((w4.alloc (.cells #[.int .i64 0, .string ⟨#[]⟩, .int .i64 0, .bool false, .bool false] 23)).alloc (.cells #[.int .i64 0, .string ⟨#[]⟩, .int .i64 0, .bool false, .bool false] 23)) = P at *
        have hup := hU.lt
        have hvp := hV.lt
        have sb := hS.bel hP
        have sc0 := sb.cell 0 _ rfl; have sc1 := sb.cell 1 _ rfl; have sc2 := sb.cell 2 _ rfl; have sc3 := sb.cell 3 _ rfl; have sc4 := sb.cell 4 _ rfl
        have uc0 := hU.cell 0 _ rfl; have uc1 := hU.cell 1 _ rfl; have uc2 := hU.cell 2 _ rfl; have uc3 := hU.cell 3 _ rfl; have uc4 := hU.cell 4 _ rfl; have uf0 := hU.frozen 0; have uf1 := hU.frozen 1; have uf2 := hU.frozen 2; have uf3 := hU.frozen 3; have uf4 := hU.frozen 4
        have vc0 := hV.cell 0 _ rfl; have vc1 := hV.cell 1 _ rfl; have vc2 := hV.cell 2 _ rfl; have vc3 := hV.cell 3 _ rfl; have vc4 := hV.cell 4 _ rfl; have vf0 := hV.frozen 0; have vf1 := hV.frozen 1; have vf2 := hV.frozen 2; have vf3 := hV.frozen 3; have vf4 := hV.frozen 4
        go_upto_region 20 with fail
        have hU := ((((hU.set 0 (.int .i64 n)).set 1 (.string ⟨#[]⟩)).set 2 (.int .i64 0)).set 3 (.bool false)).set 4 (.bool false)
        have hV := ((((hV.far (p := ⟨w4.heap.size, 0, none⟩) (by simp) (.int .i64 n)).far (p := ⟨w4.heap.size, 1, none⟩) (by simp) (.string ⟨#[]⟩)).far (p := ⟨w4.heap.size, 2, none⟩) (by simp) (.int .i64 0)).far (p := ⟨w4.heap.size, 3, none⟩) (by simp) (.bool false)).far (p := ⟨w4.heap.size, 4, none⟩) (by simp) (.bool false)
        have hP := ((((hP.setCell (p := ⟨w4.heap.size, 0, none⟩) (Nat.le_refl _) (.int .i64 n)).setCell (p := ⟨w4.heap.size, 1, none⟩) (Nat.le_refl _) (.string ⟨#[]⟩)).setCell (p := ⟨w4.heap.size, 2, none⟩) (Nat.le_refl _) (.int .i64 0)).setCell (p := ⟨w4.heap.size, 3, none⟩) (Nat.le_refl _) (.bool false)).setCell (p := ⟨w4.heap.size, 4, none⟩) (Nat.le_refl _) (.bool false)
        have i1 := IntSl.bel i1 hP
        have i3 := IntSl.bel i3 hP
        have hS := hS.bel hP
        have hO := hO.bel hP
        have hT := hT.bel hP
        have hb := hb.trans hP
        have su0 := Box.up hS 0 _ rfl; have su1 := Box.up hS 1 _ rfl; have su2 := Box.up hS 2 _ rfl; have su3 := Box.up hS 3 _ rfl; have su4 := Box.up hS 4 _ rfl
        have ou0 := Box.up hO 0 _ rfl; have ou1 := Box.up hO 1 _ rfl; have ou2 := Box.up hO 2 _ rfl; have ou3 := Box.up hO 3 _ rfl; have ou4 := Box.up hO 4 _ rfl
        have tu0 := Box.up hT 0 _ rfl; have tu1 := Box.up hT 1 _ rfl; have tu2 := Box.up hT 2 _ rfl; have tu3 := Box.up hT 3 _ rfl; have tu4 := Box.up hT 4 _ rfl
        have uu0 := Box.up hU 0 _ rfl; have uu1 := Box.up hU 1 _ rfl; have uu2 := Box.up hU 2 _ rfl; have uu3 := Box.up hU 3 _ rfl; have uu4 := Box.up hU 4 _ rfl
        have vu0 := Box.up hV 0 _ rfl; have vu1 := Box.up hV 1 _ rfl; have vu2 := Box.up hV 2 _ rfl; have vu3 := Box.up hV 3 _ rfl; have vu4 := Box.up hV 4 _ rfl
        clear hP
        refine region_up (by kernel_rfl) (by kernel_rfl) ?_
        repeat (go_big_quiet_step ((first
          | (go_at_call 12; exact up_call _ (streamBegun_any _))
          | (go_at_call 13; exact up_call _ (check_any e0 r sg fr st _ HQ.out _))
          | (go_at_call 9; exact up_call _ (checkState_any e0 r sg fr st _ HQ.out _))
          | (go_at_call 14; (first | with_reducible exact up_call _ (intsAre_yes (.slice A1 _ c1) _ [] [] 2 _ (i1.bel (Up.b _)) (IntSl.nil_ _) rfl) | with_reducible exact up_call _ (intsAre_yes (.slice A3 _ c3) _ [] [] 2 _ (i3.bel (Up.b _)) (IntSl.nil_ _) rfl))))))
        refine wpQuiet_nil ?_
        intro _ hw'
        obtain ⟨uu, rfl⟩ := hw'
        have b9 := uu.b
        generalize uu.v = wu at *
        go_wp2_with fail
        go_ret
        exact ⟨rfl, hb.trans b9⟩
      · skip
        have hf2 : (ys, (⟨n2, l2, sg2, fr2, st2⟩ : M.St), g) = ([], ⟨0, [], 0, false, false⟩, q) := by rw [← hf, M.feedE, hq, if_neg hq0]
        simp only [Prod.mk.injEq, M.St.mk.injEq] at hf2
        obtain ⟨rfl, ⟨rfl, rfl, rfl, rfl, rfl⟩, rfl⟩ := hf2
        have e1 : (g == 0) = false := by simpa using hq0
        have e2 : (g != 0) = true := by simpa using hq0
        clear hf hq hlg h hq0 hl2 hbl
        go_enter Try.func3, Try.ntmps3
        have hS := Box.new w 23 [.int .i64 e0, .string r, .int .i64 sg, .bool fr, .bool st]
        have hb := Bel.refl w
        go_wp2_with fail
        refine (decE_sl n b _ _ HD.out _).mono ?_
        rintro e w1 ⟨A1, c1, rfl, o1, b1⟩
        have hb := Bel.trans (Bel.trans hb (by repeat (first | exact Bel.refl _ | refine Bel.drewN ?_ _ | refine Bel.drew ?_ | refine Bel.alloc ?_ _ | refine Bel.trans ?_ (by assumption) | refine Bel.setCell ?_ (by simp; omega) _))) b1; have hS := Box.bel (Box.bel hS (by repeat (first | exact Bel.refl _ | refine Bel.drewN ?_ _ | refine Bel.drew ?_ | refine Bel.alloc ?_ _ | refine Bel.trans ?_ (by assumption) | refine Bel.setCell ?_ (by simp; omega) _))) b1; (try have hO := Box.bel (Box.bel hO (by repeat (first | exact Bel.refl _ | refine Bel.drewN ?_ _ | refine Bel.drew ?_ | refine Bel.alloc ?_ _ | refine Bel.trans ?_ (by assumption) | refine Bel.setCell ?_ (by simp; omega) _))) b1); (try have hT := Box.bel (Box.bel hT (by repeat (first | exact Bel.refl _ | refine Bel.drewN ?_ _ | refine Bel.drew ?_ | refine Bel.alloc ?_ _ | refine Bel.trans ?_ (by assumption) | refine Bel.setCell ?_ (by simp; omega) _))) b1); (try have hU := Box.bel (Box.bel hU (by repeat (first | exact Bel.refl _ | refine Bel.drewN ?_ _ | refine Bel.drew ?_ | refine Bel.alloc ?_ _ | refine Bel.trans ?_ (by assumption) | refine Bel.setCell ?_ (by simp; omega) _))) b1); (try have hV := Box.bel (Box.bel hV (by repeat (first | exact Bel.refl _ | refine Bel.drewN ?_ _ | refine Bel.drew ?_ | refine Bel.alloc ?_ _ | refine Bel.trans ?_ (by assumption) | refine Bel.setCell ?_ (by simp; omega) _))) b1); (try have i1 := IntSl.bel (IntSl.bel i1 (by repeat (first | exact Bel.refl _ | refine Bel.drewN ?_ _ | refine Bel.drew ?_ | refine Bel.alloc ?_ _ | refine Bel.trans ?_ (by assumption) | refine Bel.setCell ?_ (by simp; omega) _))) b1); (try have i3 := IntSl.bel (IntSl.bel i3 (by repeat (first | exact Bel.refl _ | refine Bel.drewN ?_ _ | refine Bel.drew ?_ | refine Bel.alloc ?_ _ | refine Bel.trans ?_ (by assumption) | refine Bel.setCell ?_ (by simp; omega) _))) b1); clear b1; have hSl := hS.lt; have sc0 := hS.cell 0 _ rfl; have sc1 := hS.cell 1 _ rfl; have sc2 := hS.cell 2 _ rfl; have sc3 := hS.cell 3 _ rfl; have sc4 := hS.cell 4 _ rfl
        have i1 := o1.ints
        clear o1
        go_wp2_with fail
        refine (open_yes n HI.out _).mono ?_
        rintro e w2 ⟨rfl, b2⟩
        have hb := Bel.trans (Bel.trans hb (by repeat (first | exact Bel.refl _ | refine Bel.drewN ?_ _ | refine Bel.drew ?_ | refine Bel.alloc ?_ _ | refine Bel.trans ?_ (by assumption) | refine Bel.setCell ?_ (by simp; omega) _))) b2; have hS := Box.bel (Box.bel hS (by repeat (first | exact Bel.refl _ | refine Bel.drewN ?_ _ | refine Bel.drew ?_ | refine Bel.alloc ?_ _ | refine Bel.trans ?_ (by assumption) | refine Bel.setCell ?_ (by simp; omega) _))) b2; (try have hO := Box.bel (Box.bel hO (by repeat (first | exact Bel.refl _ | refine Bel.drewN ?_ _ | refine Bel.drew ?_ | refine Bel.alloc ?_ _ | refine Bel.trans ?_ (by assumption) | refine Bel.setCell ?_ (by simp; omega) _))) b2); (try have hT := Box.bel (Box.bel hT (by repeat (first | exact Bel.refl _ | refine Bel.drewN ?_ _ | refine Bel.drew ?_ | refine Bel.alloc ?_ _ | refine Bel.trans ?_ (by assumption) | refine Bel.setCell ?_ (by simp; omega) _))) b2); (try have hU := Box.bel (Box.bel hU (by repeat (first | exact Bel.refl _ | refine Bel.drewN ?_ _ | refine Bel.drew ?_ | refine Bel.alloc ?_ _ | refine Bel.trans ?_ (by assumption) | refine Bel.setCell ?_ (by simp; omega) _))) b2); (try have hV := Box.bel (Box.bel hV (by repeat (first | exact Bel.refl _ | refine Bel.drewN ?_ _ | refine Bel.drew ?_ | refine Bel.alloc ?_ _ | refine Bel.trans ?_ (by assumption) | refine Bel.setCell ?_ (by simp; omega) _))) b2); (try have i1 := IntSl.bel (IntSl.bel i1 (by repeat (first | exact Bel.refl _ | refine Bel.drewN ?_ _ | refine Bel.drew ?_ | refine Bel.alloc ?_ _ | refine Bel.trans ?_ (by assumption) | refine Bel.setCell ?_ (by simp; omega) _))) b2); (try have i3 := IntSl.bel (IntSl.bel i3 (by repeat (first | exact Bel.refl _ | refine Bel.drewN ?_ _ | refine Bel.drew ?_ | refine Bel.alloc ?_ _ | refine Bel.trans ?_ (by assumption) | refine Bel.setCell ?_ (by simp; omega) _))) b2); clear b2; have hSl := hS.lt; have sc0 := hS.cell 0 _ rfl; have sc1 := hS.cell 1 _ rfl; have sc2 := hS.cell 2 _ rfl; have sc3 := hS.cell 3 _ rfl; have sc4 := hS.cell 4 _ rfl
        have hO := Box.new w2 23 [.int .i64 n, .string ⟨#[]⟩, .int .i64 0, .bool false, .bool false]
        go_wp2_with fail
        refine (feed_sl e0 r sg fr st b last _ _ _ _ _ _ _ HF.out _).mono ?_
        rintro e w3 ⟨A3, c3, rfl, o3, b3⟩
        have hO := Box.bel hO b3
        have hOq := hO
        clear hO
        have hb := Bel.trans (Bel.trans hb (by repeat (first | exact Bel.refl _ | refine Bel.drewN ?_ _ | refine Bel.drew ?_ | refine Bel.alloc ?_ _ | refine Bel.trans ?_ (by assumption) | refine Bel.setCell ?_ (by simp; omega) _))) b3; have hS := Box.bel (Box.bel hS (by repeat (first | exact Bel.refl _ | refine Bel.drewN ?_ _ | refine Bel.drew ?_ | refine Bel.alloc ?_ _ | refine Bel.trans ?_ (by assumption) | refine Bel.setCell ?_ (by simp; omega) _))) b3; (try have hO := Box.bel (Box.bel hO (by repeat (first | exact Bel.refl _ | refine Bel.drewN ?_ _ | refine Bel.drew ?_ | refine Bel.alloc ?_ _ | refine Bel.trans ?_ (by assumption) | refine Bel.setCell ?_ (by simp; omega) _))) b3); (try have hT := Box.bel (Box.bel hT (by repeat (first | exact Bel.refl _ | refine Bel.drewN ?_ _ | refine Bel.drew ?_ | refine Bel.alloc ?_ _ | refine Bel.trans ?_ (by assumption) | refine Bel.setCell ?_ (by simp; omega) _))) b3); (try have hU := Box.bel (Box.bel hU (by repeat (first | exact Bel.refl _ | refine Bel.drewN ?_ _ | refine Bel.drew ?_ | refine Bel.alloc ?_ _ | refine Bel.trans ?_ (by assumption) | refine Bel.setCell ?_ (by simp; omega) _))) b3); (try have hV := Box.bel (Box.bel hV (by repeat (first | exact Bel.refl _ | refine Bel.drewN ?_ _ | refine Bel.drew ?_ | refine Bel.alloc ?_ _ | refine Bel.trans ?_ (by assumption) | refine Bel.setCell ?_ (by simp; omega) _))) b3); (try have i1 := IntSl.bel (IntSl.bel i1 (by repeat (first | exact Bel.refl _ | refine Bel.drewN ?_ _ | refine Bel.drew ?_ | refine Bel.alloc ?_ _ | refine Bel.trans ?_ (by assumption) | refine Bel.setCell ?_ (by simp; omega) _))) b3); (try have i3 := IntSl.bel (IntSl.bel i3 (by repeat (first | exact Bel.refl _ | refine Bel.drewN ?_ _ | refine Bel.drew ?_ | refine Bel.alloc ?_ _ | refine Bel.trans ?_ (by assumption) | refine Bel.setCell ?_ (by simp; omega) _))) b3); clear b3; have hSl := hS.lt; have sc0 := hS.cell 0 _ rfl; have sc1 := hS.cell 1 _ rfl; have sc2 := hS.cell 2 _ rfl; have sc3 := hS.cell 3 _ rfl; have sc4 := hS.cell 4 _ rfl
        have hO := hOq
        clear hOq
        have i3 := o3.ints
        clear o3
        have hT := Box.new w3 23 [.int .i64 0, .string ⟨#[]⟩, .int .i64 0, .bool false, .bool false]
        go_wp2_with fail
        refine (isEncoding_to n _ HI.out _).mono ?_
        rintro e w' ⟨rfl, rfl⟩
        go_wp2_with fail
        refine (long_to _ _ HL.out _).mono ?_
        rintro e w' ⟨rfl, rfl⟩
        go_wp2_with fail
        refine (checkState_any e0 r sg fr st _ HQ.out _).mono ?_
        rintro e w4 ⟨rfl, b4⟩
        have hO := Box.bel (Box.bel hO (by repeat (first | exact Bel.refl _ | refine Bel.drewN ?_ _ | refine Bel.drew ?_ | refine Bel.alloc ?_ _ | refine Bel.trans ?_ (by assumption) | refine Bel.setCell ?_ (by simp; omega) _))) b4
        have hT := Box.bel hT b4
        have hb := Bel.trans (Bel.trans hb (by repeat (first | exact Bel.refl _ | refine Bel.drewN ?_ _ | refine Bel.drew ?_ | refine Bel.alloc ?_ _ | refine Bel.trans ?_ (by assumption) | refine Bel.setCell ?_ (by simp; omega) _))) b4
        have hS := Box.bel (Box.bel hS (by repeat (first | exact Bel.refl _ | refine Bel.drewN ?_ _ | refine Bel.drew ?_ | refine Bel.alloc ?_ _ | refine Bel.trans ?_ (by assumption) | refine Bel.setCell ?_ (by simp; omega) _))) b4
        have i1 := IntSl.bel (IntSl.bel i1 (by repeat (first | exact Bel.refl _ | refine Bel.drewN ?_ _ | refine Bel.drew ?_ | refine Bel.alloc ?_ _ | refine Bel.trans ?_ (by assumption) | refine Bel.setCell ?_ (by simp; omega) _))) b4
        have i3 := IntSl.bel (IntSl.bel i3 (by repeat (first | exact Bel.refl _ | refine Bel.drewN ?_ _ | refine Bel.drew ?_ | refine Bel.alloc ?_ _ | refine Bel.trans ?_ (by assumption) | refine Bel.setCell ?_ (by simp; omega) _))) b4
        clear b4
        have sc0 := hS.cell 0 _ rfl; have sc1 := hS.cell 1 _ rfl; have sc2 := hS.cell 2 _ rfl; have sc3 := hS.cell 3 _ rfl; have sc4 := hS.cell 4 _ rfl
        go_upto_if 56 with fail
        have hP : Bel w4 ((w4.alloc (.cells #[.int .i64 0, .string ⟨#[]⟩, .int .i64 0, .bool false, .bool false] 23)).alloc (.cells #[.int .i64 0, .string ⟨#[]⟩, .int .i64 0, .bool false, .bool false] 23)) := (by repeat (first | exact Bel.refl _ | refine Bel.drewN ?_ _ | refine Bel.drew ?_ | refine Bel.alloc ?_ _ | refine Bel.trans ?_ (by assumption) | refine Bel.setCell ?_ (by simp; omega) _))
        have hU := (Box.new w4 23 [.int .i64 0, .string ⟨#[]⟩, .int .i64 0, .bool false, .bool false]).bel ((Bel.refl _).alloc (.cells #[.int .i64 0, .string ⟨#[]⟩, .int .i64 0, .bool false, .bool false] 23))
        have hV : Box ((w4.alloc (.cells #[.int .i64 0, .string ⟨#[]⟩, .int .i64 0, .bool false, .bool false] 23)).alloc (.cells #[.int .i64 0, .string ⟨#[]⟩, .int .i64 0, .bool false, .bool false] 23)) (w4.heap.size + 1) 23 [.int .i64 0, .string ⟨#[]⟩, .int .i64 0, .bool false, .bool false] := by have := Box.new (w4.alloc (.cells #[.int .i64 0, .string ⟨#[]⟩, .int .i64 0, .bool false, .bool false] 23)) 23 [.int .i64 0, .string ⟨#[]⟩, .int .i64 0, .bool false, .bool false]; simpa using this
        have hso := hS.lt
        have hoo := hO.lt
        have hto := hT.lt
        generalize ((w4.alloc (.cells #[.int .i64 0, .string ⟨#[]⟩, .int .i64 0, .bool false, .bool false] 23)).alloc (.cells #[.int .i64 0, .string ⟨#[]⟩, .int .i64 0, .bool false, .bool false] 23)) = P at *
        have hup := hU.lt
        have hvp := hV.lt
        have sb := hS.bel hP
        have sc0 := sb.cell 0 _ rfl; have sc1 := sb.cell 1 _ rfl; have sc2 := sb.cell 2 _ rfl; have sc3 := sb.cell 3 _ rfl; have sc4 := sb.cell 4 _ rfl
        have uc0 := hU.cell 0 _ rfl; have uc1 := hU.cell 1 _ rfl; have uc2 := hU.cell 2 _ rfl; have uc3 := hU.cell 3 _ rfl; have uc4 := hU.cell 4 _ rfl; have uf0 := hU.frozen 0; have uf1 := hU.frozen 1; have uf2 := hU.frozen 2; have uf3 := hU.frozen 3; have uf4 := hU.frozen 4
        have vc0 := hV.cell 0 _ rfl; have vc1 := hV.cell 1 _ rfl; have vc2 := hV.cell 2 _ rfl; have vc3 := hV.cell 3 _ rfl; have vc4 := hV.cell 4 _ rfl; have vf0 := hV.frozen 0; have vf1 := hV.frozen 1; have vf2 := hV.frozen 2; have vf3 := hV.frozen 3; have vf4 := hV.frozen 4
        go_upto_region 20 with fail
        have hU := ((((hU.set 0 (.int .i64 n)).set 1 (.string ⟨#[]⟩)).set 2 (.int .i64 0)).set 3 (.bool false)).set 4 (.bool false)
        have hV := ((((hV.far (p := ⟨w4.heap.size, 0, none⟩) (by simp) (.int .i64 n)).far (p := ⟨w4.heap.size, 1, none⟩) (by simp) (.string ⟨#[]⟩)).far (p := ⟨w4.heap.size, 2, none⟩) (by simp) (.int .i64 0)).far (p := ⟨w4.heap.size, 3, none⟩) (by simp) (.bool false)).far (p := ⟨w4.heap.size, 4, none⟩) (by simp) (.bool false)
        have hP := ((((hP.setCell (p := ⟨w4.heap.size, 0, none⟩) (Nat.le_refl _) (.int .i64 n)).setCell (p := ⟨w4.heap.size, 1, none⟩) (Nat.le_refl _) (.string ⟨#[]⟩)).setCell (p := ⟨w4.heap.size, 2, none⟩) (Nat.le_refl _) (.int .i64 0)).setCell (p := ⟨w4.heap.size, 3, none⟩) (Nat.le_refl _) (.bool false)).setCell (p := ⟨w4.heap.size, 4, none⟩) (Nat.le_refl _) (.bool false)
        have i1 := IntSl.bel i1 hP
        have i3 := IntSl.bel i3 hP
        have hS := hS.bel hP
        have hO := hO.bel hP
        have hT := hT.bel hP
        have hb := hb.trans hP
        have su0 := Box.up hS 0 _ rfl; have su1 := Box.up hS 1 _ rfl; have su2 := Box.up hS 2 _ rfl; have su3 := Box.up hS 3 _ rfl; have su4 := Box.up hS 4 _ rfl
        have ou0 := Box.up hO 0 _ rfl; have ou1 := Box.up hO 1 _ rfl; have ou2 := Box.up hO 2 _ rfl; have ou3 := Box.up hO 3 _ rfl; have ou4 := Box.up hO 4 _ rfl
        have tu0 := Box.up hT 0 _ rfl; have tu1 := Box.up hT 1 _ rfl; have tu2 := Box.up hT 2 _ rfl; have tu3 := Box.up hT 3 _ rfl; have tu4 := Box.up hT 4 _ rfl
        have uu0 := Box.up hU 0 _ rfl; have uu1 := Box.up hU 1 _ rfl; have uu2 := Box.up hU 2 _ rfl; have uu3 := Box.up hU 3 _ rfl; have uu4 := Box.up hU 4 _ rfl
        have vu0 := Box.up hV 0 _ rfl; have vu1 := Box.up hV 1 _ rfl; have vu2 := Box.up hV 2 _ rfl; have vu3 := Box.up hV 3 _ rfl; have vu4 := Box.up hV 4 _ rfl
        clear hP
        refine region_up (by kernel_rfl) (by kernel_rfl) ?_
        repeat (go_big_quiet_step ((first
          | (go_at_call 12; exact up_call _ (streamBegun_any _))
          | (go_at_call 13; exact up_call _ (check_any e0 r sg fr st _ HQ.out _))
          | (go_at_call 9; exact up_call _ (checkState_any e0 r sg fr st _ HQ.out _))
          | (go_at_call 14; (first | with_reducible exact up_call _ (intsAre_yes (.slice A1 _ c1) _ [] [] 2 _ (i1.bel (Up.b _)) (IntSl.nil_ _) rfl) | with_reducible exact up_call _ (intsAre_yes (.slice A3 _ c3) _ [] [] g _ (i3.bel (Up.b _)) (IntSl.nil_ _) (by split <;> rfl)))))))
        refine wpQuiet_nil ?_
        intro _ hw'
        obtain ⟨uu, rfl⟩ := hw'
        have b9 := uu.b
        generalize uu.v = wu at *
        go_wp2_with fail
        go_ret
        exact ⟨rfl, hb.trans b9⟩
    · obtain rfl : lg = 0 := hlg.symm.trans hl0
      obtain ⟨xs, hxs⟩ : ∃ xs, M.allE n b.data.toList = xs := ⟨_, rfl⟩
      have HD := Lib.hid (show M.decE n b.data.toList = (xs, 0) by
        have h6 : M.readyE n b.data.toList = 0 := by rw [M.readyE, if_neg (by rw [h]; decide), if_neg (by rw [← Lib.size_eq]; omega)]
        rw [M.decE, if_pos h6, hxs])
      have HDO := Lib.hid (fun W => decodeOf_any n h b hbl W)
      rw [hxs] at HDO
      by_cases hq0 : q = 0
      · subst hq0
        have hf2 : (ys, (⟨n2, l2, sg2, fr2, st2⟩ : M.St), g) = ((M.rawM ⟨e0, r.data.toList, sg, fr, st⟩ b.data.toList last).1, (M.rawM ⟨e0, r.data.toList, sg, fr, st⟩ b.data.toList last).2, 0) := by rw [← hf, M.feedE, if_pos hq, if_neg (by rw [← Lib.size_eq]; omega)]
        have hright := (M.check_right _).1 hq
        have HE0 := Lib.hid (show M.isEnc e0 = true from hright.enc)
        have hr3 : r.size ≤ 3 := by rw [Lib.size_eq]; exact hright.len
        have HRF := Lib.hid (show M.refM ⟨e0, r.data.toList, sg, fr, st⟩ b.data.toList last = (ys, ⟨n2, l2, sg2, fr2, st2⟩) by
          rw [M.ref_raw _ hright]
          simp only [Prod.mk.injEq] at hf2
          exact Prod.ext hf2.1.symm hf2.2.1.symm)
        obtain rfl : g = 0 := by simp only [Prod.mk.injEq] at hf2; exact hf2.2.2
        clear hf2 hright
        clear hf hq hlg h hl0 hxs
        go_enter Try.func3, Try.ntmps3
        have hS := Box.new w 23 [.int .i64 e0, .string r, .int .i64 sg, .bool fr, .bool st]
        have hb := Bel.refl w
        go_wp2_with fail
        refine (decE_sl n b _ _ HD.out _).mono ?_
        rintro e w1 ⟨A1, c1, rfl, o1, b1⟩
        have hb := Bel.trans (Bel.trans hb (by repeat (first | exact Bel.refl _ | refine Bel.drewN ?_ _ | refine Bel.drew ?_ | refine Bel.alloc ?_ _ | refine Bel.trans ?_ (by assumption) | refine Bel.setCell ?_ (by simp; omega) _))) b1; have hS := Box.bel (Box.bel hS (by repeat (first | exact Bel.refl _ | refine Bel.drewN ?_ _ | refine Bel.drew ?_ | refine Bel.alloc ?_ _ | refine Bel.trans ?_ (by assumption) | refine Bel.setCell ?_ (by simp; omega) _))) b1; (try have hO := Box.bel (Box.bel hO (by repeat (first | exact Bel.refl _ | refine Bel.drewN ?_ _ | refine Bel.drew ?_ | refine Bel.alloc ?_ _ | refine Bel.trans ?_ (by assumption) | refine Bel.setCell ?_ (by simp; omega) _))) b1); (try have hT := Box.bel (Box.bel hT (by repeat (first | exact Bel.refl _ | refine Bel.drewN ?_ _ | refine Bel.drew ?_ | refine Bel.alloc ?_ _ | refine Bel.trans ?_ (by assumption) | refine Bel.setCell ?_ (by simp; omega) _))) b1); (try have hU := Box.bel (Box.bel hU (by repeat (first | exact Bel.refl _ | refine Bel.drewN ?_ _ | refine Bel.drew ?_ | refine Bel.alloc ?_ _ | refine Bel.trans ?_ (by assumption) | refine Bel.setCell ?_ (by simp; omega) _))) b1); (try have hV := Box.bel (Box.bel hV (by repeat (first | exact Bel.refl _ | refine Bel.drewN ?_ _ | refine Bel.drew ?_ | refine Bel.alloc ?_ _ | refine Bel.trans ?_ (by assumption) | refine Bel.setCell ?_ (by simp; omega) _))) b1); (try have i1 := IntSl.bel (IntSl.bel i1 (by repeat (first | exact Bel.refl _ | refine Bel.drewN ?_ _ | refine Bel.drew ?_ | refine Bel.alloc ?_ _ | refine Bel.trans ?_ (by assumption) | refine Bel.setCell ?_ (by simp; omega) _))) b1); (try have i3 := IntSl.bel (IntSl.bel i3 (by repeat (first | exact Bel.refl _ | refine Bel.drewN ?_ _ | refine Bel.drew ?_ | refine Bel.alloc ?_ _ | refine Bel.trans ?_ (by assumption) | refine Bel.setCell ?_ (by simp; omega) _))) b1); clear b1; have hSl := hS.lt; have sc0 := hS.cell 0 _ rfl; have sc1 := hS.cell 1 _ rfl; have sc2 := hS.cell 2 _ rfl; have sc3 := hS.cell 3 _ rfl; have sc4 := hS.cell 4 _ rfl
        have i1 := o1.ints
        clear o1
        go_wp2_with fail
        refine (open_yes n HI.out _).mono ?_
        rintro e w2 ⟨rfl, b2⟩
        have hb := Bel.trans (Bel.trans hb (by repeat (first | exact Bel.refl _ | refine Bel.drewN ?_ _ | refine Bel.drew ?_ | refine Bel.alloc ?_ _ | refine Bel.trans ?_ (by assumption) | refine Bel.setCell ?_ (by simp; omega) _))) b2; have hS := Box.bel (Box.bel hS (by repeat (first | exact Bel.refl _ | refine Bel.drewN ?_ _ | refine Bel.drew ?_ | refine Bel.alloc ?_ _ | refine Bel.trans ?_ (by assumption) | refine Bel.setCell ?_ (by simp; omega) _))) b2; (try have hO := Box.bel (Box.bel hO (by repeat (first | exact Bel.refl _ | refine Bel.drewN ?_ _ | refine Bel.drew ?_ | refine Bel.alloc ?_ _ | refine Bel.trans ?_ (by assumption) | refine Bel.setCell ?_ (by simp; omega) _))) b2); (try have hT := Box.bel (Box.bel hT (by repeat (first | exact Bel.refl _ | refine Bel.drewN ?_ _ | refine Bel.drew ?_ | refine Bel.alloc ?_ _ | refine Bel.trans ?_ (by assumption) | refine Bel.setCell ?_ (by simp; omega) _))) b2); (try have hU := Box.bel (Box.bel hU (by repeat (first | exact Bel.refl _ | refine Bel.drewN ?_ _ | refine Bel.drew ?_ | refine Bel.alloc ?_ _ | refine Bel.trans ?_ (by assumption) | refine Bel.setCell ?_ (by simp; omega) _))) b2); (try have hV := Box.bel (Box.bel hV (by repeat (first | exact Bel.refl _ | refine Bel.drewN ?_ _ | refine Bel.drew ?_ | refine Bel.alloc ?_ _ | refine Bel.trans ?_ (by assumption) | refine Bel.setCell ?_ (by simp; omega) _))) b2); (try have i1 := IntSl.bel (IntSl.bel i1 (by repeat (first | exact Bel.refl _ | refine Bel.drewN ?_ _ | refine Bel.drew ?_ | refine Bel.alloc ?_ _ | refine Bel.trans ?_ (by assumption) | refine Bel.setCell ?_ (by simp; omega) _))) b2); (try have i3 := IntSl.bel (IntSl.bel i3 (by repeat (first | exact Bel.refl _ | refine Bel.drewN ?_ _ | refine Bel.drew ?_ | refine Bel.alloc ?_ _ | refine Bel.trans ?_ (by assumption) | refine Bel.setCell ?_ (by simp; omega) _))) b2); clear b2; have hSl := hS.lt; have sc0 := hS.cell 0 _ rfl; have sc1 := hS.cell 1 _ rfl; have sc2 := hS.cell 2 _ rfl; have sc3 := hS.cell 3 _ rfl; have sc4 := hS.cell 4 _ rfl
        have hO := Box.new w2 23 [.int .i64 n, .string ⟨#[]⟩, .int .i64 0, .bool false, .bool false]
        go_wp2_with fail
        refine (feed_sl e0 r sg fr st b last _ _ _ _ _ _ _ HF.out _).mono ?_
        rintro e w3 ⟨A3, c3, rfl, o3, b3⟩
        have hO := Box.bel hO b3
        have hOq := hO
        clear hO
        have hb := Bel.trans (Bel.trans hb (by repeat (first | exact Bel.refl _ | refine Bel.drewN ?_ _ | refine Bel.drew ?_ | refine Bel.alloc ?_ _ | refine Bel.trans ?_ (by assumption) | refine Bel.setCell ?_ (by simp; omega) _))) b3; have hS := Box.bel (Box.bel hS (by repeat (first | exact Bel.refl _ | refine Bel.drewN ?_ _ | refine Bel.drew ?_ | refine Bel.alloc ?_ _ | refine Bel.trans ?_ (by assumption) | refine Bel.setCell ?_ (by simp; omega) _))) b3; (try have hO := Box.bel (Box.bel hO (by repeat (first | exact Bel.refl _ | refine Bel.drewN ?_ _ | refine Bel.drew ?_ | refine Bel.alloc ?_ _ | refine Bel.trans ?_ (by assumption) | refine Bel.setCell ?_ (by simp; omega) _))) b3); (try have hT := Box.bel (Box.bel hT (by repeat (first | exact Bel.refl _ | refine Bel.drewN ?_ _ | refine Bel.drew ?_ | refine Bel.alloc ?_ _ | refine Bel.trans ?_ (by assumption) | refine Bel.setCell ?_ (by simp; omega) _))) b3); (try have hU := Box.bel (Box.bel hU (by repeat (first | exact Bel.refl _ | refine Bel.drewN ?_ _ | refine Bel.drew ?_ | refine Bel.alloc ?_ _ | refine Bel.trans ?_ (by assumption) | refine Bel.setCell ?_ (by simp; omega) _))) b3); (try have hV := Box.bel (Box.bel hV (by repeat (first | exact Bel.refl _ | refine Bel.drewN ?_ _ | refine Bel.drew ?_ | refine Bel.alloc ?_ _ | refine Bel.trans ?_ (by assumption) | refine Bel.setCell ?_ (by simp; omega) _))) b3); (try have i1 := IntSl.bel (IntSl.bel i1 (by repeat (first | exact Bel.refl _ | refine Bel.drewN ?_ _ | refine Bel.drew ?_ | refine Bel.alloc ?_ _ | refine Bel.trans ?_ (by assumption) | refine Bel.setCell ?_ (by simp; omega) _))) b3); (try have i3 := IntSl.bel (IntSl.bel i3 (by repeat (first | exact Bel.refl _ | refine Bel.drewN ?_ _ | refine Bel.drew ?_ | refine Bel.alloc ?_ _ | refine Bel.trans ?_ (by assumption) | refine Bel.setCell ?_ (by simp; omega) _))) b3); clear b3; have hSl := hS.lt; have sc0 := hS.cell 0 _ rfl; have sc1 := hS.cell 1 _ rfl; have sc2 := hS.cell 2 _ rfl; have sc3 := hS.cell 3 _ rfl; have sc4 := hS.cell 4 _ rfl
        have hO := hOq
        clear hOq
        have i3 := o3.ints
        clear o3
        have hT := Box.new w3 23 [.int .i64 n2, .string ⟨l2.toArray⟩, .int .i64 sg2, .bool fr2, .bool st2]
        go_wp2_with fail
        refine (isEncoding_to n _ HI.out _).mono ?_
        rintro e w' ⟨rfl, rfl⟩
        go_wp2_with fail
        refine (long_to _ _ HL.out _).mono ?_
        rintro e w' ⟨rfl, rfl⟩
        go_wp2_with fail
        refine (checkState_any e0 r sg fr st _ HQ.out _).mono ?_
        rintro e w4 ⟨rfl, b4⟩
        have hO := Box.bel (Box.bel hO (by repeat (first | exact Bel.refl _ | refine Bel.drewN ?_ _ | refine Bel.drew ?_ | refine Bel.alloc ?_ _ | refine Bel.trans ?_ (by assumption) | refine Bel.setCell ?_ (by simp; omega) _))) b4
        have hT := Box.bel hT b4
        have hb := Bel.trans (Bel.trans hb (by repeat (first | exact Bel.refl _ | refine Bel.drewN ?_ _ | refine Bel.drew ?_ | refine Bel.alloc ?_ _ | refine Bel.trans ?_ (by assumption) | refine Bel.setCell ?_ (by simp; omega) _))) b4
        have hS := Box.bel (Box.bel hS (by repeat (first | exact Bel.refl _ | refine Bel.drewN ?_ _ | refine Bel.drew ?_ | refine Bel.alloc ?_ _ | refine Bel.trans ?_ (by assumption) | refine Bel.setCell ?_ (by simp; omega) _))) b4
        have i1 := IntSl.bel (IntSl.bel i1 (by repeat (first | exact Bel.refl _ | refine Bel.drewN ?_ _ | refine Bel.drew ?_ | refine Bel.alloc ?_ _ | refine Bel.trans ?_ (by assumption) | refine Bel.setCell ?_ (by simp; omega) _))) b4
        have i3 := IntSl.bel (IntSl.bel i3 (by repeat (first | exact Bel.refl _ | refine Bel.drewN ?_ _ | refine Bel.drew ?_ | refine Bel.alloc ?_ _ | refine Bel.trans ?_ (by assumption) | refine Bel.setCell ?_ (by simp; omega) _))) b4
        clear b4
        have sc0 := hS.cell 0 _ rfl; have sc1 := hS.cell 1 _ rfl; have sc2 := hS.cell 2 _ rfl; have sc3 := hS.cell 3 _ rfl; have sc4 := hS.cell 4 _ rfl
        go_wp2_with fail
        refine (long_to _ _ HL.out _).mono ?_
        rintro e w' ⟨rfl, rfl⟩
        go_upto_if 56 with fail
        have hP : Bel w4 ((w4.alloc (.cells #[.int .i64 0, .string ⟨#[]⟩, .int .i64 0, .bool false, .bool false] 23)).alloc (.cells #[.int .i64 0, .string ⟨#[]⟩, .int .i64 0, .bool false, .bool false] 23)) := (by repeat (first | exact Bel.refl _ | refine Bel.drewN ?_ _ | refine Bel.drew ?_ | refine Bel.alloc ?_ _ | refine Bel.trans ?_ (by assumption) | refine Bel.setCell ?_ (by simp; omega) _))
        have hU := (Box.new w4 23 [.int .i64 0, .string ⟨#[]⟩, .int .i64 0, .bool false, .bool false]).bel ((Bel.refl _).alloc (.cells #[.int .i64 0, .string ⟨#[]⟩, .int .i64 0, .bool false, .bool false] 23))
        have hV : Box ((w4.alloc (.cells #[.int .i64 0, .string ⟨#[]⟩, .int .i64 0, .bool false, .bool false] 23)).alloc (.cells #[.int .i64 0, .string ⟨#[]⟩, .int .i64 0, .bool false, .bool false] 23)) (w4.heap.size + 1) 23 [.int .i64 0, .string ⟨#[]⟩, .int .i64 0, .bool false, .bool false] := by have := Box.new (w4.alloc (.cells #[.int .i64 0, .string ⟨#[]⟩, .int .i64 0, .bool false, .bool false] 23)) 23 [.int .i64 0, .string ⟨#[]⟩, .int .i64 0, .bool false, .bool false]; simpa using this
        have hso := hS.lt
        have hoo := hO.lt
        have hto := hT.lt
        generalize ((w4.alloc (.cells #[.int .i64 0, .string ⟨#[]⟩, .int .i64 0, .bool false, .bool false] 23)).alloc (.cells #[.int .i64 0, .string ⟨#[]⟩, .int .i64 0, .bool false, .bool false] 23)) = P at *
        have hup := hU.lt
        have hvp := hV.lt
        have sb := hS.bel hP
        have sc0 := sb.cell 0 _ rfl; have sc1 := sb.cell 1 _ rfl; have sc2 := sb.cell 2 _ rfl; have sc3 := sb.cell 3 _ rfl; have sc4 := sb.cell 4 _ rfl
        have uc0 := hU.cell 0 _ rfl; have uc1 := hU.cell 1 _ rfl; have uc2 := hU.cell 2 _ rfl; have uc3 := hU.cell 3 _ rfl; have uc4 := hU.cell 4 _ rfl; have uf0 := hU.frozen 0; have uf1 := hU.frozen 1; have uf2 := hU.frozen 2; have uf3 := hU.frozen 3; have uf4 := hU.frozen 4
        have vc0 := hV.cell 0 _ rfl; have vc1 := hV.cell 1 _ rfl; have vc2 := hV.cell 2 _ rfl; have vc3 := hV.cell 3 _ rfl; have vc4 := hV.cell 4 _ rfl; have vf0 := hV.frozen 0; have vf1 := hV.frozen 1; have vf2 := hV.frozen 2; have vf3 := hV.frozen 3; have vf4 := hV.frozen 4
        go_wp2_with fail
        refine (HDO.out _).mono ?_
        rintro e w5 ⟨v5, rfl, o5, b5⟩
        have hP := hP.trans b5; have hU := hU.bel b5; have hV := hV.bel b5; have sb := hS.bel hP; clear b5; have sc0 := sb.cell 0 _ rfl; have sc1 := sb.cell 1 _ rfl; have sc2 := sb.cell 2 _ rfl; have sc3 := sb.cell 3 _ rfl; have sc4 := sb.cell 4 _ rfl; have uc0 := hU.cell 0 _ rfl; have uc1 := hU.cell 1 _ rfl; have uc2 := hU.cell 2 _ rfl; have uc3 := hU.cell 3 _ rfl; have uc4 := hU.cell 4 _ rfl; have uf0 := hU.frozen 0; have uf1 := hU.frozen 1; have uf2 := hU.frozen 2; have uf3 := hU.frozen 3; have uf4 := hU.frozen 4; have vc0 := hV.cell 0 _ rfl; have vc1 := hV.cell 1 _ rfl; have vc2 := hV.cell 2 _ rfl; have vc3 := hV.cell 3 _ rfl; have vc4 := hV.cell 4 _ rfl; have vf0 := hV.frozen 0; have vf1 := hV.frozen 1; have vf2 := hV.frozen 2; have vf3 := hV.frozen 3; have vf4 := hV.frozen 4
        have hV5 := hV
        go_wp2_with fail
        have hU := ((((hU.set 0 (.int .i64 n)).set 1 (.string ⟨#[]⟩)).set 2 (.int .i64 0)).set 3 (.bool false)).set 4 (.bool false)
        have hV := ((((hV.far (p := ⟨w4.heap.size, 0, none⟩) (by simp) (.int .i64 n)).far (p := ⟨w4.heap.size, 1, none⟩) (by simp) (.string ⟨#[]⟩)).far (p := ⟨w4.heap.size, 2, none⟩) (by simp) (.int .i64 0)).far (p := ⟨w4.heap.size, 3, none⟩) (by simp) (.bool false)).far (p := ⟨w4.heap.size, 4, none⟩) (by simp) (.bool false)
        have hP := ((((hP.setCell (p := ⟨w4.heap.size, 0, none⟩) (Nat.le_refl _) (.int .i64 n)).setCell (p := ⟨w4.heap.size, 1, none⟩) (Nat.le_refl _) (.string ⟨#[]⟩)).setCell (p := ⟨w4.heap.size, 2, none⟩) (Nat.le_refl _) (.int .i64 0)).setCell (p := ⟨w4.heap.size, 3, none⟩) (Nat.le_refl _) (.bool false)).setCell (p := ⟨w4.heap.size, 4, none⟩) (Nat.le_refl _) (.bool false)
        have o5 := ((((o5.setCell (p := ⟨w4.heap.size, 0, none⟩) hup (.int .i64 n)).setCell (p := ⟨w4.heap.size, 1, none⟩) hup (.string ⟨#[]⟩)).setCell (p := ⟨w4.heap.size, 2, none⟩) hup (.int .i64 0)).setCell (p := ⟨w4.heap.size, 3, none⟩) hup (.bool false)).setCell (p := ⟨w4.heap.size, 4, none⟩) hup (.bool false)
        refine (feedOf_sl e0 HE0.out r sg fr st b last (by omega) ys n2 l2 sg2 fr2 st2 HRF.out _).mono ?_
        rintro e w6 ⟨v6, rfl, o6, b6⟩
        have o5 := o5.bel b6
        have hv6 : w4.heap.size + 1 < (((((w5.setCell ⟨w4.heap.size, 0, none⟩ (.int .i64 n)).setCell ⟨w4.heap.size, 1, none⟩ (.string ⟨#[]⟩)).setCell ⟨w4.heap.size, 2, none⟩ (.int .i64 0)).setCell ⟨w4.heap.size, 3, none⟩ (.bool false)).setCell ⟨w4.heap.size, 4, none⟩ (.bool false)).heap.size := by simp; exact hV5.lt
        have hP := hP.trans b6; have hU := hU.bel b6; have hV := hV.bel b6; have sb := hS.bel hP; clear b6; have sc0 := sb.cell 0 _ rfl; have sc1 := sb.cell 1 _ rfl; have sc2 := sb.cell 2 _ rfl; have sc3 := sb.cell 3 _ rfl; have sc4 := sb.cell 4 _ rfl; have uc0 := hU.cell 0 _ rfl; have uc1 := hU.cell 1 _ rfl; have uc2 := hU.cell 2 _ rfl; have uc3 := hU.cell 3 _ rfl; have uc4 := hU.cell 4 _ rfl; have uf0 := hU.frozen 0; have uf1 := hU.frozen 1; have uf2 := hU.frozen 2; have uf3 := hU.frozen 3; have uf4 := hU.frozen 4; have vc0 := hV.cell 0 _ rfl; have vc1 := hV.cell 1 _ rfl; have vc2 := hV.cell 2 _ rfl; have vc3 := hV.cell 3 _ rfl; have vc4 := hV.cell 4 _ rfl; have vf0 := hV.frozen 0; have vf1 := hV.frozen 1; have vf2 := hV.frozen 2; have vf3 := hV.frozen 3; have vf4 := hV.frozen 4
        go_upto_region 20 with fail
        have hU := ((((hU.far (p := ⟨w4.heap.size + 1, 0, none⟩) (by simp) (.int .i64 n2)).far (p := ⟨w4.heap.size + 1, 1, none⟩) (by simp) (.string ⟨l2.toArray⟩)).far (p := ⟨w4.heap.size + 1, 2, none⟩) (by simp) (.int .i64 sg2)).far (p := ⟨w4.heap.size + 1, 3, none⟩) (by simp) (.bool fr2)).far (p := ⟨w4.heap.size + 1, 4, none⟩) (by simp) (.bool st2)
        have hV := ((((hV.set 0 (.int .i64 n2)).set 1 (.string ⟨l2.toArray⟩)).set 2 (.int .i64 sg2)).set 3 (.bool fr2)).set 4 (.bool st2)
        have hP := ((((hP.setCell (p := ⟨w4.heap.size + 1, 0, none⟩) (Nat.le_succ _) (.int .i64 n2)).setCell (p := ⟨w4.heap.size + 1, 1, none⟩) (Nat.le_succ _) (.string ⟨l2.toArray⟩)).setCell (p := ⟨w4.heap.size + 1, 2, none⟩) (Nat.le_succ _) (.int .i64 sg2)).setCell (p := ⟨w4.heap.size + 1, 3, none⟩) (Nat.le_succ _) (.bool fr2)).setCell (p := ⟨w4.heap.size + 1, 4, none⟩) (Nat.le_succ _) (.bool st2)
        have i6 := (((((o6.setCell (p := ⟨w4.heap.size + 1, 0, none⟩) hv6 (.int .i64 n2)).setCell (p := ⟨w4.heap.size + 1, 1, none⟩) hv6 (.string ⟨l2.toArray⟩)).setCell (p := ⟨w4.heap.size + 1, 2, none⟩) hv6 (.int .i64 sg2)).setCell (p := ⟨w4.heap.size + 1, 3, none⟩) hv6 (.bool fr2)).setCell (p := ⟨w4.heap.size + 1, 4, none⟩) hv6 (.bool st2)).ints
        have i5 := (((((o5.setCell (p := ⟨w4.heap.size + 1, 0, none⟩) hvp (.int .i64 n2)).setCell (p := ⟨w4.heap.size + 1, 1, none⟩) hvp (.string ⟨l2.toArray⟩)).setCell (p := ⟨w4.heap.size + 1, 2, none⟩) hvp (.int .i64 sg2)).setCell (p := ⟨w4.heap.size + 1, 3, none⟩) hvp (.bool fr2)).setCell (p := ⟨w4.heap.size + 1, 4, none⟩) hvp (.bool st2)).ints
        have i1 := IntSl.bel i1 hP
        have i3 := IntSl.bel i3 hP
        have hS := hS.bel hP
        have hO := hO.bel hP
        have hT := hT.bel hP
        have hb := hb.trans hP
        have su0 := Box.up hS 0 _ rfl; have su1 := Box.up hS 1 _ rfl; have su2 := Box.up hS 2 _ rfl; have su3 := Box.up hS 3 _ rfl; have su4 := Box.up hS 4 _ rfl
        have ou0 := Box.up hO 0 _ rfl; have ou1 := Box.up hO 1 _ rfl; have ou2 := Box.up hO 2 _ rfl; have ou3 := Box.up hO 3 _ rfl; have ou4 := Box.up hO 4 _ rfl
        have tu0 := Box.up hT 0 _ rfl; have tu1 := Box.up hT 1 _ rfl; have tu2 := Box.up hT 2 _ rfl; have tu3 := Box.up hT 3 _ rfl; have tu4 := Box.up hT 4 _ rfl
        have uu0 := Box.up hU 0 _ rfl; have uu1 := Box.up hU 1 _ rfl; have uu2 := Box.up hU 2 _ rfl; have uu3 := Box.up hU 3 _ rfl; have uu4 := Box.up hU 4 _ rfl
        have vu0 := Box.up hV 0 _ rfl; have vu1 := Box.up hV 1 _ rfl; have vu2 := Box.up hV 2 _ rfl; have vu3 := Box.up hV 3 _ rfl; have vu4 := Box.up hV 4 _ rfl
        clear hP
        refine region_up (by kernel_rfl) (by kernel_rfl) ?_
        repeat (go_big_quiet_step ((first
          | (go_at_call 12; exact up_call _ (streamBegun_any _))
          | (go_at_call 13; exact up_call _ (check_any e0 r sg fr st _ HQ.out _))
          | (go_at_call 9; exact up_call _ (checkState_any e0 r sg fr st _ HQ.out _))
          | (go_at_call 14; (first | with_reducible exact up_call _ (intsAre_yes (.slice A1 _ c1) _ xs xs 0 _ (i1.bel (Up.b _)) (i5.bel (Up.b _)) (by rw [if_pos rfl])) | with_reducible exact up_call _ (intsAre_yes (.slice A3 _ c3) _ ys ys 0 _ (i3.bel (Up.b _)) (i6.bel (Up.b _)) (by rw [if_pos rfl])))))))
        refine wpQuiet_nil ?_
        intro _ hw'
        obtain ⟨uu, rfl⟩ := hw'
        have b9 := uu.b
        generalize uu.v = wu at *
        go_wp2_with fail
        go_ret
        exact ⟨rfl, hb.trans b9⟩
      · skip
        have hf2 : (ys, (⟨n2, l2, sg2, fr2, st2⟩ : M.St), g) = ([], ⟨0, [], 0, false, false⟩, q) := by rw [← hf, M.feedE, hq, if_neg hq0]
        simp only [Prod.mk.injEq, M.St.mk.injEq] at hf2
        obtain ⟨rfl, ⟨rfl, rfl, rfl, rfl, rfl⟩, rfl⟩ := hf2
        have e1 : (g == 0) = false := by simpa using hq0
        have e2 : (g != 0) = true := by simpa using hq0
        clear hf hq hlg h hq0 hl0 hxs
        go_enter Try.func3, Try.ntmps3
        have hS := Box.new w 23 [.int .i64 e0, .string r, .int .i64 sg, .bool fr, .bool st]
        have hb := Bel.refl w
        go_wp2_with fail
        refine (decE_sl n b _ _ HD.out _).mono ?_
        rintro e w1 ⟨A1, c1, rfl, o1, b1⟩
        have hb := Bel.trans (Bel.trans hb (by repeat (first | exact Bel.refl _ | refine Bel.drewN ?_ _ | refine Bel.drew ?_ | refine Bel.alloc ?_ _ | refine Bel.trans ?_ (by assumption) | refine Bel.setCell ?_ (by simp; omega) _))) b1; have hS := Box.bel (Box.bel hS (by repeat (first | exact Bel.refl _ | refine Bel.drewN ?_ _ | refine Bel.drew ?_ | refine Bel.alloc ?_ _ | refine Bel.trans ?_ (by assumption) | refine Bel.setCell ?_ (by simp; omega) _))) b1; (try have hO := Box.bel (Box.bel hO (by repeat (first | exact Bel.refl _ | refine Bel.drewN ?_ _ | refine Bel.drew ?_ | refine Bel.alloc ?_ _ | refine Bel.trans ?_ (by assumption) | refine Bel.setCell ?_ (by simp; omega) _))) b1); (try have hT := Box.bel (Box.bel hT (by repeat (first | exact Bel.refl _ | refine Bel.drewN ?_ _ | refine Bel.drew ?_ | refine Bel.alloc ?_ _ | refine Bel.trans ?_ (by assumption) | refine Bel.setCell ?_ (by simp; omega) _))) b1); (try have hU := Box.bel (Box.bel hU (by repeat (first | exact Bel.refl _ | refine Bel.drewN ?_ _ | refine Bel.drew ?_ | refine Bel.alloc ?_ _ | refine Bel.trans ?_ (by assumption) | refine Bel.setCell ?_ (by simp; omega) _))) b1); (try have hV := Box.bel (Box.bel hV (by repeat (first | exact Bel.refl _ | refine Bel.drewN ?_ _ | refine Bel.drew ?_ | refine Bel.alloc ?_ _ | refine Bel.trans ?_ (by assumption) | refine Bel.setCell ?_ (by simp; omega) _))) b1); (try have i1 := IntSl.bel (IntSl.bel i1 (by repeat (first | exact Bel.refl _ | refine Bel.drewN ?_ _ | refine Bel.drew ?_ | refine Bel.alloc ?_ _ | refine Bel.trans ?_ (by assumption) | refine Bel.setCell ?_ (by simp; omega) _))) b1); (try have i3 := IntSl.bel (IntSl.bel i3 (by repeat (first | exact Bel.refl _ | refine Bel.drewN ?_ _ | refine Bel.drew ?_ | refine Bel.alloc ?_ _ | refine Bel.trans ?_ (by assumption) | refine Bel.setCell ?_ (by simp; omega) _))) b1); clear b1; have hSl := hS.lt; have sc0 := hS.cell 0 _ rfl; have sc1 := hS.cell 1 _ rfl; have sc2 := hS.cell 2 _ rfl; have sc3 := hS.cell 3 _ rfl; have sc4 := hS.cell 4 _ rfl
        have i1 := o1.ints
        clear o1
        go_wp2_with fail
        refine (open_yes n HI.out _).mono ?_
        rintro e w2 ⟨rfl, b2⟩
        have hb := Bel.trans (Bel.trans hb (by repeat (first | exact Bel.refl _ | refine Bel.drewN ?_ _ | refine Bel.drew ?_ | refine Bel.alloc ?_ _ | refine Bel.trans ?_ (by assumption) | refine Bel.setCell ?_ (by simp; omega) _))) b2; have hS := Box.bel (Box.bel hS (by repeat (first | exact Bel.refl _ | refine Bel.drewN ?_ _ | refine Bel.drew ?_ | refine Bel.alloc ?_ _ | refine Bel.trans ?_ (by assumption) | refine Bel.setCell ?_ (by simp; omega) _))) b2; (try have hO := Box.bel (Box.bel hO (by repeat (first | exact Bel.refl _ | refine Bel.drewN ?_ _ | refine Bel.drew ?_ | refine Bel.alloc ?_ _ | refine Bel.trans ?_ (by assumption) | refine Bel.setCell ?_ (by simp; omega) _))) b2); (try have hT := Box.bel (Box.bel hT (by repeat (first | exact Bel.refl _ | refine Bel.drewN ?_ _ | refine Bel.drew ?_ | refine Bel.alloc ?_ _ | refine Bel.trans ?_ (by assumption) | refine Bel.setCell ?_ (by simp; omega) _))) b2); (try have hU := Box.bel (Box.bel hU (by repeat (first | exact Bel.refl _ | refine Bel.drewN ?_ _ | refine Bel.drew ?_ | refine Bel.alloc ?_ _ | refine Bel.trans ?_ (by assumption) | refine Bel.setCell ?_ (by simp; omega) _))) b2); (try have hV := Box.bel (Box.bel hV (by repeat (first | exact Bel.refl _ | refine Bel.drewN ?_ _ | refine Bel.drew ?_ | refine Bel.alloc ?_ _ | refine Bel.trans ?_ (by assumption) | refine Bel.setCell ?_ (by simp; omega) _))) b2); (try have i1 := IntSl.bel (IntSl.bel i1 (by repeat (first | exact Bel.refl _ | refine Bel.drewN ?_ _ | refine Bel.drew ?_ | refine Bel.alloc ?_ _ | refine Bel.trans ?_ (by assumption) | refine Bel.setCell ?_ (by simp; omega) _))) b2); (try have i3 := IntSl.bel (IntSl.bel i3 (by repeat (first | exact Bel.refl _ | refine Bel.drewN ?_ _ | refine Bel.drew ?_ | refine Bel.alloc ?_ _ | refine Bel.trans ?_ (by assumption) | refine Bel.setCell ?_ (by simp; omega) _))) b2); clear b2; have hSl := hS.lt; have sc0 := hS.cell 0 _ rfl; have sc1 := hS.cell 1 _ rfl; have sc2 := hS.cell 2 _ rfl; have sc3 := hS.cell 3 _ rfl; have sc4 := hS.cell 4 _ rfl
        have hO := Box.new w2 23 [.int .i64 n, .string ⟨#[]⟩, .int .i64 0, .bool false, .bool false]
        go_wp2_with fail
        refine (feed_sl e0 r sg fr st b last _ _ _ _ _ _ _ HF.out _).mono ?_
        rintro e w3 ⟨A3, c3, rfl, o3, b3⟩
        have hO := Box.bel hO b3
        have hOq := hO
        clear hO
        have hb := Bel.trans (Bel.trans hb (by repeat (first | exact Bel.refl _ | refine Bel.drewN ?_ _ | refine Bel.drew ?_ | refine Bel.alloc ?_ _ | refine Bel.trans ?_ (by assumption) | refine Bel.setCell ?_ (by simp; omega) _))) b3; have hS := Box.bel (Box.bel hS (by repeat (first | exact Bel.refl _ | refine Bel.drewN ?_ _ | refine Bel.drew ?_ | refine Bel.alloc ?_ _ | refine Bel.trans ?_ (by assumption) | refine Bel.setCell ?_ (by simp; omega) _))) b3; (try have hO := Box.bel (Box.bel hO (by repeat (first | exact Bel.refl _ | refine Bel.drewN ?_ _ | refine Bel.drew ?_ | refine Bel.alloc ?_ _ | refine Bel.trans ?_ (by assumption) | refine Bel.setCell ?_ (by simp; omega) _))) b3); (try have hT := Box.bel (Box.bel hT (by repeat (first | exact Bel.refl _ | refine Bel.drewN ?_ _ | refine Bel.drew ?_ | refine Bel.alloc ?_ _ | refine Bel.trans ?_ (by assumption) | refine Bel.setCell ?_ (by simp; omega) _))) b3); (try have hU := Box.bel (Box.bel hU (by repeat (first | exact Bel.refl _ | refine Bel.drewN ?_ _ | refine Bel.drew ?_ | refine Bel.alloc ?_ _ | refine Bel.trans ?_ (by assumption) | refine Bel.setCell ?_ (by simp; omega) _))) b3); (try have hV := Box.bel (Box.bel hV (by repeat (first | exact Bel.refl _ | refine Bel.drewN ?_ _ | refine Bel.drew ?_ | refine Bel.alloc ?_ _ | refine Bel.trans ?_ (by assumption) | refine Bel.setCell ?_ (by simp; omega) _))) b3); (try have i1 := IntSl.bel (IntSl.bel i1 (by repeat (first | exact Bel.refl _ | refine Bel.drewN ?_ _ | refine Bel.drew ?_ | refine Bel.alloc ?_ _ | refine Bel.trans ?_ (by assumption) | refine Bel.setCell ?_ (by simp; omega) _))) b3); (try have i3 := IntSl.bel (IntSl.bel i3 (by repeat (first | exact Bel.refl _ | refine Bel.drewN ?_ _ | refine Bel.drew ?_ | refine Bel.alloc ?_ _ | refine Bel.trans ?_ (by assumption) | refine Bel.setCell ?_ (by simp; omega) _))) b3); clear b3; have hSl := hS.lt; have sc0 := hS.cell 0 _ rfl; have sc1 := hS.cell 1 _ rfl; have sc2 := hS.cell 2 _ rfl; have sc3 := hS.cell 3 _ rfl; have sc4 := hS.cell 4 _ rfl
        have hO := hOq
        clear hOq
        have i3 := o3.ints
        clear o3
        have hT := Box.new w3 23 [.int .i64 0, .string ⟨#[]⟩, .int .i64 0, .bool false, .bool false]
        go_wp2_with fail
        refine (isEncoding_to n _ HI.out _).mono ?_
        rintro e w' ⟨rfl, rfl⟩
        go_wp2_with fail
        refine (long_to _ _ HL.out _).mono ?_
        rintro e w' ⟨rfl, rfl⟩
        go_wp2_with fail
        refine (checkState_any e0 r sg fr st _ HQ.out _).mono ?_
        rintro e w4 ⟨rfl, b4⟩
        have hO := Box.bel (Box.bel hO (by repeat (first | exact Bel.refl _ | refine Bel.drewN ?_ _ | refine Bel.drew ?_ | refine Bel.alloc ?_ _ | refine Bel.trans ?_ (by assumption) | refine Bel.setCell ?_ (by simp; omega) _))) b4
        have hT := Box.bel hT b4
        have hb := Bel.trans (Bel.trans hb (by repeat (first | exact Bel.refl _ | refine Bel.drewN ?_ _ | refine Bel.drew ?_ | refine Bel.alloc ?_ _ | refine Bel.trans ?_ (by assumption) | refine Bel.setCell ?_ (by simp; omega) _))) b4
        have hS := Box.bel (Box.bel hS (by repeat (first | exact Bel.refl _ | refine Bel.drewN ?_ _ | refine Bel.drew ?_ | refine Bel.alloc ?_ _ | refine Bel.trans ?_ (by assumption) | refine Bel.setCell ?_ (by simp; omega) _))) b4
        have i1 := IntSl.bel (IntSl.bel i1 (by repeat (first | exact Bel.refl _ | refine Bel.drewN ?_ _ | refine Bel.drew ?_ | refine Bel.alloc ?_ _ | refine Bel.trans ?_ (by assumption) | refine Bel.setCell ?_ (by simp; omega) _))) b4
        have i3 := IntSl.bel (IntSl.bel i3 (by repeat (first | exact Bel.refl _ | refine Bel.drewN ?_ _ | refine Bel.drew ?_ | refine Bel.alloc ?_ _ | refine Bel.trans ?_ (by assumption) | refine Bel.setCell ?_ (by simp; omega) _))) b4
        clear b4
        have sc0 := hS.cell 0 _ rfl; have sc1 := hS.cell 1 _ rfl; have sc2 := hS.cell 2 _ rfl; have sc3 := hS.cell 3 _ rfl; have sc4 := hS.cell 4 _ rfl
        go_upto_if 56 with fail
        have hP : Bel w4 ((w4.alloc (.cells #[.int .i64 0, .string ⟨#[]⟩, .int .i64 0, .bool false, .bool false] 23)).alloc (.cells #[.int .i64 0, .string ⟨#[]⟩, .int .i64 0, .bool false, .bool false] 23)) := (by repeat (first | exact Bel.refl _ | refine Bel.drewN ?_ _ | refine Bel.drew ?_ | refine Bel.alloc ?_ _ | refine Bel.trans ?_ (by assumption) | refine Bel.setCell ?_ (by simp; omega) _))
        have hU := (Box.new w4 23 [.int .i64 0, .string ⟨#[]⟩, .int .i64 0, .bool false, .bool false]).bel ((Bel.refl _).alloc (.cells #[.int .i64 0, .string ⟨#[]⟩, .int .i64 0, .bool false, .bool false] 23))
        have hV : Box ((w4.alloc (.cells #[.int .i64 0, .string ⟨#[]⟩, .int .i64 0, .bool false, .bool false] 23)).alloc (.cells #[.int .i64 0, .string ⟨#[]⟩, .int .i64 0, .bool false, .bool false] 23)) (w4.heap.size + 1) 23 [.int .i64 0, .string ⟨#[]⟩, .int .i64 0, .bool false, .bool false] := by have := Box.new (w4.alloc (.cells #[.int .i64 0, .string ⟨#[]⟩, .int .i64 0, .bool false, .bool false] 23)) 23 [.int .i64 0, .string ⟨#[]⟩, .int .i64 0, .bool false, .bool false]; simpa using this
        have hso := hS.lt
        have hoo := hO.lt
        have hto := hT.lt
        generalize ((w4.alloc (.cells #[.int .i64 0, .string ⟨#[]⟩, .int .i64 0, .bool false, .bool false] 23)).alloc (.cells #[.int .i64 0, .string ⟨#[]⟩, .int .i64 0, .bool false, .bool false] 23)) = P at *
        have hup := hU.lt
        have hvp := hV.lt
        have sb := hS.bel hP
        have sc0 := sb.cell 0 _ rfl; have sc1 := sb.cell 1 _ rfl; have sc2 := sb.cell 2 _ rfl; have sc3 := sb.cell 3 _ rfl; have sc4 := sb.cell 4 _ rfl
        have uc0 := hU.cell 0 _ rfl; have uc1 := hU.cell 1 _ rfl; have uc2 := hU.cell 2 _ rfl; have uc3 := hU.cell 3 _ rfl; have uc4 := hU.cell 4 _ rfl; have uf0 := hU.frozen 0; have uf1 := hU.frozen 1; have uf2 := hU.frozen 2; have uf3 := hU.frozen 3; have uf4 := hU.frozen 4
        have vc0 := hV.cell 0 _ rfl; have vc1 := hV.cell 1 _ rfl; have vc2 := hV.cell 2 _ rfl; have vc3 := hV.cell 3 _ rfl; have vc4 := hV.cell 4 _ rfl; have vf0 := hV.frozen 0; have vf1 := hV.frozen 1; have vf2 := hV.frozen 2; have vf3 := hV.frozen 3; have vf4 := hV.frozen 4
        go_wp2_with fail
        refine (HDO.out _).mono ?_
        rintro e w5 ⟨v5, rfl, o5, b5⟩
        have hP := hP.trans b5; have hU := hU.bel b5; have hV := hV.bel b5; have sb := hS.bel hP; clear b5; have sc0 := sb.cell 0 _ rfl; have sc1 := sb.cell 1 _ rfl; have sc2 := sb.cell 2 _ rfl; have sc3 := sb.cell 3 _ rfl; have sc4 := sb.cell 4 _ rfl; have uc0 := hU.cell 0 _ rfl; have uc1 := hU.cell 1 _ rfl; have uc2 := hU.cell 2 _ rfl; have uc3 := hU.cell 3 _ rfl; have uc4 := hU.cell 4 _ rfl; have uf0 := hU.frozen 0; have uf1 := hU.frozen 1; have uf2 := hU.frozen 2; have uf3 := hU.frozen 3; have uf4 := hU.frozen 4; have vc0 := hV.cell 0 _ rfl; have vc1 := hV.cell 1 _ rfl; have vc2 := hV.cell 2 _ rfl; have vc3 := hV.cell 3 _ rfl; have vc4 := hV.cell 4 _ rfl; have vf0 := hV.frozen 0; have vf1 := hV.frozen 1; have vf2 := hV.frozen 2; have vf3 := hV.frozen 3; have vf4 := hV.frozen 4
        have hV5 := hV
        go_upto_region 20 with fail
        have hU := ((((hU.set 0 (.int .i64 n)).set 1 (.string ⟨#[]⟩)).set 2 (.int .i64 0)).set 3 (.bool false)).set 4 (.bool false)
        have hV := ((((hV.far (p := ⟨w4.heap.size, 0, none⟩) (by simp) (.int .i64 n)).far (p := ⟨w4.heap.size, 1, none⟩) (by simp) (.string ⟨#[]⟩)).far (p := ⟨w4.heap.size, 2, none⟩) (by simp) (.int .i64 0)).far (p := ⟨w4.heap.size, 3, none⟩) (by simp) (.bool false)).far (p := ⟨w4.heap.size, 4, none⟩) (by simp) (.bool false)
        have hP := ((((hP.setCell (p := ⟨w4.heap.size, 0, none⟩) (Nat.le_refl _) (.int .i64 n)).setCell (p := ⟨w4.heap.size, 1, none⟩) (Nat.le_refl _) (.string ⟨#[]⟩)).setCell (p := ⟨w4.heap.size, 2, none⟩) (Nat.le_refl _) (.int .i64 0)).setCell (p := ⟨w4.heap.size, 3, none⟩) (Nat.le_refl _) (.bool false)).setCell (p := ⟨w4.heap.size, 4, none⟩) (Nat.le_refl _) (.bool false)
        have o5 := ((((o5.setCell (p := ⟨w4.heap.size, 0, none⟩) hup (.int .i64 n)).setCell (p := ⟨w4.heap.size, 1, none⟩) hup (.string ⟨#[]⟩)).setCell (p := ⟨w4.heap.size, 2, none⟩) hup (.int .i64 0)).setCell (p := ⟨w4.heap.size, 3, none⟩) hup (.bool false)).setCell (p := ⟨w4.heap.size, 4, none⟩) hup (.bool false)
        have i5 := o5.ints
        have i1 := IntSl.bel i1 hP
        have i3 := IntSl.bel i3 hP
        have hS := hS.bel hP
        have hO := hO.bel hP
        have hT := hT.bel hP
        have hb := hb.trans hP
        have su0 := Box.up hS 0 _ rfl; have su1 := Box.up hS 1 _ rfl; have su2 := Box.up hS 2 _ rfl; have su3 := Box.up hS 3 _ rfl; have su4 := Box.up hS 4 _ rfl
        have ou0 := Box.up hO 0 _ rfl; have ou1 := Box.up hO 1 _ rfl; have ou2 := Box.up hO 2 _ rfl; have ou3 := Box.up hO 3 _ rfl; have ou4 := Box.up hO 4 _ rfl
        have tu0 := Box.up hT 0 _ rfl; have tu1 := Box.up hT 1 _ rfl; have tu2 := Box.up hT 2 _ rfl; have tu3 := Box.up hT 3 _ rfl; have tu4 := Box.up hT 4 _ rfl
        have uu0 := Box.up hU 0 _ rfl; have uu1 := Box.up hU 1 _ rfl; have uu2 := Box.up hU 2 _ rfl; have uu3 := Box.up hU 3 _ rfl; have uu4 := Box.up hU 4 _ rfl
        have vu0 := Box.up hV 0 _ rfl; have vu1 := Box.up hV 1 _ rfl; have vu2 := Box.up hV 2 _ rfl; have vu3 := Box.up hV 3 _ rfl; have vu4 := Box.up hV 4 _ rfl
        clear hP
        refine region_up (by kernel_rfl) (by kernel_rfl) ?_
        repeat (go_big_quiet_step ((first
          | (go_at_call 12; exact up_call _ (streamBegun_any _))
          | (go_at_call 13; exact up_call _ (check_any e0 r sg fr st _ HQ.out _))
          | (go_at_call 9; exact up_call _ (checkState_any e0 r sg fr st _ HQ.out _))
          | (go_at_call 14; (first | with_reducible exact up_call _ (intsAre_yes (.slice A1 _ c1) _ xs xs 0 _ (i1.bel (Up.b _)) (i5.bel (Up.b _)) (by rw [if_pos rfl])) | with_reducible exact up_call _ (intsAre_yes (.slice A3 _ c3) _ [] [] g _ (i3.bel (Up.b _)) (IntSl.nil_ _) (by split <;> rfl)))))))
        refine wpQuiet_nil ?_
        intro _ hw'
        obtain ⟨uu, rfl⟩ := hw'
        have b9 := uu.b
        generalize uu.v = wu at *
        go_wp2_with fail
        go_ret
        exact ⟨rfl, hb.trans b9⟩
end Go.Proofs.Ytcgdecpjlggekaa

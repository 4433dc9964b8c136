/-
  Texts of the proof, laid together: FrontR3, FrontR4, LawKit. No condition of its own.
-/
import Derived.Test.YtcgdecpjlggekaaGreatDoorG11
import Derived.Test.YtcgdecpjlggekaaGreatDoorG7
import Derived.BigRegion
import Derived.Test.YtcgdecpjlggekaaGreatDoorG8

/-
  The document's answers on fronts: FrontOf.
-/
namespace Go.Proofs.YtcgdecpjlggekaaGreatDoor
open Go.RowKit
set_option maxRecDepth 1000000
set_option maxHeartbeats 1000000

/-- Bytes wait. -/
theorem frontOf_wait (lb : ByteArray) (en wy : Int) (wt : ByteArray) (se : Int) (rs : ByteArray) (sg : Int) (fr st : Bool) (b : ByteArray) (hl : lb.size ≤ 3000) (hw : wt.size ≤ 3000) (hb3 : b.size ≤ 3000) (hy : wy = 0) (hn : M.enough lb.data.toList (wt ++ b).data.toList = false) (w : World) :
    Calls Tryz.prog 11 #[.agg #[.string lb, .int .i64 en, .int .i64 wy, .string wt, .int .i64 se, .string rs, .int .i64 sg, .bool fr, .bool st], .string b, .bool false] w fun e w' => e = .returned (.tuple #[.slice none 0 0, .agg #[.string lb, .int .i64 en, .int .i64 wy, .string (wt ++ b), .int .i64 se, .string rs, .int .i64 sg, .bool fr, .bool st]]) ∧ Bel w w' := by
  have HN := Lib.hid hn
  have g5 : (wy == 0) = true := by simpa using hy
  clear hn hy
  have hR : Box ((w.alloc (.cells #[.string lb, .int .i64 en, .int .i64 wy, .string wt, .int .i64 se, .string rs, .int .i64 sg, .bool fr, .bool st] 25)).alloc (.cells #[.string ⟨#[]⟩, .int .i64 0, .int .i64 0, .string ⟨#[]⟩, .int .i64 0, .string ⟨#[]⟩, .int .i64 0, .bool false, .bool false] 25)) (w.heap.size + 1) 25 [.string ⟨#[]⟩, .int .i64 0, .int .i64 0, .string ⟨#[]⟩, .int .i64 0, .string ⟨#[]⟩, .int .i64 0, .bool false, .bool false] := by have := Box.new (w.alloc (.cells #[.string lb, .int .i64 en, .int .i64 wy, .string wt, .int .i64 se, .string rs, .int .i64 sg, .bool fr, .bool st] 25)) 25 [.string ⟨#[]⟩, .int .i64 0, .int .i64 0, .string ⟨#[]⟩, .int .i64 0, .string ⟨#[]⟩, .int .i64 0, .bool false, .bool false]; simpa using this
  have hS : Box ((w.alloc (.cells #[.string lb, .int .i64 en, .int .i64 wy, .string wt, .int .i64 se, .string rs, .int .i64 sg, .bool fr, .bool st] 25)).alloc (.cells #[.string ⟨#[]⟩, .int .i64 0, .int .i64 0, .string ⟨#[]⟩, .int .i64 0, .string ⟨#[]⟩, .int .i64 0, .bool false, .bool false] 25)) w.heap.size 25 [.string lb, .int .i64 en, .int .i64 wy, .string wt, .int .i64 se, .string rs, .int .i64 sg, .bool fr, .bool st] := (Box.new w _ _).bel ((Bel.refl _).alloc _)
  have hb0 : Bel w ((w.alloc (.cells #[.string lb, .int .i64 en, .int .i64 wy, .string wt, .int .i64 se, .string rs, .int .i64 sg, .bool fr, .bool st] 25)).alloc (.cells #[.string ⟨#[]⟩, .int .i64 0, .int .i64 0, .string ⟨#[]⟩, .int .i64 0, .string ⟨#[]⟩, .int .i64 0, .bool false, .bool false] 25)) := (by repeat (first | exact Bel.refl _ | refine Bel.drewN ?_ _ | refine Bel.drew ?_ | refine Bel.alloc ?_ _ | refine Bel.trans ?_ (by assumption) | refine Bel.setCell ?_ (by simp; omega) _))
  go_enter Tryz.func11, Tryz.ntmps11
  go_upto_region 1 with fail
  generalize ((w.alloc (.cells #[.string lb, .int .i64 en, .int .i64 wy, .string wt, .int .i64 se, .string rs, .int .i64 sg, .bool fr, .bool st] 25)).alloc (.cells #[.string ⟨#[]⟩, .int .i64 0, .int .i64 0, .string ⟨#[]⟩, .int .i64 0, .string ⟨#[]⟩, .int .i64 0, .bool false, .bool false] 25)) = P at *
  have sc0 := hS.cell 0 _ rfl; have sc1 := hS.cell 1 _ rfl; have sc2 := hS.cell 2 _ rfl; have sc3 := hS.cell 3 _ rfl; have sc4 := hS.cell 4 _ rfl; have sc5 := hS.cell 5 _ rfl; have sc6 := hS.cell 6 _ rfl; have sc7 := hS.cell 7 _ rfl; have sc8 := hS.cell 8 _ rfl; have sf0 := hS.frozen 0; have sf1 := hS.frozen 1; have sf2 := hS.frozen 2; have sf3 := hS.frozen 3; have sf4 := hS.frozen 4; have sf5 := hS.frozen 5; have sf6 := hS.frozen 6; have sf7 := hS.frozen 7; have sf8 := hS.frozen 8; have rc0 := hR.cell 0 _ rfl; have rc1 := hR.cell 1 _ rfl; have rc2 := hR.cell 2 _ rfl; have rc3 := hR.cell 3 _ rfl; have rc4 := hR.cell 4 _ rfl; have rc5 := hR.cell 5 _ rfl; have rc6 := hR.cell 6 _ rfl; have rc7 := hR.cell 7 _ rfl; have rc8 := hR.cell 8 _ rfl; have rf0 := hR.frozen 0; have rf1 := hR.frozen 1; have rf2 := hR.frozen 2; have rf3 := hR.frozen 3; have rf4 := hR.frozen 4; have rf5 := hR.frozen 5; have rf6 := hR.frozen 6; have rf7 := hR.frozen 7; have rf8 := hR.frozen 8
  go_wp2_with fail
  refine (isEnough_to lb (wt ++ b) _ HN.out (by omega) _).mono ?_
  rintro e w1 ⟨rfl, b1⟩
  have hS := hS.bel b1
  have hR := hR.bel b1
  have hb0 := hb0.trans b1
  have sc0 := hS.cell 0 _ rfl; have sc1 := hS.cell 1 _ rfl; have sc2 := hS.cell 2 _ rfl; have sc3 := hS.cell 3 _ rfl; have sc4 := hS.cell 4 _ rfl; have sc5 := hS.cell 5 _ rfl; have sc6 := hS.cell 6 _ rfl; have sc7 := hS.cell 7 _ rfl; have sc8 := hS.cell 8 _ rfl; have sf0 := hS.frozen 0; have sf1 := hS.frozen 1; have sf2 := hS.frozen 2; have sf3 := hS.frozen 3; have sf4 := hS.frozen 4; have sf5 := hS.frozen 5; have sf6 := hS.frozen 6; have sf7 := hS.frozen 7; have sf8 := hS.frozen 8; have rc0 := hR.cell 0 _ rfl; have rc1 := hR.cell 1 _ rfl; have rc2 := hR.cell 2 _ rfl; have rc3 := hR.cell 3 _ rfl; have rc4 := hR.cell 4 _ rfl; have rc5 := hR.cell 5 _ rfl; have rc6 := hR.cell 6 _ rfl; have rc7 := hR.cell 7 _ rfl; have rc8 := hR.cell 8 _ rfl; have rf0 := hR.frozen 0; have rf1 := hR.frozen 1; have rf2 := hR.frozen 2; have rf3 := hR.frozen 3; have rf4 := hR.frozen 4; have rf5 := hR.frozen 5; have rf6 := hR.frozen 6; have rf7 := hR.frozen 7; have rf8 := hR.frozen 8
  go_upto_region 6 with fail
  have hS := hS.set 3 (.string (wt ++ b))
  have hR := hR.far (p := ⟨w.heap.size, 3, none⟩) (by simp) (.string (wt ++ b))
  have hbw := hb0.setCell (p := ⟨w.heap.size, 3, none⟩) (Nat.le_refl _) (.string (wt ++ b))
  generalize (w1.setCell ⟨w.heap.size, 3, none⟩ (.string (wt ++ b))) = W at *
  have hS : Box W w.heap.size 25 [.string lb, .int .i64 en, .int .i64 wy, .string (wt ++ b), .int .i64 se, .string rs, .int .i64 sg, .bool fr, .bool st] := hS
  have sc0 := hS.cell 0 _ rfl; have sc1 := hS.cell 1 _ rfl; have sc2 := hS.cell 2 _ rfl; have sc3 := hS.cell 3 _ rfl; have sc4 := hS.cell 4 _ rfl; have sc5 := hS.cell 5 _ rfl; have sc6 := hS.cell 6 _ rfl; have sc7 := hS.cell 7 _ rfl; have sc8 := hS.cell 8 _ rfl; have sf0 := hS.frozen 0; have sf1 := hS.frozen 1; have sf2 := hS.frozen 2; have sf3 := hS.frozen 3; have sf4 := hS.frozen 4; have sf5 := hS.frozen 5; have sf6 := hS.frozen 6; have sf7 := hS.frozen 7; have sf8 := hS.frozen 8; have rc0 := hR.cell 0 _ rfl; have rc1 := hR.cell 1 _ rfl; have rc2 := hR.cell 2 _ rfl; have rc3 := hR.cell 3 _ rfl; have rc4 := hR.cell 4 _ rfl; have rc5 := hR.cell 5 _ rfl; have rc6 := hR.cell 6 _ rfl; have rc7 := hR.cell 7 _ rfl; have rc8 := hR.cell 8 _ rfl; have rf0 := hR.frozen 0; have rf1 := hR.frozen 1; have rf2 := hR.frozen 2; have rf3 := hR.frozen 3; have rf4 := hR.frozen 4; have rf5 := hR.frozen 5; have rf6 := hR.frozen 6; have rf7 := hR.frozen 7; have rf8 := hR.frozen 8
  go_region
  go_wp2_with fail
  have hF := Box.drew (((((((((hR.set 0 (.string lb)).set 1 (.int .i64 en)).set 2 (.int .i64 wy)).set 3 (.string (wt ++ b))).set 4 (.int .i64 se)).set 5 (.string rs)).set 6 (.int .i64 sg)).set 7 (.bool fr)).set 8 (.bool st))
  have uc0 := hF.cell 0 _ rfl; have uc1 := hF.cell 1 _ rfl; have uc2 := hF.cell 2 _ rfl; have uc3 := hF.cell 3 _ rfl; have uc4 := hF.cell 4 _ rfl; have uc5 := hF.cell 5 _ rfl; have uc6 := hF.cell 6 _ rfl; have uc7 := hF.cell 7 _ rfl; have uc8 := hF.cell 8 _ rfl
  refine bodyPost_ret (v := .tuple #[.slice none 0 0, .agg #[.string lb, .int .i64 en, .int .i64 wy, .string (wt ++ b), .int .i64 se, .string rs, .int .i64 sg, .bool fr, .bool st]]) (by simp [results, Tryz.results11, go_sem, uc0, uc1, uc2, uc3, uc4, uc5, uc6, uc7, uc8]) rfl ?_
  exact ⟨rfl, (((((((((hbw.setCell (p := ⟨w.heap.size + 1, 0, none⟩) (by simp) _).setCell (p := ⟨w.heap.size + 1, 1, none⟩) (by simp) _).setCell (p := ⟨w.heap.size + 1, 2, none⟩) (by simp) _).setCell (p := ⟨w.heap.size + 1, 3, none⟩) (by simp) _).setCell (p := ⟨w.heap.size + 1, 4, none⟩) (by simp) _).setCell (p := ⟨w.heap.size + 1, 5, none⟩) (by simp) _).setCell (p := ⟨w.heap.size + 1, 6, none⟩) (by simp) _).setCell (p := ⟨w.heap.size + 1, 7, none⟩) (by simp) _).setCell (p := ⟨w.heap.size + 1, 8, none⟩) (by simp) _).drew⟩
/-- It is chosen: bytes come to the decoder. -/
theorem frontOf_on (lb : ByteArray) (en wy : Int) (wt : ByteArray) (se : Int) (rs : ByteArray) (sg : Int) (fr st : Bool) (b : ByteArray) (last : Bool) (hy : wy ≠ 0) (he : M.isEnc se = true) (hsz : rs.size + b.size ≤ 68719476730) (xs : List Int) (d2 : M.St) (h : M.refM ⟨se, rs.data.toList, sg, fr, st⟩ b.data.toList last = (xs, d2)) (w : World) :
    Calls Tryz.prog 11 #[.agg #[.string lb, .int .i64 en, .int .i64 wy, .string wt, .int .i64 se, .string rs, .int .i64 sg, .bool fr, .bool st], .string b, .bool last] w fun e w' => ∃ v, e = .returned (.tuple #[v, .agg (if last = true then #[.string lb, .int .i64 0, .int .i64 0, .string ⟨#[]⟩, .int .i64 0, .string ⟨#[]⟩, .int .i64 0, .bool false, .bool false] else #[.string lb, .int .i64 en, .int .i64 wy, .string wt, .int .i64 d2.enc, .string ⟨d2.rest.toArray⟩, .int .i64 d2.signs, .bool d2.fresh, .bool d2.stopped])]) ∧ Own w.heap.size 3 w' v (xs.map (Value.int .i64)) ∧ Bel w w' := by
  have HE := Lib.hid he
  have HW := Lib.hid h
  have g5 : (wy == 0) = false := by simpa using hy
  clear he h hy
  have hR : Box ((w.alloc (.cells #[.string lb, .int .i64 en, .int .i64 wy, .string wt, .int .i64 se, .string rs, .int .i64 sg, .bool fr, .bool st] 25)).alloc (.cells #[.string ⟨#[]⟩, .int .i64 0, .int .i64 0, .string ⟨#[]⟩, .int .i64 0, .string ⟨#[]⟩, .int .i64 0, .bool false, .bool false] 25)) (w.heap.size + 1) 25 [.string ⟨#[]⟩, .int .i64 0, .int .i64 0, .string ⟨#[]⟩, .int .i64 0, .string ⟨#[]⟩, .int .i64 0, .bool false, .bool false] := by have := Box.new (w.alloc (.cells #[.string lb, .int .i64 en, .int .i64 wy, .string wt, .int .i64 se, .string rs, .int .i64 sg, .bool fr, .bool st] 25)) 25 [.string ⟨#[]⟩, .int .i64 0, .int .i64 0, .string ⟨#[]⟩, .int .i64 0, .string ⟨#[]⟩, .int .i64 0, .bool false, .bool false]; simpa using this
  have hS : Box ((w.alloc (.cells #[.string lb, .int .i64 en, .int .i64 wy, .string wt, .int .i64 se, .string rs, .int .i64 sg, .bool fr, .bool st] 25)).alloc (.cells #[.string ⟨#[]⟩, .int .i64 0, .int .i64 0, .string ⟨#[]⟩, .int .i64 0, .string ⟨#[]⟩, .int .i64 0, .bool false, .bool false] 25)) w.heap.size 25 [.string lb, .int .i64 en, .int .i64 wy, .string wt, .int .i64 se, .string rs, .int .i64 sg, .bool fr, .bool st] := (Box.new w _ _).bel ((Bel.refl _).alloc _)
  have hb0 : Bel w ((w.alloc (.cells #[.string lb, .int .i64 en, .int .i64 wy, .string wt, .int .i64 se, .string rs, .int .i64 sg, .bool fr, .bool st] 25)).alloc (.cells #[.string ⟨#[]⟩, .int .i64 0, .int .i64 0, .string ⟨#[]⟩, .int .i64 0, .string ⟨#[]⟩, .int .i64 0, .bool false, .bool false] 25)) := (by repeat (first | exact Bel.refl _ | refine Bel.drewN ?_ _ | refine Bel.drew ?_ | refine Bel.alloc ?_ _ | refine Bel.trans ?_ (by assumption) | refine Bel.setCell ?_ (by simp; omega) _))
  go_enter Tryz.func11, Tryz.ntmps11
  go_upto_region 1 with fail
  generalize ((w.alloc (.cells #[.string lb, .int .i64 en, .int .i64 wy, .string wt, .int .i64 se, .string rs, .int .i64 sg, .bool fr, .bool st] 25)).alloc (.cells #[.string ⟨#[]⟩, .int .i64 0, .int .i64 0, .string ⟨#[]⟩, .int .i64 0, .string ⟨#[]⟩, .int .i64 0, .bool false, .bool false] 25)) = P at *
  have sc0 := hS.cell 0 _ rfl; have sc1 := hS.cell 1 _ rfl; have sc2 := hS.cell 2 _ rfl; have sc3 := hS.cell 3 _ rfl; have sc4 := hS.cell 4 _ rfl; have sc5 := hS.cell 5 _ rfl; have sc6 := hS.cell 6 _ rfl; have sc7 := hS.cell 7 _ rfl; have sc8 := hS.cell 8 _ rfl; have sf0 := hS.frozen 0; have sf1 := hS.frozen 1; have sf2 := hS.frozen 2; have sf3 := hS.frozen 3; have sf4 := hS.frozen 4; have sf5 := hS.frozen 5; have sf6 := hS.frozen 6; have sf7 := hS.frozen 7; have sf8 := hS.frozen 8; have rc0 := hR.cell 0 _ rfl; have rc1 := hR.cell 1 _ rfl; have rc2 := hR.cell 2 _ rfl; have rc3 := hR.cell 3 _ rfl; have rc4 := hR.cell 4 _ rfl; have rc5 := hR.cell 5 _ rfl; have rc6 := hR.cell 6 _ rfl; have rc7 := hR.cell 7 _ rfl; have rc8 := hR.cell 8 _ rfl; have rf0 := hR.frozen 0; have rf1 := hR.frozen 1; have rf2 := hR.frozen 2; have rf3 := hR.frozen 3; have rf4 := hR.frozen 4; have rf5 := hR.frozen 5; have rf6 := hR.frozen 6; have rf7 := hR.frozen 7; have rf8 := hR.frozen 8
  go_wp2_with fail
  refine (feedOf_any se HE.out rs sg fr st b last hsz _ _ HW.out _).mono ?_
  skip
  rintro e w3 ⟨v2, rfl, o2, b3⟩
  rw [stV]
  go_upto_region 11 with fail
  have hsB := hS.lt
  have hrB := hR.lt
  have hwB := hb0.size
  have hq : Bel P (w3.alloc (.cells #[.int .i64 d2.enc, .string ⟨d2.rest.toArray⟩, .int .i64 d2.signs, .bool d2.fresh, .bool d2.stopped] 23)) := b3.alloc _
  have hN := Box.new w3 23 [.int .i64 d2.enc, .string ⟨d2.rest.toArray⟩, .int .i64 d2.signs, .bool d2.fresh, .bool d2.stopped]
  have hS := hS.bel hq
  have hR := hR.bel hq
  have hb0 := hb0.trans hq
  have o2 := o2.alloc (.cells #[.int .i64 d2.enc, .string ⟨d2.rest.toArray⟩, .int .i64 d2.signs, .bool d2.fresh, .bool d2.stopped] 23)
  have hnq : ¬ w3.heap.size = w.heap.size := by have := b3.size; omega
  have hqn : ¬ w.heap.size = w3.heap.size := by have := b3.size; omega
  clear b3 hq
  generalize (w3.alloc (.cells #[.int .i64 d2.enc, .string ⟨d2.rest.toArray⟩, .int .i64 d2.signs, .bool d2.fresh, .bool d2.stopped] 23)) = W at *
  generalize w3.heap.size = q at *
  have sc0 := hS.cell 0 _ rfl; have sc1 := hS.cell 1 _ rfl; have sc2 := hS.cell 2 _ rfl; have sc3 := hS.cell 3 _ rfl; have sc4 := hS.cell 4 _ rfl; have sc5 := hS.cell 5 _ rfl; have sc6 := hS.cell 6 _ rfl; have sc7 := hS.cell 7 _ rfl; have sc8 := hS.cell 8 _ rfl; have sf0 := hS.frozen 0; have sf1 := hS.frozen 1; have sf2 := hS.frozen 2; have sf3 := hS.frozen 3; have sf4 := hS.frozen 4; have sf5 := hS.frozen 5; have sf6 := hS.frozen 6; have sf7 := hS.frozen 7; have sf8 := hS.frozen 8; have rc0 := hR.cell 0 _ rfl; have rc1 := hR.cell 1 _ rfl; have rc2 := hR.cell 2 _ rfl; have rc3 := hR.cell 3 _ rfl; have rc4 := hR.cell 4 _ rfl; have rc5 := hR.cell 5 _ rfl; have rc6 := hR.cell 6 _ rfl; have rc7 := hR.cell 7 _ rfl; have rc8 := hR.cell 8 _ rfl; have rf0 := hR.frozen 0; have rf1 := hR.frozen 1; have rf2 := hR.frozen 2; have rf3 := hR.frozen 3; have rf4 := hR.frozen 4; have rf5 := hR.frozen 5; have rf6 := hR.frozen 6; have rf7 := hR.frozen 7; have rf8 := hR.frozen 8
  have n0 := hN.cell 0 _ rfl
  have n1 := hN.cell 1 _ rfl
  have n2 := hN.cell 2 _ rfl
  have n3 := hN.cell 3 _ rfl
  have n4 := hN.cell 4 _ rfl
  clear hN
  go_upto_region 12 with fail
  have hS := ((((hS.set 4 (.int .i64 d2.enc)).set 5 (.string ⟨d2.rest.toArray⟩)).set 6 (.int .i64 d2.signs)).set 7 (.bool d2.fresh)).set 8 (.bool d2.stopped)
  have hR := ((((hR.far (p := ⟨w.heap.size, 4, none⟩) (by simp) (.int .i64 d2.enc)).far (p := ⟨w.heap.size, 5, none⟩) (by simp) (.string ⟨d2.rest.toArray⟩)).far (p := ⟨w.heap.size, 6, none⟩) (by simp) (.int .i64 d2.signs)).far (p := ⟨w.heap.size, 7, none⟩) (by simp) (.bool d2.fresh)).far (p := ⟨w.heap.size, 8, none⟩) (by simp) (.bool d2.stopped)
  have hb0 := ((((hb0.setCell (p := ⟨w.heap.size, 4, none⟩) (Nat.le_refl _) (.int .i64 d2.enc)).setCell (p := ⟨w.heap.size, 5, none⟩) (Nat.le_refl _) (.string ⟨d2.rest.toArray⟩)).setCell (p := ⟨w.heap.size, 6, none⟩) (Nat.le_refl _) (.int .i64 d2.signs)).setCell (p := ⟨w.heap.size, 7, none⟩) (Nat.le_refl _) (.bool d2.fresh)).setCell (p := ⟨w.heap.size, 8, none⟩) (Nat.le_refl _) (.bool d2.stopped)
  have o2 := ((((o2.setCell (p := ⟨w.heap.size, 4, none⟩) hsB (.int .i64 d2.enc)).setCell (p := ⟨w.heap.size, 5, none⟩) hsB (.string ⟨d2.rest.toArray⟩)).setCell (p := ⟨w.heap.size, 6, none⟩) hsB (.int .i64 d2.signs)).setCell (p := ⟨w.heap.size, 7, none⟩) hsB (.bool d2.fresh)).setCell (p := ⟨w.heap.size, 8, none⟩) hsB (.bool d2.stopped)
  generalize (((((W.setCell ⟨w.heap.size, 4, none⟩ (.int .i64 d2.enc)).setCell ⟨w.heap.size, 5, none⟩ (.string ⟨d2.rest.toArray⟩)).setCell ⟨w.heap.size, 6, none⟩ (.int .i64 d2.signs)).setCell ⟨w.heap.size, 7, none⟩ (.bool d2.fresh)).setCell ⟨w.heap.size, 8, none⟩ (.bool d2.stopped)) = X at *
  have hS : Box X w.heap.size 25 [.string lb, .int .i64 en, .int .i64 wy, .string wt, .int .i64 d2.enc, .string ⟨d2.rest.toArray⟩, .int .i64 d2.signs, .bool d2.fresh, .bool d2.stopped] := hS
  have sc0 := hS.cell 0 _ rfl; have sc1 := hS.cell 1 _ rfl; have sc2 := hS.cell 2 _ rfl; have sc3 := hS.cell 3 _ rfl; have sc4 := hS.cell 4 _ rfl; have sc5 := hS.cell 5 _ rfl; have sc6 := hS.cell 6 _ rfl; have sc7 := hS.cell 7 _ rfl; have sc8 := hS.cell 8 _ rfl; have sf0 := hS.frozen 0; have sf1 := hS.frozen 1; have sf2 := hS.frozen 2; have sf3 := hS.frozen 3; have sf4 := hS.frozen 4; have sf5 := hS.frozen 5; have sf6 := hS.frozen 6; have sf7 := hS.frozen 7; have sf8 := hS.frozen 8; have rc0 := hR.cell 0 _ rfl; have rc1 := hR.cell 1 _ rfl; have rc2 := hR.cell 2 _ rfl; have rc3 := hR.cell 3 _ rfl; have rc4 := hR.cell 4 _ rfl; have rc5 := hR.cell 5 _ rfl; have rc6 := hR.cell 6 _ rfl; have rc7 := hR.cell 7 _ rfl; have rc8 := hR.cell 8 _ rfl; have rf0 := hR.frozen 0; have rf1 := hR.frozen 1; have rf2 := hR.frozen 2; have rf3 := hR.frozen 3; have rf4 := hR.frozen 4; have rf5 := hR.frozen 5; have rf6 := hR.frozen 6; have rf7 := hR.frozen 7; have rf8 := hR.frozen 8
  cases last with
  | true =>
    skip
    go_upto_region 14 with fail
    have hS := ((((((((hS.set 0 (.string lb)).set 1 (.int .i64 0)).set 2 (.int .i64 0)).set 3 (.string ⟨#[]⟩)).set 4 (.int .i64 0)).set 5 (.string ⟨#[]⟩)).set 6 (.int .i64 0)).set 7 (.bool false)).set 8 (.bool false)
    have hR := (((((((((hR.far (p := ⟨w.heap.size, 0, none⟩) (by simp) (.string lb)).far (p := ⟨w.heap.size, 1, none⟩) (by simp) (.int .i64 0)).far (p := ⟨w.heap.size, 2, none⟩) (by simp) (.int .i64 0)).far (p := ⟨w.heap.size, 3, none⟩) (by simp) (.string ⟨#[]⟩)).far (p := ⟨w.heap.size, 4, none⟩) (by simp) (.int .i64 0)).far (p := ⟨w.heap.size, 5, none⟩) (by simp) (.string ⟨#[]⟩)).far (p := ⟨w.heap.size, 6, none⟩) (by simp) (.int .i64 0)).far (p := ⟨w.heap.size, 7, none⟩) (by simp) (.bool false)).far (p := ⟨w.heap.size, 8, none⟩) (by simp) (.bool false))
    have hb0 := (((((((((hb0.setCell (p := ⟨w.heap.size, 0, none⟩) (Nat.le_refl _) (.string lb)).setCell (p := ⟨w.heap.size, 1, none⟩) (Nat.le_refl _) (.int .i64 0)).setCell (p := ⟨w.heap.size, 2, none⟩) (Nat.le_refl _) (.int .i64 0)).setCell (p := ⟨w.heap.size, 3, none⟩) (Nat.le_refl _) (.string ⟨#[]⟩)).setCell (p := ⟨w.heap.size, 4, none⟩) (Nat.le_refl _) (.int .i64 0)).setCell (p := ⟨w.heap.size, 5, none⟩) (Nat.le_refl _) (.string ⟨#[]⟩)).setCell (p := ⟨w.heap.size, 6, none⟩) (Nat.le_refl _) (.int .i64 0)).setCell (p := ⟨w.heap.size, 7, none⟩) (Nat.le_refl _) (.bool false)).setCell (p := ⟨w.heap.size, 8, none⟩) (Nat.le_refl _) (.bool false))
    have o2 := (((((((((o2.setCell (p := ⟨w.heap.size, 0, none⟩) hsB (.string lb)).setCell (p := ⟨w.heap.size, 1, none⟩) hsB (.int .i64 0)).setCell (p := ⟨w.heap.size, 2, none⟩) hsB (.int .i64 0)).setCell (p := ⟨w.heap.size, 3, none⟩) hsB (.string ⟨#[]⟩)).setCell (p := ⟨w.heap.size, 4, none⟩) hsB (.int .i64 0)).setCell (p := ⟨w.heap.size, 5, none⟩) hsB (.string ⟨#[]⟩)).setCell (p := ⟨w.heap.size, 6, none⟩) hsB (.int .i64 0)).setCell (p := ⟨w.heap.size, 7, none⟩) hsB (.bool false)).setCell (p := ⟨w.heap.size, 8, none⟩) hsB (.bool false))
    generalize (((((((((X.setCell ⟨w.heap.size, 0, none⟩ (.string lb)).setCell ⟨w.heap.size, 1, none⟩ (.int .i64 0)).setCell ⟨w.heap.size, 2, none⟩ (.int .i64 0)).setCell ⟨w.heap.size, 3, none⟩ (.string ⟨#[]⟩)).setCell ⟨w.heap.size, 4, none⟩ (.int .i64 0)).setCell ⟨w.heap.size, 5, none⟩ (.string ⟨#[]⟩)).setCell ⟨w.heap.size, 6, none⟩ (.int .i64 0)).setCell ⟨w.heap.size, 7, none⟩ (.bool false)).setCell ⟨w.heap.size, 8, none⟩ (.bool false)) = Y at *
    have hS : Box Y w.heap.size 25 [.string lb, .int .i64 0, .int .i64 0, .string ⟨#[]⟩, .int .i64 0, .string ⟨#[]⟩, .int .i64 0, .bool false, .bool false] := hS
    have sc0 := hS.cell 0 _ rfl; have sc1 := hS.cell 1 _ rfl; have sc2 := hS.cell 2 _ rfl; have sc3 := hS.cell 3 _ rfl; have sc4 := hS.cell 4 _ rfl; have sc5 := hS.cell 5 _ rfl; have sc6 := hS.cell 6 _ rfl; have sc7 := hS.cell 7 _ rfl; have sc8 := hS.cell 8 _ rfl; have sf0 := hS.frozen 0; have sf1 := hS.frozen 1; have sf2 := hS.frozen 2; have sf3 := hS.frozen 3; have sf4 := hS.frozen 4; have sf5 := hS.frozen 5; have sf6 := hS.frozen 6; have sf7 := hS.frozen 7; have sf8 := hS.frozen 8; have rc0 := hR.cell 0 _ rfl; have rc1 := hR.cell 1 _ rfl; have rc2 := hR.cell 2 _ rfl; have rc3 := hR.cell 3 _ rfl; have rc4 := hR.cell 4 _ rfl; have rc5 := hR.cell 5 _ rfl; have rc6 := hR.cell 6 _ rfl; have rc7 := hR.cell 7 _ rfl; have rc8 := hR.cell 8 _ rfl; have rf0 := hR.frozen 0; have rf1 := hR.frozen 1; have rf2 := hR.frozen 2; have rf3 := hR.frozen 3; have rf4 := hR.frozen 4; have rf5 := hR.frozen 5; have rf6 := hR.frozen 6; have rf7 := hR.frozen 7; have rf8 := hR.frozen 8
    go_region
    go_wp2_with fail
    have hF := Box.drew (((((((((hR.set 0 (.string lb)).set 1 (.int .i64 0)).set 2 (.int .i64 0)).set 3 (.string ⟨#[]⟩)).set 4 (.int .i64 0)).set 5 (.string ⟨#[]⟩)).set 6 (.int .i64 0)).set 7 (.bool false)).set 8 (.bool false))
    have uc0 := hF.cell 0 _ rfl; have uc1 := hF.cell 1 _ rfl; have uc2 := hF.cell 2 _ rfl; have uc3 := hF.cell 3 _ rfl; have uc4 := hF.cell 4 _ rfl; have uc5 := hF.cell 5 _ rfl; have uc6 := hF.cell 6 _ rfl; have uc7 := hF.cell 7 _ rfl; have uc8 := hF.cell 8 _ rfl
    refine bodyPost_ret (v := .tuple #[v2, .agg #[.string lb, .int .i64 0, .int .i64 0, .string ⟨#[]⟩, .int .i64 0, .string ⟨#[]⟩, .int .i64 0, .bool false, .bool false]]) (by simp [results, Tryz.results11, go_sem, uc0, uc1, uc2, uc3, uc4, uc5, uc6, uc7, uc8]) rfl ?_
    have hbw := hb0
    exact ⟨_, by first | rfl | simp, (((((((((o2.setCell (p := ⟨w.heap.size + 1, 0, none⟩) hrB _).setCell (p := ⟨w.heap.size + 1, 1, none⟩) hrB _).setCell (p := ⟨w.heap.size + 1, 2, none⟩) hrB _).setCell (p := ⟨w.heap.size + 1, 3, none⟩) hrB _).setCell (p := ⟨w.heap.size + 1, 4, none⟩) hrB _).setCell (p := ⟨w.heap.size + 1, 5, none⟩) hrB _).setCell (p := ⟨w.heap.size + 1, 6, none⟩) hrB _).setCell (p := ⟨w.heap.size + 1, 7, none⟩) hrB _).setCell (p := ⟨w.heap.size + 1, 8, none⟩) hrB _).drew.mono hwB, (((((((((hbw.setCell (p := ⟨w.heap.size + 1, 0, none⟩) (by simp) _).setCell (p := ⟨w.heap.size + 1, 1, none⟩) (by simp) _).setCell (p := ⟨w.heap.size + 1, 2, none⟩) (by simp) _).setCell (p := ⟨w.heap.size + 1, 3, none⟩) (by simp) _).setCell (p := ⟨w.heap.size + 1, 4, none⟩) (by simp) _).setCell (p := ⟨w.heap.size + 1, 5, none⟩) (by simp) _).setCell (p := ⟨w.heap.size + 1, 6, none⟩) (by simp) _).setCell (p := ⟨w.heap.size + 1, 7, none⟩) (by simp) _).setCell (p := ⟨w.heap.size + 1, 8, none⟩) (by simp) _).drew⟩
  | false =>
    skip
    go_wp2_with fail
    go_region
    go_wp2_with fail
    have hF := Box.drew (((((((((hR.set 0 (.string lb)).set 1 (.int .i64 en)).set 2 (.int .i64 wy)).set 3 (.string wt)).set 4 (.int .i64 d2.enc)).set 5 (.string ⟨d2.rest.toArray⟩)).set 6 (.int .i64 d2.signs)).set 7 (.bool d2.fresh)).set 8 (.bool d2.stopped))
    have uc0 := hF.cell 0 _ rfl; have uc1 := hF.cell 1 _ rfl; have uc2 := hF.cell 2 _ rfl; have uc3 := hF.cell 3 _ rfl; have uc4 := hF.cell 4 _ rfl; have uc5 := hF.cell 5 _ rfl; have uc6 := hF.cell 6 _ rfl; have uc7 := hF.cell 7 _ rfl; have uc8 := hF.cell 8 _ rfl
    refine bodyPost_ret (v := .tuple #[v2, .agg #[.string lb, .int .i64 en, .int .i64 wy, .string wt, .int .i64 d2.enc, .string ⟨d2.rest.toArray⟩, .int .i64 d2.signs, .bool d2.fresh, .bool d2.stopped]]) (by simp [results, Tryz.results11, go_sem, uc0, uc1, uc2, uc3, uc4, uc5, uc6, uc7, uc8]) rfl ?_
    have hbw := hb0
    exact ⟨_, by first | rfl | simp, (((((((((o2.setCell (p := ⟨w.heap.size + 1, 0, none⟩) hrB _).setCell (p := ⟨w.heap.size + 1, 1, none⟩) hrB _).setCell (p := ⟨w.heap.size + 1, 2, none⟩) hrB _).setCell (p := ⟨w.heap.size + 1, 3, none⟩) hrB _).setCell (p := ⟨w.heap.size + 1, 4, none⟩) hrB _).setCell (p := ⟨w.heap.size + 1, 5, none⟩) hrB _).setCell (p := ⟨w.heap.size + 1, 6, none⟩) hrB _).setCell (p := ⟨w.heap.size + 1, 7, none⟩) hrB _).setCell (p := ⟨w.heap.size + 1, 8, none⟩) hrB _).drew.mono hwB, (((((((((hbw.setCell (p := ⟨w.heap.size + 1, 0, none⟩) (by simp) _).setCell (p := ⟨w.heap.size + 1, 1, none⟩) (by simp) _).setCell (p := ⟨w.heap.size + 1, 2, none⟩) (by simp) _).setCell (p := ⟨w.heap.size + 1, 3, none⟩) (by simp) _).setCell (p := ⟨w.heap.size + 1, 4, none⟩) (by simp) _).setCell (p := ⟨w.heap.size + 1, 5, none⟩) (by simp) _).setCell (p := ⟨w.heap.size + 1, 6, none⟩) (by simp) _).setCell (p := ⟨w.heap.size + 1, 7, none⟩) (by simp) _).setCell (p := ⟨w.heap.size + 1, 8, none⟩) (by simp) _).drew⟩
/-- It is chosen now. -/
theorem frontOf_ch (lb : ByteArray) (en wy : Int) (wt : ByteArray) (se : Int) (rs : ByteArray) (sg : Int) (fr st : Bool) (b : ByteArray) (last : Bool) (hl : lb.size ≤ 3000) (hw : wt.size ≤ 3000) (hb3 : b.size ≤ 3000) (hy : wy = 0) (hn : last = true ∨ M.enough lb.data.toList (wt ++ b).data.toList = true)
    (n y : Int) (k : Nat) (hc : M.chosen lb.data.toList (wt ++ b).data.toList = (n, y, (k : Int))) (hkz : k ≤ (wt ++ b).size) (hi : M.isEnc n = true) (xs : List Int) (d2 : M.St) (h : M.refM (M.opn n) ((wt ++ b).extract k (wt ++ b).size).data.toList last = (xs, d2)) (w : World) :
    Calls Tryz.prog 11 #[.agg #[.string lb, .int .i64 en, .int .i64 wy, .string wt, .int .i64 se, .string rs, .int .i64 sg, .bool fr, .bool st], .string b, .bool last] w fun e w' => ∃ v, e = .returned (.tuple #[v, .agg (if last = true then #[.string lb, .int .i64 0, .int .i64 0, .string ⟨#[]⟩, .int .i64 0, .string ⟨#[]⟩, .int .i64 0, .bool false, .bool false] else #[.string lb, .int .i64 n, .int .i64 y, .string ⟨#[]⟩, .int .i64 d2.enc, .string ⟨d2.rest.toArray⟩, .int .i64 d2.signs, .bool d2.fresh, .bool d2.stopped])]) ∧ Own w.heap.size 3 w' v (xs.map (Value.int .i64)) ∧ Bel w w' := by
  have hz1 : (wt ++ b).size = wt.size + b.size := by rw [Lib.size_eq, data_append, List.length_append, ← Lib.size_eq, ← Lib.size_eq]
  obtain ⟨z, hz⟩ : ∃ z, wt ++ b = z := ⟨_, rfl⟩
  rw [hz] at hn hc hkz h hz1
  have HI := Lib.hid hi
  have HC := Lib.hid hc
  have HW := Lib.hid (show M.refM ⟨n, (⟨#[]⟩ : ByteArray).data.toList, 0, false, false⟩ (z.extract k z.size).data.toList last = (xs, d2) from h)
  have hkk : (0 : Int) ≤ (k : Int) ∧ (k : Int) ≤ (z.size : Int) := by omega
  have hsz : (z.extract k z.size).size ≤ 9000 := by rw [ByteArray.size_extract]; omega
  have hz6 : z.size ≤ 6000 := by omega
  have hkk2 : k ≤ z.size := hkz
  have g5 : (wy == 0) = true := by simpa using hy
  clear hc h hi hz1 hy
  cases last with
  | true =>
    clear hn
    have hR : Box ((w.alloc (.cells #[.string lb, .int .i64 en, .int .i64 wy, .string wt, .int .i64 se, .string rs, .int .i64 sg, .bool fr, .bool st] 25)).alloc (.cells #[.string ⟨#[]⟩, .int .i64 0, .int .i64 0, .string ⟨#[]⟩, .int .i64 0, .string ⟨#[]⟩, .int .i64 0, .bool false, .bool false] 25)) (w.heap.size + 1) 25 [.string ⟨#[]⟩, .int .i64 0, .int .i64 0, .string ⟨#[]⟩, .int .i64 0, .string ⟨#[]⟩, .int .i64 0, .bool false, .bool false] := by have := Box.new (w.alloc (.cells #[.string lb, .int .i64 en, .int .i64 wy, .string wt, .int .i64 se, .string rs, .int .i64 sg, .bool fr, .bool st] 25)) 25 [.string ⟨#[]⟩, .int .i64 0, .int .i64 0, .string ⟨#[]⟩, .int .i64 0, .string ⟨#[]⟩, .int .i64 0, .bool false, .bool false]; simpa using this
    have hS : Box ((w.alloc (.cells #[.string lb, .int .i64 en, .int .i64 wy, .string wt, .int .i64 se, .string rs, .int .i64 sg, .bool fr, .bool st] 25)).alloc (.cells #[.string ⟨#[]⟩, .int .i64 0, .int .i64 0, .string ⟨#[]⟩, .int .i64 0, .string ⟨#[]⟩, .int .i64 0, .bool false, .bool false] 25)) w.heap.size 25 [.string lb, .int .i64 en, .int .i64 wy, .string wt, .int .i64 se, .string rs, .int .i64 sg, .bool fr, .bool st] := (Box.new w _ _).bel ((Bel.refl _).alloc _)
    have hb0 : Bel w ((w.alloc (.cells #[.string lb, .int .i64 en, .int .i64 wy, .string wt, .int .i64 se, .string rs, .int .i64 sg, .bool fr, .bool st] 25)).alloc (.cells #[.string ⟨#[]⟩, .int .i64 0, .int .i64 0, .string ⟨#[]⟩, .int .i64 0, .string ⟨#[]⟩, .int .i64 0, .bool false, .bool false] 25)) := (by repeat (first | exact Bel.refl _ | refine Bel.drewN ?_ _ | refine Bel.drew ?_ | refine Bel.alloc ?_ _ | refine Bel.trans ?_ (by assumption) | refine Bel.setCell ?_ (by simp; omega) _))
    go_enter Tryz.func11, Tryz.ntmps11
    go_upto_region 1 with fail
    generalize ((w.alloc (.cells #[.string lb, .int .i64 en, .int .i64 wy, .string wt, .int .i64 se, .string rs, .int .i64 sg, .bool fr, .bool st] 25)).alloc (.cells #[.string ⟨#[]⟩, .int .i64 0, .int .i64 0, .string ⟨#[]⟩, .int .i64 0, .string ⟨#[]⟩, .int .i64 0, .bool false, .bool false] 25)) = P at *
    have sc0 := hS.cell 0 _ rfl; have sc1 := hS.cell 1 _ rfl; have sc2 := hS.cell 2 _ rfl; have sc3 := hS.cell 3 _ rfl; have sc4 := hS.cell 4 _ rfl; have sc5 := hS.cell 5 _ rfl; have sc6 := hS.cell 6 _ rfl; have sc7 := hS.cell 7 _ rfl; have sc8 := hS.cell 8 _ rfl; have sf0 := hS.frozen 0; have sf1 := hS.frozen 1; have sf2 := hS.frozen 2; have sf3 := hS.frozen 3; have sf4 := hS.frozen 4; have sf5 := hS.frozen 5; have sf6 := hS.frozen 6; have sf7 := hS.frozen 7; have sf8 := hS.frozen 8; have rc0 := hR.cell 0 _ rfl; have rc1 := hR.cell 1 _ rfl; have rc2 := hR.cell 2 _ rfl; have rc3 := hR.cell 3 _ rfl; have rc4 := hR.cell 4 _ rfl; have rc5 := hR.cell 5 _ rfl; have rc6 := hR.cell 6 _ rfl; have rc7 := hR.cell 7 _ rfl; have rc8 := hR.cell 8 _ rfl; have rf0 := hR.frozen 0; have rf1 := hR.frozen 1; have rf2 := hR.frozen 2; have rf3 := hR.frozen 3; have rf4 := hR.frozen 4; have rf5 := hR.frozen 5; have rf6 := hR.frozen 6; have rf7 := hR.frozen 7; have rf8 := hR.frozen 8
    go_wp2_with fail
    skip
    refine (chooseOf_to lb z _ _ _ HC.out (by omega) (by omega) _).mono ?_
    rintro e w2 ⟨rfl, b2⟩
    have hS := hS.bel b2
    have hR := hR.bel b2
    have hb0 := hb0.trans b2
    have sc0 := hS.cell 0 _ rfl; have sc1 := hS.cell 1 _ rfl; have sc2 := hS.cell 2 _ rfl; have sc3 := hS.cell 3 _ rfl; have sc4 := hS.cell 4 _ rfl; have sc5 := hS.cell 5 _ rfl; have sc6 := hS.cell 6 _ rfl; have sc7 := hS.cell 7 _ rfl; have sc8 := hS.cell 8 _ rfl; have sf0 := hS.frozen 0; have sf1 := hS.frozen 1; have sf2 := hS.frozen 2; have sf3 := hS.frozen 3; have sf4 := hS.frozen 4; have sf5 := hS.frozen 5; have sf6 := hS.frozen 6; have sf7 := hS.frozen 7; have sf8 := hS.frozen 8; have rc0 := hR.cell 0 _ rfl; have rc1 := hR.cell 1 _ rfl; have rc2 := hR.cell 2 _ rfl; have rc3 := hR.cell 3 _ rfl; have rc4 := hR.cell 4 _ rfl; have rc5 := hR.cell 5 _ rfl; have rc6 := hR.cell 6 _ rfl; have rc7 := hR.cell 7 _ rfl; have rc8 := hR.cell 8 _ rfl; have rf0 := hR.frozen 0; have rf1 := hR.frozen 1; have rf2 := hR.frozen 2; have rf3 := hR.frozen 3; have rf4 := hR.frozen 4; have rf5 := hR.frozen 5; have rf6 := hR.frozen 6; have rf7 := hR.frozen 7; have rf8 := hR.frozen 8
    go_upto_region 9 with fail
    have hS := ((((((((hS.set 1 (.int .i64 n)).set 2 (.int .i64 y)).set 3 (.string ⟨#[]⟩)).set 4 (.int .i64 n)).set 5 (.string ⟨#[]⟩)).set 6 (.int .i64 0)).set 7 (.bool false)).set 8 (.bool false))
    have hR := ((((((((hR.far (p := ⟨w.heap.size, 1, none⟩) (by simp) (.int .i64 n)).far (p := ⟨w.heap.size, 2, none⟩) (by simp) (.int .i64 y)).far (p := ⟨w.heap.size, 3, none⟩) (by simp) (.string ⟨#[]⟩)).far (p := ⟨w.heap.size, 4, none⟩) (by simp) (.int .i64 n)).far (p := ⟨w.heap.size, 5, none⟩) (by simp) (.string ⟨#[]⟩)).far (p := ⟨w.heap.size, 6, none⟩) (by simp) (.int .i64 0)).far (p := ⟨w.heap.size, 7, none⟩) (by simp) (.bool false)).far (p := ⟨w.heap.size, 8, none⟩) (by simp) (.bool false))
    have hb0 := ((((((((hb0.setCell (p := ⟨w.heap.size, 1, none⟩) (Nat.le_refl _) (.int .i64 n)).setCell (p := ⟨w.heap.size, 2, none⟩) (Nat.le_refl _) (.int .i64 y)).setCell (p := ⟨w.heap.size, 3, none⟩) (Nat.le_refl _) (.string ⟨#[]⟩)).setCell (p := ⟨w.heap.size, 4, none⟩) (Nat.le_refl _) (.int .i64 n)).setCell (p := ⟨w.heap.size, 5, none⟩) (Nat.le_refl _) (.string ⟨#[]⟩)).setCell (p := ⟨w.heap.size, 6, none⟩) (Nat.le_refl _) (.int .i64 0)).setCell (p := ⟨w.heap.size, 7, none⟩) (Nat.le_refl _) (.bool false)).setCell (p := ⟨w.heap.size, 8, none⟩) (Nat.le_refl _) (.bool false))
    clear b2
    generalize ((((((((w2.setCell ⟨w.heap.size, 1, none⟩ (.int .i64 n)).setCell ⟨w.heap.size, 2, none⟩ (.int .i64 y)).setCell ⟨w.heap.size, 3, none⟩ (.string ⟨#[]⟩)).setCell ⟨w.heap.size, 4, none⟩ (.int .i64 n)).setCell ⟨w.heap.size, 5, none⟩ (.string ⟨#[]⟩)).setCell ⟨w.heap.size, 6, none⟩ (.int .i64 0)).setCell ⟨w.heap.size, 7, none⟩ (.bool false)).setCell ⟨w.heap.size, 8, none⟩ (.bool false)) = X0 at *
    have hS : Box X0 w.heap.size 25 [.string lb, .int .i64 n, .int .i64 y, .string ⟨#[]⟩, .int .i64 n, .string ⟨#[]⟩, .int .i64 0, .bool false, .bool false] := hS
    have sc0 := hS.cell 0 _ rfl; have sc1 := hS.cell 1 _ rfl; have sc2 := hS.cell 2 _ rfl; have sc3 := hS.cell 3 _ rfl; have sc4 := hS.cell 4 _ rfl; have sc5 := hS.cell 5 _ rfl; have sc6 := hS.cell 6 _ rfl; have sc7 := hS.cell 7 _ rfl; have sc8 := hS.cell 8 _ rfl; have sf0 := hS.frozen 0; have sf1 := hS.frozen 1; have sf2 := hS.frozen 2; have sf3 := hS.frozen 3; have sf4 := hS.frozen 4; have sf5 := hS.frozen 5; have sf6 := hS.frozen 6; have sf7 := hS.frozen 7; have sf8 := hS.frozen 8; have rc0 := hR.cell 0 _ rfl; have rc1 := hR.cell 1 _ rfl; have rc2 := hR.cell 2 _ rfl; have rc3 := hR.cell 3 _ rfl; have rc4 := hR.cell 4 _ rfl; have rc5 := hR.cell 5 _ rfl; have rc6 := hR.cell 6 _ rfl; have rc7 := hR.cell 7 _ rfl; have rc8 := hR.cell 8 _ rfl; have rf0 := hR.frozen 0; have rf1 := hR.frozen 1; have rf2 := hR.frozen 2; have rf3 := hR.frozen 3; have rf4 := hR.frozen 4; have rf5 := hR.frozen 5; have rf6 := hR.frozen 6; have rf7 := hR.frozen 7; have rf8 := hR.frozen 8
    go_wp2_with fail
    refine (feedOf_any n HI.out ⟨#[]⟩ 0 false false (z.extract k z.size) _ (by have h9 : (⟨#[]⟩ : ByteArray).size = 0 := rfl; omega) _ _ HW.out _).mono ?_
    skip
    rintro e w3 ⟨v2, rfl, o2, b3⟩
    rw [stV]
    go_upto_region 11 with fail
    have hsB := hS.lt
    have hrB := hR.lt
    have hwB := hb0.size
    have hq : Bel X0 (w3.alloc (.cells #[.int .i64 d2.enc, .string ⟨d2.rest.toArray⟩, .int .i64 d2.signs, .bool d2.fresh, .bool d2.stopped] 23)) := b3.alloc _
    have hN := Box.new w3 23 [.int .i64 d2.enc, .string ⟨d2.rest.toArray⟩, .int .i64 d2.signs, .bool d2.fresh, .bool d2.stopped]
    have hS := hS.bel hq
    have hR := hR.bel hq
    have hb0 := hb0.trans hq
    have o2 := o2.alloc (.cells #[.int .i64 d2.enc, .string ⟨d2.rest.toArray⟩, .int .i64 d2.signs, .bool d2.fresh, .bool d2.stopped] 23)
    have hnq : ¬ w3.heap.size = w.heap.size := by have := b3.size; omega
    have hqn : ¬ w.heap.size = w3.heap.size := by have := b3.size; omega
    clear b3 hq
    generalize (w3.alloc (.cells #[.int .i64 d2.enc, .string ⟨d2.rest.toArray⟩, .int .i64 d2.signs, .bool d2.fresh, .bool d2.stopped] 23)) = W at *
    generalize w3.heap.size = q at *
    have sc0 := hS.cell 0 _ rfl; have sc1 := hS.cell 1 _ rfl; have sc2 := hS.cell 2 _ rfl; have sc3 := hS.cell 3 _ rfl; have sc4 := hS.cell 4 _ rfl; have sc5 := hS.cell 5 _ rfl; have sc6 := hS.cell 6 _ rfl; have sc7 := hS.cell 7 _ rfl; have sc8 := hS.cell 8 _ rfl; have sf0 := hS.frozen 0; have sf1 := hS.frozen 1; have sf2 := hS.frozen 2; have sf3 := hS.frozen 3; have sf4 := hS.frozen 4; have sf5 := hS.frozen 5; have sf6 := hS.frozen 6; have sf7 := hS.frozen 7; have sf8 := hS.frozen 8; have rc0 := hR.cell 0 _ rfl; have rc1 := hR.cell 1 _ rfl; have rc2 := hR.cell 2 _ rfl; have rc3 := hR.cell 3 _ rfl; have rc4 := hR.cell 4 _ rfl; have rc5 := hR.cell 5 _ rfl; have rc6 := hR.cell 6 _ rfl; have rc7 := hR.cell 7 _ rfl; have rc8 := hR.cell 8 _ rfl; have rf0 := hR.frozen 0; have rf1 := hR.frozen 1; have rf2 := hR.frozen 2; have rf3 := hR.frozen 3; have rf4 := hR.frozen 4; have rf5 := hR.frozen 5; have rf6 := hR.frozen 6; have rf7 := hR.frozen 7; have rf8 := hR.frozen 8
    have n0 := hN.cell 0 _ rfl
    have n1 := hN.cell 1 _ rfl
    have n2 := hN.cell 2 _ rfl
    have n3 := hN.cell 3 _ rfl
    have n4 := hN.cell 4 _ rfl
    clear hN
    go_upto_region 12 with fail
    have hS := ((((hS.set 4 (.int .i64 d2.enc)).set 5 (.string ⟨d2.rest.toArray⟩)).set 6 (.int .i64 d2.signs)).set 7 (.bool d2.fresh)).set 8 (.bool d2.stopped)
    have hR := ((((hR.far (p := ⟨w.heap.size, 4, none⟩) (by simp) (.int .i64 d2.enc)).far (p := ⟨w.heap.size, 5, none⟩) (by simp) (.string ⟨d2.rest.toArray⟩)).far (p := ⟨w.heap.size, 6, none⟩) (by simp) (.int .i64 d2.signs)).far (p := ⟨w.heap.size, 7, none⟩) (by simp) (.bool d2.fresh)).far (p := ⟨w.heap.size, 8, none⟩) (by simp) (.bool d2.stopped)
    have hb0 := ((((hb0.setCell (p := ⟨w.heap.size, 4, none⟩) (Nat.le_refl _) (.int .i64 d2.enc)).setCell (p := ⟨w.heap.size, 5, none⟩) (Nat.le_refl _) (.string ⟨d2.rest.toArray⟩)).setCell (p := ⟨w.heap.size, 6, none⟩) (Nat.le_refl _) (.int .i64 d2.signs)).setCell (p := ⟨w.heap.size, 7, none⟩) (Nat.le_refl _) (.bool d2.fresh)).setCell (p := ⟨w.heap.size, 8, none⟩) (Nat.le_refl _) (.bool d2.stopped)
    have o2 := ((((o2.setCell (p := ⟨w.heap.size, 4, none⟩) hsB (.int .i64 d2.enc)).setCell (p := ⟨w.heap.size, 5, none⟩) hsB (.string ⟨d2.rest.toArray⟩)).setCell (p := ⟨w.heap.size, 6, none⟩) hsB (.int .i64 d2.signs)).setCell (p := ⟨w.heap.size, 7, none⟩) hsB (.bool d2.fresh)).setCell (p := ⟨w.heap.size, 8, none⟩) hsB (.bool d2.stopped)
    generalize (((((W.setCell ⟨w.heap.size, 4, none⟩ (.int .i64 d2.enc)).setCell ⟨w.heap.size, 5, none⟩ (.string ⟨d2.rest.toArray⟩)).setCell ⟨w.heap.size, 6, none⟩ (.int .i64 d2.signs)).setCell ⟨w.heap.size, 7, none⟩ (.bool d2.fresh)).setCell ⟨w.heap.size, 8, none⟩ (.bool d2.stopped)) = X at *
    have hS : Box X w.heap.size 25 [.string lb, .int .i64 n, .int .i64 y, .string ⟨#[]⟩, .int .i64 d2.enc, .string ⟨d2.rest.toArray⟩, .int .i64 d2.signs, .bool d2.fresh, .bool d2.stopped] := hS
    have sc0 := hS.cell 0 _ rfl; have sc1 := hS.cell 1 _ rfl; have sc2 := hS.cell 2 _ rfl; have sc3 := hS.cell 3 _ rfl; have sc4 := hS.cell 4 _ rfl; have sc5 := hS.cell 5 _ rfl; have sc6 := hS.cell 6 _ rfl; have sc7 := hS.cell 7 _ rfl; have sc8 := hS.cell 8 _ rfl; have sf0 := hS.frozen 0; have sf1 := hS.frozen 1; have sf2 := hS.frozen 2; have sf3 := hS.frozen 3; have sf4 := hS.frozen 4; have sf5 := hS.frozen 5; have sf6 := hS.frozen 6; have sf7 := hS.frozen 7; have sf8 := hS.frozen 8; have rc0 := hR.cell 0 _ rfl; have rc1 := hR.cell 1 _ rfl; have rc2 := hR.cell 2 _ rfl; have rc3 := hR.cell 3 _ rfl; have rc4 := hR.cell 4 _ rfl; have rc5 := hR.cell 5 _ rfl; have rc6 := hR.cell 6 _ rfl; have rc7 := hR.cell 7 _ rfl; have rc8 := hR.cell 8 _ rfl; have rf0 := hR.frozen 0; have rf1 := hR.frozen 1; have rf2 := hR.frozen 2; have rf3 := hR.frozen 3; have rf4 := hR.frozen 4; have rf5 := hR.frozen 5; have rf6 := hR.frozen 6; have rf7 := hR.frozen 7; have rf8 := hR.frozen 8
    skip
    go_upto_region 14 with fail
    have hS := ((((((((hS.set 0 (.string lb)).set 1 (.int .i64 0)).set 2 (.int .i64 0)).set 3 (.string ⟨#[]⟩)).set 4 (.int .i64 0)).set 5 (.string ⟨#[]⟩)).set 6 (.int .i64 0)).set 7 (.bool false)).set 8 (.bool false)
    have hR := (((((((((hR.far (p := ⟨w.heap.size, 0, none⟩) (by simp) (.string lb)).far (p := ⟨w.heap.size, 1, none⟩) (by simp) (.int .i64 0)).far (p := ⟨w.heap.size, 2, none⟩) (by simp) (.int .i64 0)).far (p := ⟨w.heap.size, 3, none⟩) (by simp) (.string ⟨#[]⟩)).far (p := ⟨w.heap.size, 4, none⟩) (by simp) (.int .i64 0)).far (p := ⟨w.heap.size, 5, none⟩) (by simp) (.string ⟨#[]⟩)).far (p := ⟨w.heap.size, 6, none⟩) (by simp) (.int .i64 0)).far (p := ⟨w.heap.size, 7, none⟩) (by simp) (.bool false)).far (p := ⟨w.heap.size, 8, none⟩) (by simp) (.bool false))
    have hb0 := (((((((((hb0.setCell (p := ⟨w.heap.size, 0, none⟩) (Nat.le_refl _) (.string lb)).setCell (p := ⟨w.heap.size, 1, none⟩) (Nat.le_refl _) (.int .i64 0)).setCell (p := ⟨w.heap.size, 2, none⟩) (Nat.le_refl _) (.int .i64 0)).setCell (p := ⟨w.heap.size, 3, none⟩) (Nat.le_refl _) (.string ⟨#[]⟩)).setCell (p := ⟨w.heap.size, 4, none⟩) (Nat.le_refl _) (.int .i64 0)).setCell (p := ⟨w.heap.size, 5, none⟩) (Nat.le_refl _) (.string ⟨#[]⟩)).setCell (p := ⟨w.heap.size, 6, none⟩) (Nat.le_refl _) (.int .i64 0)).setCell (p := ⟨w.heap.size, 7, none⟩) (Nat.le_refl _) (.bool false)).setCell (p := ⟨w.heap.size, 8, none⟩) (Nat.le_refl _) (.bool false))
    have o2 := (((((((((o2.setCell (p := ⟨w.heap.size, 0, none⟩) hsB (.string lb)).setCell (p := ⟨w.heap.size, 1, none⟩) hsB (.int .i64 0)).setCell (p := ⟨w.heap.size, 2, none⟩) hsB (.int .i64 0)).setCell (p := ⟨w.heap.size, 3, none⟩) hsB (.string ⟨#[]⟩)).setCell (p := ⟨w.heap.size, 4, none⟩) hsB (.int .i64 0)).setCell (p := ⟨w.heap.size, 5, none⟩) hsB (.string ⟨#[]⟩)).setCell (p := ⟨w.heap.size, 6, none⟩) hsB (.int .i64 0)).setCell (p := ⟨w.heap.size, 7, none⟩) hsB (.bool false)).setCell (p := ⟨w.heap.size, 8, none⟩) hsB (.bool false))
    generalize (((((((((X.setCell ⟨w.heap.size, 0, none⟩ (.string lb)).setCell ⟨w.heap.size, 1, none⟩ (.int .i64 0)).setCell ⟨w.heap.size, 2, none⟩ (.int .i64 0)).setCell ⟨w.heap.size, 3, none⟩ (.string ⟨#[]⟩)).setCell ⟨w.heap.size, 4, none⟩ (.int .i64 0)).setCell ⟨w.heap.size, 5, none⟩ (.string ⟨#[]⟩)).setCell ⟨w.heap.size, 6, none⟩ (.int .i64 0)).setCell ⟨w.heap.size, 7, none⟩ (.bool false)).setCell ⟨w.heap.size, 8, none⟩ (.bool false)) = Y at *
    have hS : Box Y w.heap.size 25 [.string lb, .int .i64 0, .int .i64 0, .string ⟨#[]⟩, .int .i64 0, .string ⟨#[]⟩, .int .i64 0, .bool false, .bool false] := hS
    have sc0 := hS.cell 0 _ rfl; have sc1 := hS.cell 1 _ rfl; have sc2 := hS.cell 2 _ rfl; have sc3 := hS.cell 3 _ rfl; have sc4 := hS.cell 4 _ rfl; have sc5 := hS.cell 5 _ rfl; have sc6 := hS.cell 6 _ rfl; have sc7 := hS.cell 7 _ rfl; have sc8 := hS.cell 8 _ rfl; have sf0 := hS.frozen 0; have sf1 := hS.frozen 1; have sf2 := hS.frozen 2; have sf3 := hS.frozen 3; have sf4 := hS.frozen 4; have sf5 := hS.frozen 5; have sf6 := hS.frozen 6; have sf7 := hS.frozen 7; have sf8 := hS.frozen 8; have rc0 := hR.cell 0 _ rfl; have rc1 := hR.cell 1 _ rfl; have rc2 := hR.cell 2 _ rfl; have rc3 := hR.cell 3 _ rfl; have rc4 := hR.cell 4 _ rfl; have rc5 := hR.cell 5 _ rfl; have rc6 := hR.cell 6 _ rfl; have rc7 := hR.cell 7 _ rfl; have rc8 := hR.cell 8 _ rfl; have rf0 := hR.frozen 0; have rf1 := hR.frozen 1; have rf2 := hR.frozen 2; have rf3 := hR.frozen 3; have rf4 := hR.frozen 4; have rf5 := hR.frozen 5; have rf6 := hR.frozen 6; have rf7 := hR.frozen 7; have rf8 := hR.frozen 8
    go_region
    go_wp2_with fail
    have hF := Box.drew (((((((((hR.set 0 (.string lb)).set 1 (.int .i64 0)).set 2 (.int .i64 0)).set 3 (.string ⟨#[]⟩)).set 4 (.int .i64 0)).set 5 (.string ⟨#[]⟩)).set 6 (.int .i64 0)).set 7 (.bool false)).set 8 (.bool false))
    have uc0 := hF.cell 0 _ rfl; have uc1 := hF.cell 1 _ rfl; have uc2 := hF.cell 2 _ rfl; have uc3 := hF.cell 3 _ rfl; have uc4 := hF.cell 4 _ rfl; have uc5 := hF.cell 5 _ rfl; have uc6 := hF.cell 6 _ rfl; have uc7 := hF.cell 7 _ rfl; have uc8 := hF.cell 8 _ rfl
    refine bodyPost_ret (v := .tuple #[v2, .agg #[.string lb, .int .i64 0, .int .i64 0, .string ⟨#[]⟩, .int .i64 0, .string ⟨#[]⟩, .int .i64 0, .bool false, .bool false]]) (by simp [results, Tryz.results11, go_sem, uc0, uc1, uc2, uc3, uc4, uc5, uc6, uc7, uc8]) rfl ?_
    have hbw := hb0
    exact ⟨_, by first | rfl | simp, (((((((((o2.setCell (p := ⟨w.heap.size + 1, 0, none⟩) hrB _).setCell (p := ⟨w.heap.size + 1, 1, none⟩) hrB _).setCell (p := ⟨w.heap.size + 1, 2, none⟩) hrB _).setCell (p := ⟨w.heap.size + 1, 3, none⟩) hrB _).setCell (p := ⟨w.heap.size + 1, 4, none⟩) hrB _).setCell (p := ⟨w.heap.size + 1, 5, none⟩) hrB _).setCell (p := ⟨w.heap.size + 1, 6, none⟩) hrB _).setCell (p := ⟨w.heap.size + 1, 7, none⟩) hrB _).setCell (p := ⟨w.heap.size + 1, 8, none⟩) hrB _).drew.mono hwB, (((((((((hbw.setCell (p := ⟨w.heap.size + 1, 0, none⟩) (by simp) _).setCell (p := ⟨w.heap.size + 1, 1, none⟩) (by simp) _).setCell (p := ⟨w.heap.size + 1, 2, none⟩) (by simp) _).setCell (p := ⟨w.heap.size + 1, 3, none⟩) (by simp) _).setCell (p := ⟨w.heap.size + 1, 4, none⟩) (by simp) _).setCell (p := ⟨w.heap.size + 1, 5, none⟩) (by simp) _).setCell (p := ⟨w.heap.size + 1, 6, none⟩) (by simp) _).setCell (p := ⟨w.heap.size + 1, 7, none⟩) (by simp) _).setCell (p := ⟨w.heap.size + 1, 8, none⟩) (by simp) _).drew⟩
  | false =>
    have HN := Lib.hid (show M.enough lb.data.toList z.data.toList = true by rcases hn with h | h; cases h; exact h)
    clear hn
    have hR : Box ((w.alloc (.cells #[.string lb, .int .i64 en, .int .i64 wy, .string wt, .int .i64 se, .string rs, .int .i64 sg, .bool fr, .bool st] 25)).alloc (.cells #[.string ⟨#[]⟩, .int .i64 0, .int .i64 0, .string ⟨#[]⟩, .int .i64 0, .string ⟨#[]⟩, .int .i64 0, .bool false, .bool false] 25)) (w.heap.size + 1) 25 [.string ⟨#[]⟩, .int .i64 0, .int .i64 0, .string ⟨#[]⟩, .int .i64 0, .string ⟨#[]⟩, .int .i64 0, .bool false, .bool false] := by have := Box.new (w.alloc (.cells #[.string lb, .int .i64 en, .int .i64 wy, .string wt, .int .i64 se, .string rs, .int .i64 sg, .bool fr, .bool st] 25)) 25 [.string ⟨#[]⟩, .int .i64 0, .int .i64 0, .string ⟨#[]⟩, .int .i64 0, .string ⟨#[]⟩, .int .i64 0, .bool false, .bool false]; simpa using this
    have hS : Box ((w.alloc (.cells #[.string lb, .int .i64 en, .int .i64 wy, .string wt, .int .i64 se, .string rs, .int .i64 sg, .bool fr, .bool st] 25)).alloc (.cells #[.string ⟨#[]⟩, .int .i64 0, .int .i64 0, .string ⟨#[]⟩, .int .i64 0, .string ⟨#[]⟩, .int .i64 0, .bool false, .bool false] 25)) w.heap.size 25 [.string lb, .int .i64 en, .int .i64 wy, .string wt, .int .i64 se, .string rs, .int .i64 sg, .bool fr, .bool st] := (Box.new w _ _).bel ((Bel.refl _).alloc _)
    have hb0 : Bel w ((w.alloc (.cells #[.string lb, .int .i64 en, .int .i64 wy, .string wt, .int .i64 se, .string rs, .int .i64 sg, .bool fr, .bool st] 25)).alloc (.cells #[.string ⟨#[]⟩, .int .i64 0, .int .i64 0, .string ⟨#[]⟩, .int .i64 0, .string ⟨#[]⟩, .int .i64 0, .bool false, .bool false] 25)) := (by repeat (first | exact Bel.refl _ | refine Bel.drewN ?_ _ | refine Bel.drew ?_ | refine Bel.alloc ?_ _ | refine Bel.trans ?_ (by assumption) | refine Bel.setCell ?_ (by simp; omega) _))
    go_enter Tryz.func11, Tryz.ntmps11
    go_upto_region 1 with fail
    generalize ((w.alloc (.cells #[.string lb, .int .i64 en, .int .i64 wy, .string wt, .int .i64 se, .string rs, .int .i64 sg, .bool fr, .bool st] 25)).alloc (.cells #[.string ⟨#[]⟩, .int .i64 0, .int .i64 0, .string ⟨#[]⟩, .int .i64 0, .string ⟨#[]⟩, .int .i64 0, .bool false, .bool false] 25)) = P at *
    have sc0 := hS.cell 0 _ rfl; have sc1 := hS.cell 1 _ rfl; have sc2 := hS.cell 2 _ rfl; have sc3 := hS.cell 3 _ rfl; have sc4 := hS.cell 4 _ rfl; have sc5 := hS.cell 5 _ rfl; have sc6 := hS.cell 6 _ rfl; have sc7 := hS.cell 7 _ rfl; have sc8 := hS.cell 8 _ rfl; have sf0 := hS.frozen 0; have sf1 := hS.frozen 1; have sf2 := hS.frozen 2; have sf3 := hS.frozen 3; have sf4 := hS.frozen 4; have sf5 := hS.frozen 5; have sf6 := hS.frozen 6; have sf7 := hS.frozen 7; have sf8 := hS.frozen 8; have rc0 := hR.cell 0 _ rfl; have rc1 := hR.cell 1 _ rfl; have rc2 := hR.cell 2 _ rfl; have rc3 := hR.cell 3 _ rfl; have rc4 := hR.cell 4 _ rfl; have rc5 := hR.cell 5 _ rfl; have rc6 := hR.cell 6 _ rfl; have rc7 := hR.cell 7 _ rfl; have rc8 := hR.cell 8 _ rfl; have rf0 := hR.frozen 0; have rf1 := hR.frozen 1; have rf2 := hR.frozen 2; have rf3 := hR.frozen 3; have rf4 := hR.frozen 4; have rf5 := hR.frozen 5; have rf6 := hR.frozen 6; have rf7 := hR.frozen 7; have rf8 := hR.frozen 8
    go_wp2_with fail
    refine (isEnough_to lb z _ HN.out (by omega) _).mono ?_
    rintro e w1 ⟨rfl, b1⟩
    have hS := hS.bel b1
    have hR := hR.bel b1
    have hb0 := hb0.trans b1
    have sc0 := hS.cell 0 _ rfl; have sc1 := hS.cell 1 _ rfl; have sc2 := hS.cell 2 _ rfl; have sc3 := hS.cell 3 _ rfl; have sc4 := hS.cell 4 _ rfl; have sc5 := hS.cell 5 _ rfl; have sc6 := hS.cell 6 _ rfl; have sc7 := hS.cell 7 _ rfl; have sc8 := hS.cell 8 _ rfl; have sf0 := hS.frozen 0; have sf1 := hS.frozen 1; have sf2 := hS.frozen 2; have sf3 := hS.frozen 3; have sf4 := hS.frozen 4; have sf5 := hS.frozen 5; have sf6 := hS.frozen 6; have sf7 := hS.frozen 7; have sf8 := hS.frozen 8; have rc0 := hR.cell 0 _ rfl; have rc1 := hR.cell 1 _ rfl; have rc2 := hR.cell 2 _ rfl; have rc3 := hR.cell 3 _ rfl; have rc4 := hR.cell 4 _ rfl; have rc5 := hR.cell 5 _ rfl; have rc6 := hR.cell 6 _ rfl; have rc7 := hR.cell 7 _ rfl; have rc8 := hR.cell 8 _ rfl; have rf0 := hR.frozen 0; have rf1 := hR.frozen 1; have rf2 := hR.frozen 2; have rf3 := hR.frozen 3; have rf4 := hR.frozen 4; have rf5 := hR.frozen 5; have rf6 := hR.frozen 6; have rf7 := hR.frozen 7; have rf8 := hR.frozen 8
    go_wp2_with fail
    skip
    refine (chooseOf_to lb z _ _ _ HC.out (by omega) (by omega) _).mono ?_
    rintro e w2 ⟨rfl, b2⟩
    have hS := hS.bel b2
    have hR := hR.bel b2
    have hb0 := hb0.trans b2
    have sc0 := hS.cell 0 _ rfl; have sc1 := hS.cell 1 _ rfl; have sc2 := hS.cell 2 _ rfl; have sc3 := hS.cell 3 _ rfl; have sc4 := hS.cell 4 _ rfl; have sc5 := hS.cell 5 _ rfl; have sc6 := hS.cell 6 _ rfl; have sc7 := hS.cell 7 _ rfl; have sc8 := hS.cell 8 _ rfl; have sf0 := hS.frozen 0; have sf1 := hS.frozen 1; have sf2 := hS.frozen 2; have sf3 := hS.frozen 3; have sf4 := hS.frozen 4; have sf5 := hS.frozen 5; have sf6 := hS.frozen 6; have sf7 := hS.frozen 7; have sf8 := hS.frozen 8; have rc0 := hR.cell 0 _ rfl; have rc1 := hR.cell 1 _ rfl; have rc2 := hR.cell 2 _ rfl; have rc3 := hR.cell 3 _ rfl; have rc4 := hR.cell 4 _ rfl; have rc5 := hR.cell 5 _ rfl; have rc6 := hR.cell 6 _ rfl; have rc7 := hR.cell 7 _ rfl; have rc8 := hR.cell 8 _ rfl; have rf0 := hR.frozen 0; have rf1 := hR.frozen 1; have rf2 := hR.frozen 2; have rf3 := hR.frozen 3; have rf4 := hR.frozen 4; have rf5 := hR.frozen 5; have rf6 := hR.frozen 6; have rf7 := hR.frozen 7; have rf8 := hR.frozen 8
    go_upto_region 9 with fail
    have hS := ((((((((hS.set 1 (.int .i64 n)).set 2 (.int .i64 y)).set 3 (.string ⟨#[]⟩)).set 4 (.int .i64 n)).set 5 (.string ⟨#[]⟩)).set 6 (.int .i64 0)).set 7 (.bool false)).set 8 (.bool false))
    have hR := ((((((((hR.far (p := ⟨w.heap.size, 1, none⟩) (by simp) (.int .i64 n)).far (p := ⟨w.heap.size, 2, none⟩) (by simp) (.int .i64 y)).far (p := ⟨w.heap.size, 3, none⟩) (by simp) (.string ⟨#[]⟩)).far (p := ⟨w.heap.size, 4, none⟩) (by simp) (.int .i64 n)).far (p := ⟨w.heap.size, 5, none⟩) (by simp) (.string ⟨#[]⟩)).far (p := ⟨w.heap.size, 6, none⟩) (by simp) (.int .i64 0)).far (p := ⟨w.heap.size, 7, none⟩) (by simp) (.bool false)).far (p := ⟨w.heap.size, 8, none⟩) (by simp) (.bool false))
    have hb0 := ((((((((hb0.setCell (p := ⟨w.heap.size, 1, none⟩) (Nat.le_refl _) (.int .i64 n)).setCell (p := ⟨w.heap.size, 2, none⟩) (Nat.le_refl _) (.int .i64 y)).setCell (p := ⟨w.heap.size, 3, none⟩) (Nat.le_refl _) (.string ⟨#[]⟩)).setCell (p := ⟨w.heap.size, 4, none⟩) (Nat.le_refl _) (.int .i64 n)).setCell (p := ⟨w.heap.size, 5, none⟩) (Nat.le_refl _) (.string ⟨#[]⟩)).setCell (p := ⟨w.heap.size, 6, none⟩) (Nat.le_refl _) (.int .i64 0)).setCell (p := ⟨w.heap.size, 7, none⟩) (Nat.le_refl _) (.bool false)).setCell (p := ⟨w.heap.size, 8, none⟩) (Nat.le_refl _) (.bool false))
    clear b2
    generalize ((((((((w2.setCell ⟨w.heap.size, 1, none⟩ (.int .i64 n)).setCell ⟨w.heap.size, 2, none⟩ (.int .i64 y)).setCell ⟨w.heap.size, 3, none⟩ (.string ⟨#[]⟩)).setCell ⟨w.heap.size, 4, none⟩ (.int .i64 n)).setCell ⟨w.heap.size, 5, none⟩ (.string ⟨#[]⟩)).setCell ⟨w.heap.size, 6, none⟩ (.int .i64 0)).setCell ⟨w.heap.size, 7, none⟩ (.bool false)).setCell ⟨w.heap.size, 8, none⟩ (.bool false)) = X0 at *
    have hS : Box X0 w.heap.size 25 [.string lb, .int .i64 n, .int .i64 y, .string ⟨#[]⟩, .int .i64 n, .string ⟨#[]⟩, .int .i64 0, .bool false, .bool false] := hS
    have sc0 := hS.cell 0 _ rfl; have sc1 := hS.cell 1 _ rfl; have sc2 := hS.cell 2 _ rfl; have sc3 := hS.cell 3 _ rfl; have sc4 := hS.cell 4 _ rfl; have sc5 := hS.cell 5 _ rfl; have sc6 := hS.cell 6 _ rfl; have sc7 := hS.cell 7 _ rfl; have sc8 := hS.cell 8 _ rfl; have sf0 := hS.frozen 0; have sf1 := hS.frozen 1; have sf2 := hS.frozen 2; have sf3 := hS.frozen 3; have sf4 := hS.frozen 4; have sf5 := hS.frozen 5; have sf6 := hS.frozen 6; have sf7 := hS.frozen 7; have sf8 := hS.frozen 8; have rc0 := hR.cell 0 _ rfl; have rc1 := hR.cell 1 _ rfl; have rc2 := hR.cell 2 _ rfl; have rc3 := hR.cell 3 _ rfl; have rc4 := hR.cell 4 _ rfl; have rc5 := hR.cell 5 _ rfl; have rc6 := hR.cell 6 _ rfl; have rc7 := hR.cell 7 _ rfl; have rc8 := hR.cell 8 _ rfl; have rf0 := hR.frozen 0; have rf1 := hR.frozen 1; have rf2 := hR.frozen 2; have rf3 := hR.frozen 3; have rf4 := hR.frozen 4; have rf5 := hR.frozen 5; have rf6 := hR.frozen 6; have rf7 := hR.frozen 7; have rf8 := hR.frozen 8
    go_wp2_with fail
    refine (feedOf_any n HI.out ⟨#[]⟩ 0 false false (z.extract k z.size) _ (by have h9 : (⟨#[]⟩ : ByteArray).size = 0 := rfl; omega) _ _ HW.out _).mono ?_
    skip
    rintro e w3 ⟨v2, rfl, o2, b3⟩
    rw [stV]
    go_upto_region 11 with fail
    have hsB := hS.lt
    have hrB := hR.lt
    have hwB := hb0.size
    have hq : Bel X0 (w3.alloc (.cells #[.int .i64 d2.enc, .string ⟨d2.rest.toArray⟩, .int .i64 d2.signs, .bool d2.fresh, .bool d2.stopped] 23)) := b3.alloc _
    have hN := Box.new w3 23 [.int .i64 d2.enc, .string ⟨d2.rest.toArray⟩, .int .i64 d2.signs, .bool d2.fresh, .bool d2.stopped]
    have hS := hS.bel hq
    have hR := hR.bel hq
    have hb0 := hb0.trans hq
    have o2 := o2.alloc (.cells #[.int .i64 d2.enc, .string ⟨d2.rest.toArray⟩, .int .i64 d2.signs, .bool d2.fresh, .bool d2.stopped] 23)
    have hnq : ¬ w3.heap.size = w.heap.size := by have := b3.size; omega
    have hqn : ¬ w.heap.size = w3.heap.size := by have := b3.size; omega
    clear b3 hq
    generalize (w3.alloc (.cells #[.int .i64 d2.enc, .string ⟨d2.rest.toArray⟩, .int .i64 d2.signs, .bool d2.fresh, .bool d2.stopped] 23)) = W at *
    generalize w3.heap.size = q at *
    have sc0 := hS.cell 0 _ rfl; have sc1 := hS.cell 1 _ rfl; have sc2 := hS.cell 2 _ rfl; have sc3 := hS.cell 3 _ rfl; have sc4 := hS.cell 4 _ rfl; have sc5 := hS.cell 5 _ rfl; have sc6 := hS.cell 6 _ rfl; have sc7 := hS.cell 7 _ rfl; have sc8 := hS.cell 8 _ rfl; have sf0 := hS.frozen 0; have sf1 := hS.frozen 1; have sf2 := hS.frozen 2; have sf3 := hS.frozen 3; have sf4 := hS.frozen 4; have sf5 := hS.frozen 5; have sf6 := hS.frozen 6; have sf7 := hS.frozen 7; have sf8 := hS.frozen 8; have rc0 := hR.cell 0 _ rfl; have rc1 := hR.cell 1 _ rfl; have rc2 := hR.cell 2 _ rfl; have rc3 := hR.cell 3 _ rfl; have rc4 := hR.cell 4 _ rfl; have rc5 := hR.cell 5 _ rfl; have rc6 := hR.cell 6 _ rfl; have rc7 := hR.cell 7 _ rfl; have rc8 := hR.cell 8 _ rfl; have rf0 := hR.frozen 0; have rf1 := hR.frozen 1; have rf2 := hR.frozen 2; have rf3 := hR.frozen 3; have rf4 := hR.frozen 4; have rf5 := hR.frozen 5; have rf6 := hR.frozen 6; have rf7 := hR.frozen 7; have rf8 := hR.frozen 8
    have n0 := hN.cell 0 _ rfl
    have n1 := hN.cell 1 _ rfl
    have n2 := hN.cell 2 _ rfl
    have n3 := hN.cell 3 _ rfl
    have n4 := hN.cell 4 _ rfl
    clear hN
    go_upto_region 12 with fail
    have hS := ((((hS.set 4 (.int .i64 d2.enc)).set 5 (.string ⟨d2.rest.toArray⟩)).set 6 (.int .i64 d2.signs)).set 7 (.bool d2.fresh)).set 8 (.bool d2.stopped)
    have hR := ((((hR.far (p := ⟨w.heap.size, 4, none⟩) (by simp) (.int .i64 d2.enc)).far (p := ⟨w.heap.size, 5, none⟩) (by simp) (.string ⟨d2.rest.toArray⟩)).far (p := ⟨w.heap.size, 6, none⟩) (by simp) (.int .i64 d2.signs)).far (p := ⟨w.heap.size, 7, none⟩) (by simp) (.bool d2.fresh)).far (p := ⟨w.heap.size, 8, none⟩) (by simp) (.bool d2.stopped)
    have hb0 := ((((hb0.setCell (p := ⟨w.heap.size, 4, none⟩) (Nat.le_refl _) (.int .i64 d2.enc)).setCell (p := ⟨w.heap.size, 5, none⟩) (Nat.le_refl _) (.string ⟨d2.rest.toArray⟩)).setCell (p := ⟨w.heap.size, 6, none⟩) (Nat.le_refl _) (.int .i64 d2.signs)).setCell (p := ⟨w.heap.size, 7, none⟩) (Nat.le_refl _) (.bool d2.fresh)).setCell (p := ⟨w.heap.size, 8, none⟩) (Nat.le_refl _) (.bool d2.stopped)
    have o2 := ((((o2.setCell (p := ⟨w.heap.size, 4, none⟩) hsB (.int .i64 d2.enc)).setCell (p := ⟨w.heap.size, 5, none⟩) hsB (.string ⟨d2.rest.toArray⟩)).setCell (p := ⟨w.heap.size, 6, none⟩) hsB (.int .i64 d2.signs)).setCell (p := ⟨w.heap.size, 7, none⟩) hsB (.bool d2.fresh)).setCell (p := ⟨w.heap.size, 8, none⟩) hsB (.bool d2.stopped)
    generalize (((((W.setCell ⟨w.heap.size, 4, none⟩ (.int .i64 d2.enc)).setCell ⟨w.heap.size, 5, none⟩ (.string ⟨d2.rest.toArray⟩)).setCell ⟨w.heap.size, 6, none⟩ (.int .i64 d2.signs)).setCell ⟨w.heap.size, 7, none⟩ (.bool d2.fresh)).setCell ⟨w.heap.size, 8, none⟩ (.bool d2.stopped)) = X at *
    have hS : Box X w.heap.size 25 [.string lb, .int .i64 n, .int .i64 y, .string ⟨#[]⟩, .int .i64 d2.enc, .string ⟨d2.rest.toArray⟩, .int .i64 d2.signs, .bool d2.fresh, .bool d2.stopped] := hS
    have sc0 := hS.cell 0 _ rfl; have sc1 := hS.cell 1 _ rfl; have sc2 := hS.cell 2 _ rfl; have sc3 := hS.cell 3 _ rfl; have sc4 := hS.cell 4 _ rfl; have sc5 := hS.cell 5 _ rfl; have sc6 := hS.cell 6 _ rfl; have sc7 := hS.cell 7 _ rfl; have sc8 := hS.cell 8 _ rfl; have sf0 := hS.frozen 0; have sf1 := hS.frozen 1; have sf2 := hS.frozen 2; have sf3 := hS.frozen 3; have sf4 := hS.frozen 4; have sf5 := hS.frozen 5; have sf6 := hS.frozen 6; have sf7 := hS.frozen 7; have sf8 := hS.frozen 8; have rc0 := hR.cell 0 _ rfl; have rc1 := hR.cell 1 _ rfl; have rc2 := hR.cell 2 _ rfl; have rc3 := hR.cell 3 _ rfl; have rc4 := hR.cell 4 _ rfl; have rc5 := hR.cell 5 _ rfl; have rc6 := hR.cell 6 _ rfl; have rc7 := hR.cell 7 _ rfl; have rc8 := hR.cell 8 _ rfl; have rf0 := hR.frozen 0; have rf1 := hR.frozen 1; have rf2 := hR.frozen 2; have rf3 := hR.frozen 3; have rf4 := hR.frozen 4; have rf5 := hR.frozen 5; have rf6 := hR.frozen 6; have rf7 := hR.frozen 7; have rf8 := hR.frozen 8
    skip
    go_wp2_with fail
    go_region
    go_wp2_with fail
    have hF := Box.drew (((((((((hR.set 0 (.string lb)).set 1 (.int .i64 n)).set 2 (.int .i64 y)).set 3 (.string ⟨#[]⟩)).set 4 (.int .i64 d2.enc)).set 5 (.string ⟨d2.rest.toArray⟩)).set 6 (.int .i64 d2.signs)).set 7 (.bool d2.fresh)).set 8 (.bool d2.stopped))
    have uc0 := hF.cell 0 _ rfl; have uc1 := hF.cell 1 _ rfl; have uc2 := hF.cell 2 _ rfl; have uc3 := hF.cell 3 _ rfl; have uc4 := hF.cell 4 _ rfl; have uc5 := hF.cell 5 _ rfl; have uc6 := hF.cell 6 _ rfl; have uc7 := hF.cell 7 _ rfl; have uc8 := hF.cell 8 _ rfl
    refine bodyPost_ret (v := .tuple #[v2, .agg #[.string lb, .int .i64 n, .int .i64 y, .string ⟨#[]⟩, .int .i64 d2.enc, .string ⟨d2.rest.toArray⟩, .int .i64 d2.signs, .bool d2.fresh, .bool d2.stopped]]) (by simp [results, Tryz.results11, go_sem, uc0, uc1, uc2, uc3, uc4, uc5, uc6, uc7, uc8]) rfl ?_
    have hbw := hb0
    exact ⟨_, by first | rfl | simp, (((((((((o2.setCell (p := ⟨w.heap.size + 1, 0, none⟩) hrB _).setCell (p := ⟨w.heap.size + 1, 1, none⟩) hrB _).setCell (p := ⟨w.heap.size + 1, 2, none⟩) hrB _).setCell (p := ⟨w.heap.size + 1, 3, none⟩) hrB _).setCell (p := ⟨w.heap.size + 1, 4, none⟩) hrB _).setCell (p := ⟨w.heap.size + 1, 5, none⟩) hrB _).setCell (p := ⟨w.heap.size + 1, 6, none⟩) hrB _).setCell (p := ⟨w.heap.size + 1, 7, none⟩) hrB _).setCell (p := ⟨w.heap.size + 1, 8, none⟩) hrB _).drew.mono hwB, (((((((((hbw.setCell (p := ⟨w.heap.size + 1, 0, none⟩) (by simp) _).setCell (p := ⟨w.heap.size + 1, 1, none⟩) (by simp) _).setCell (p := ⟨w.heap.size + 1, 2, none⟩) (by simp) _).setCell (p := ⟨w.heap.size + 1, 3, none⟩) (by simp) _).setCell (p := ⟨w.heap.size + 1, 4, none⟩) (by simp) _).setCell (p := ⟨w.heap.size + 1, 5, none⟩) (by simp) _).setCell (p := ⟨w.heap.size + 1, 6, none⟩) (by simp) _).setCell (p := ⟨w.heap.size + 1, 7, none⟩) (by simp) _).setCell (p := ⟨w.heap.size + 1, 8, none⟩) (by simp) _).drew⟩
end Go.Proofs.YtcgdecpjlggekaaGreatDoor

/-
  The document's answers on fronts: FrontOf of a front that is right, in one contract.
-/
namespace Go.Proofs.YtcgdecpjlggekaaGreatDoor
open Go.RowKit
set_option maxRecDepth 1000000
set_option maxHeartbeats 1000000

theorem frontOf_to (lb : ByteArray) (en wy : Int) (wt : ByteArray) (se : Int) (rs : ByteArray) (sg : Int) (fr st : Bool) (b : ByteArray) (last : Bool) (hb3 : b.size ≤ 3000) (hc : M.checkF ⟨lb.data.toList, en, wy, wt.data.toList, ⟨se, rs.data.toList, sg, fr, st⟩⟩ = 0) (xs : List Int) (F2 : M.Ft)
    (h : M.feedF ⟨lb.data.toList, en, wy, wt.data.toList, ⟨se, rs.data.toList, sg, fr, st⟩⟩ b.data.toList last = (xs, F2)) (w : World) :
    Calls Tryz.prog 11 #[.agg #[.string lb, .int .i64 en, .int .i64 wy, .string wt, .int .i64 se, .string rs, .int .i64 sg, .bool fr, .bool st], .string b, .bool last] w fun e w' => ∃ v, e = .returned (.tuple #[v, .agg (ftC F2).toArray]) ∧ Own w.heap.size 3 w' v (xs.map (Value.int .i64)) ∧ Bel w w' := by
  obtain ⟨hl, hcase⟩ := M.right_front _ hc
  simp only [← Lib.size_eq] at hl hcase
  rcases hcase with ⟨rfl, rfl, hz, hn, hwl⟩ | ⟨he, hy, hw0, hse, hk⟩
  · simp only [M.zst, M.St.mk.injEq] at hz
    obtain ⟨rfl, hrs, rfl, rfl, rfl⟩ := hz
    obtain rfl : rs = ⟨#[]⟩ := by
      apply ByteArray.ext
      simpa using hrs
    have hsw : wt.size ≤ 3000 := by omega
    have hcat : (wt ++ b).data.toList = wt.data.toList ++ b.data.toList := data_append _ _
    simp only [M.feedF, M.rawF, if_true] at h
    rw [← hcat] at h
    by_cases hq : last = false ∧ M.enough lb.data.toList (wt ++ b).data.toList = false
    · rw [if_pos hq] at h
      obtain ⟨rfl, hq2⟩ := hq
      simp only [Prod.mk.injEq] at h
      obtain ⟨rfl, rfl⟩ := h
      refine (frontOf_wait lb 0 0 wt 0 ⟨#[]⟩ 0 false false b hl hsw hb3 rfl hq2 w).mono ?_
      rintro e w' ⟨rfl, h2⟩
      refine ⟨_, ?_, Own.nil _ _ _, h2⟩
      simp only [ftC]
      rfl
    · rw [if_neg hq] at h
      have hq2 : last = true ∨ M.enough lb.data.toList (wt ++ b).data.toList = true := by
        cases last with
        | true => exact .inl rfl
        | false =>
          refine .inr ?_
          cases hx : M.enough lb.data.toList (wt ++ b).data.toList with
          | true => rfl
          | false => exact absurd ⟨rfl, hx⟩ hq
      obtain ⟨n, y, k, hch⟩ : ∃ n y k, M.chosen lb.data.toList (wt ++ b).data.toList = (n, y, k) := ⟨_, _, _, rfl⟩
      obtain ⟨q1, q2, q3, q4, q5, q6⟩ := M.chosen_ok lb.data.toList (wt ++ b).data.toList
      rw [hch] at q1 q2 q3 q4 q5 q6 h
      simp only at q1 q2 q3 q4 q5 q6 h
      obtain ⟨kn, rfl⟩ : ∃ kn : Nat, k = (kn : Int) := ⟨k.toNat, by omega⟩
      rw [← Lib.size_eq] at q5
      have hkz : kn ≤ (wt ++ b).size := by omega
      rw [Int.toNat_natCast, ← drop_extF (wt ++ b) kn] at h
      obtain ⟨ys, d2, hraw⟩ : ∃ ys d2, M.rawM (M.opn n) ((wt ++ b).extract kn (wt ++ b).size).data.toList last = (ys, d2) := ⟨_, _, rfl⟩
      rw [hraw] at h
      simp only [Prod.mk.injEq] at h
      obtain ⟨rfl, rfl⟩ := h
      refine (frontOf_ch lb 0 0 wt 0 ⟨#[]⟩ 0 false false b last hl hsw hb3 rfl hq2 n y kn hch hkz q1 _ d2 (by rw [M.ref_raw _ (M.right_opn n q1)]; exact hraw) w).mono ?_
      rintro e w' ⟨v, rfl, h1, h2⟩
      refine ⟨_, ?_, h1, h2⟩
      cases last <;> simp [ftC, M.bgn, M.zst]
  · obtain rfl : wt = ⟨#[]⟩ := by
      apply ByteArray.ext
      simpa using hw0
    have hyn : wy ≠ 0 := by omega
    have hright := (M.check_right _).1 hk
    have hr3 : rs.size ≤ 3 := by rw [Lib.size_eq]; exact hright.len
    simp only [M.feedF, M.rawF] at h
    rw [if_neg hyn] at h
    obtain ⟨ys, d2, hraw⟩ : ∃ ys d2, M.rawM ⟨se, rs.data.toList, sg, fr, st⟩ b.data.toList last = (ys, d2) := ⟨_, _, rfl⟩
    rw [hraw] at h
    simp only [Prod.mk.injEq] at h
    obtain ⟨rfl, rfl⟩ := h
    refine (frontOf_on lb en wy ⟨#[]⟩ se rs sg fr st b last hyn hright.enc (by omega) _ d2 (by rw [M.ref_raw _ hright]; exact hraw) w).mono ?_
    rintro e w' ⟨v, rfl, h1, h2⟩
    refine ⟨_, ?_, h1, h2⟩
    cases last <;> simp [ftC, M.bgn, M.zst]
end Go.Proofs.YtcgdecpjlggekaaGreatDoor

/-
  Small answers that several laws ask.
-/
namespace Go.Proofs.YtcgdecpjlggekaaGreatDoor
open Go.RowKit
set_option maxRecDepth 1000000

theorem long_to (s : ByteArray) (n : Int) (h : M.long s.data.toList = n) (w : World) : Calls Tryz.prog 8 #[.string s] w fun e w' => e = .returned (.int .i64 n) ∧ w = w' := by
  have := tooLong_any s w; rw [h] at this; exact this
theorem long_cases (s : ByteArray) : (3000 < s.size ∧ M.long s.data.toList = 2) ∨ (s.size ≤ 3000 ∧ M.long s.data.toList = 0) := by
  by_cases h : 3000 < s.size
  · exact .inl ⟨h, by rw [M.long, if_pos (by rw [← Lib.size_eq]; exact h)]⟩
  · exact .inr ⟨by omega, by rw [M.long, if_neg (by rw [← Lib.size_eq]; exact h)]⟩
end Go.Proofs.YtcgdecpjlggekaaGreatDoor

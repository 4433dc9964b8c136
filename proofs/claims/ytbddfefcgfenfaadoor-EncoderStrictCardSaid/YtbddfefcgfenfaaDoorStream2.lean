/-
  Package stream: the decoder's two methods.
-/
import Derived.Test.YtbddfefcgfenfaaDoorStream
import Derived.Test.YtbddfefcgfenfaaDoorBase6
namespace Go.Proofs.YtbddfefcgfenfaaDoor
open Go.RowKit
set_option maxRecDepth 1000000

theorem tell8_any (g : Nat) (r : List UInt8)
 (sg : Int) (fr st : Bool) (b : ByteArray) (xs : List Int) (l : List UInt8) (ht : M.told8 (r ++ b.data.toList) = (xs, l)) (hsz : r.length + b.size ≤ 68719476734) (w : World) (hB : Box w g 149 [.int .i64 1, .string ⟨r.toArray⟩, .int .i64 sg, .bool fr, .bool st]) :
    Calls Tryd.prog 151 #[.pointer (some ⟨g, 0, none⟩), .string b] w fun e w' => ∃ v, e = .returned v ∧ Own w.heap.size 3 w' v (xs.map (Value.int .i64)) ∧ Box w' g 149 [.int .i64 1, .string ⟨l.toArray⟩, .int .i64 sg, .bool fr, .bool st] ∧ Below g w w' := by
  have Ht := Lib.hid (show M.told8 ((⟨r.toArray⟩ : ByteArray) ++ b).data.toList = (xs, l) by rw [data_append]; exact ht)
  have HS2 := Lib.hid (show ((⟨r.toArray⟩ : ByteArray) ++ b).size ≤ 68719476734 by rw [Lib.size_eq, data_append, List.length_append, ← Lib.size_eq, ← Lib.size_eq, size_str]; omega)
  have hgl := hB.lt
  have HB := Lib.hid hB
  have c0 := hB.cell 0 _ rfl
  have c1 := hB.cell 1 _ rfl
  have c2 := hB.cell 2 _ rfl
  have c3 := hB.cell 3 _ rfl
  have c4 := hB.cell 4 _ rfl
  have z0 := hB.frozen 0
  have z1 := hB.frozen 1
  have z2 := hB.frozen 2
  have z3 := hB.frozen 3
  have z4 := hB.frozen 4
  clear ht hB
  go_enter Tryd.func151, Tryd.ntmps151
  go_wp2_with (first | (go_at_call 153; refine (told8_to _ _ _ Ht.out (Nat.le_succ_of_le HS2.out) _).mono ?_; rintro e w' ⟨v, rfl, ho, hb1⟩; have hB1 := HB.out.bel hb1; have d0 := hB1.cell 0 _ rfl; have d1 := hB1.cell 1 _ rfl; have d2 := hB1.cell 2 _ rfl; have d3 := hB1.cell 3 _ rfl; have d4 := hB1.cell 4 _ rfl; have y0 := hB1.frozen 0; have y1 := hB1.frozen 1; have y2 := hB1.frozen 2; have y3 := hB1.frozen 3; have y4 := hB1.frozen 4))
  go_ret
  exact ⟨_, rfl, ho.setCell (p := ⟨g, 1, none⟩) hgl _, hB1.set 1 _, below_set (Below.mono hb1 (Nat.le_of_lt hgl)) _ _⟩
theorem tell16_any (g : Nat) (n : Int) (big : Bool) (hn : (n = 2 ∧ big = false) ∨ (n = 3 ∧ big = true)) (r : List UInt8)
 (sg : Int) (fr st : Bool) (b : ByteArray) (xs : List Int) (l : List UInt8) (ht : M.told16 big (r ++ b.data.toList) = (xs, l)) (hsz : r.length + b.size ≤ 68719476734) (w : World) (hB : Box w g 149 [.int .i64 n, .string ⟨r.toArray⟩, .int .i64 sg, .bool fr, .bool st]) :
    Calls Tryd.prog 151 #[.pointer (some ⟨g, 0, none⟩), .string b] w fun e w' => ∃ v, e = .returned v ∧ Own w.heap.size 3 w' v (xs.map (Value.int .i64)) ∧ Box w' g 149 [.int .i64 n, .string ⟨l.toArray⟩, .int .i64 sg, .bool fr, .bool st] ∧ Below g w w' := by
  have Ht := Lib.hid (show M.told16 big ((⟨r.toArray⟩ : ByteArray) ++ b).data.toList = (xs, l) by rw [data_append]; exact ht)
  have HS2 := Lib.hid (show ((⟨r.toArray⟩ : ByteArray) ++ b).size ≤ 68719476734 by rw [Lib.size_eq, data_append, List.length_append, ← Lib.size_eq, ← Lib.size_eq, size_str]; omega)
  have hgl := hB.lt
  have HB := Lib.hid hB
  have c0 := hB.cell 0 _ rfl
  have c1 := hB.cell 1 _ rfl
  have c2 := hB.cell 2 _ rfl
  have c3 := hB.cell 3 _ rfl
  have c4 := hB.cell 4 _ rfl
  have z0 := hB.frozen 0
  have z1 := hB.frozen 1
  have z2 := hB.frozen 2
  have z3 := hB.frozen 3
  have z4 := hB.frozen 4
  clear ht hB
  rcases hn with ⟨rfl, rfl⟩ | ⟨rfl, rfl⟩
  all_goals
    go_enter Tryd.func151, Tryd.ntmps151
    go_wp2_with (first | (go_at_call 154; refine (told16_to _ _ _ _ Ht.out (Nat.le_succ_of_le HS2.out) _).mono ?_; rintro e w' ⟨v, rfl, ho, hb1⟩; have hB1 := HB.out.bel hb1; have d0 := hB1.cell 0 _ rfl; have d1 := hB1.cell 1 _ rfl; have d2 := hB1.cell 2 _ rfl; have d3 := hB1.cell 3 _ rfl; have d4 := hB1.cell 4 _ rfl; have y0 := hB1.frozen 0; have y1 := hB1.frozen 1; have y2 := hB1.frozen 2; have y3 := hB1.frozen 3; have y4 := hB1.frozen 4))
    go_ret
    exact ⟨_, rfl, ho.setCell (p := ⟨g, 1, none⟩) hgl _, hB1.set 1 _, below_set (Below.mono hb1 (Nat.le_of_lt hgl)) _ _⟩
theorem tellS_any (g : Nat) (n : Int) (hn : n = 4 ∨ n = 5) (r : List UInt8)
 (sg : Int) (fr st : Bool) (b : ByteArray) (xs : List Int) (ht : M.allE n (r ++ b.data.toList) = xs) (hsz : r.length + b.size ≤ 68719476734) (w : World) (hB : Box w g 149 [.int .i64 n, .string ⟨r.toArray⟩, .int .i64 sg, .bool fr, .bool st]) :
    Calls Tryd.prog 151 #[.pointer (some ⟨g, 0, none⟩), .string b] w fun e w' => ∃ v, e = .returned v ∧ Own w.heap.size 3 w' v (xs.map (Value.int .i64)) ∧ Box w' g 149 [.int .i64 n, .string ⟨r.toArray⟩, .int .i64 sg, .bool fr, .bool st] ∧ Below g w w' := by
  have Ht := Lib.hid (show M.allE n ((⟨r.toArray⟩ : ByteArray) ++ b).data.toList = xs by rw [data_append]; exact ht)
  have HS2 := Lib.hid (show ((⟨r.toArray⟩ : ByteArray) ++ b).size ≤ 68719476734 by rw [Lib.size_eq, data_append, List.length_append, ← Lib.size_eq, ← Lib.size_eq, size_str]; omega)
  have hgl := hB.lt
  have HB := Lib.hid hB
  have c0 := hB.cell 0 _ rfl
  have c1 := hB.cell 1 _ rfl
  have c2 := hB.cell 2 _ rfl
  have c3 := hB.cell 3 _ rfl
  have c4 := hB.cell 4 _ rfl
  have z0 := hB.frozen 0
  have z1 := hB.frozen 1
  have z2 := hB.frozen 2
  have z3 := hB.frozen 3
  have z4 := hB.frozen 4
  have HI := Lib.hid (show M.isEnc n = true by rw [M.isEnc, decide_eq_true_eq]; omega)
  clear ht hB
  rcases hn with rfl | rfl
  all_goals
    go_enter Tryd.func151, Tryd.ntmps151
    go_wp2_with (first | (go_at_call 88; refine (streamAll_any _ HI.out _ HS2.out _).mono ?_; rintro e w' ⟨v, rfl, ho, hb1⟩; have hB1 := HB.out.bel hb1))
    go_ret
    rw [Ht.out] at ho
    exact ⟨_, rfl, ho, hB1, Below.mono hb1 (Nat.le_of_lt hgl)⟩
theorem tell7_any (g : Nat) (r : List UInt8)
 (sg : Int) (fr st : Bool) (b : ByteArray) (xs : List Int) (hs : st = true ∨ r ++ b.data.toList = []) (hx : xs = []) (hsz : r.length + b.size ≤ 68719476734) (w : World) (hB : Box w g 149 [.int .i64 7, .string ⟨r.toArray⟩, .int .i64 sg, .bool fr, .bool st]) :
    Calls Tryd.prog 151 #[.pointer (some ⟨g, 0, none⟩), .string b] w fun e w' => ∃ v, e = .returned v ∧ Own w.heap.size 3 w' v (xs.map (Value.int .i64)) ∧ Box w' g 149 [.int .i64 7, .string ⟨r.toArray⟩, .int .i64 sg, .bool fr, .bool st] ∧ Below g w w' := by
  subst hx
  have HS2 := Lib.hid (show ((⟨r.toArray⟩ : ByteArray) ++ b).size ≤ 68719476734 by rw [Lib.size_eq, data_append, List.length_append, ← Lib.size_eq, ← Lib.size_eq, size_str]; omega)
  have hgl := hB.lt
  have HB := Lib.hid hB
  have c0 := hB.cell 0 _ rfl
  have c1 := hB.cell 1 _ rfl
  have c2 := hB.cell 2 _ rfl
  have c3 := hB.cell 3 _ rfl
  have c4 := hB.cell 4 _ rfl
  have z0 := hB.frozen 0
  have z1 := hB.frozen 1
  have z2 := hB.frozen 2
  have z3 := hB.frozen 3
  have z4 := hB.frozen 4
  clear hB
  rcases hs with rfl | hs
  · go_enter Tryd.func151, Tryd.ntmps151
    go_wp2_with fail
    go_ret
    exact ⟨_, rfl, Own.nil _ _ _, HB.out, Below.refl _ _⟩
  · have e0 : ((⟨r.toArray⟩ : ByteArray) ++ b).data.toList = [] := by rw [data_append]; exact hs
    have e1 : ((⟨r.toArray⟩ : ByteArray) ++ b).toList.isEmpty = true := by rw [Lib.toList_data, e0]; rfl
    clear e0 hs
    cases st
    · go_enter Tryd.func151, Tryd.ntmps151
      go_wp2_with fail
      go_ret
      exact ⟨_, rfl, Own.nil _ _ _, HB.out, Below.refl _ _⟩
    · go_enter Tryd.func151, Tryd.ntmps151
      go_wp2_with fail
      go_ret
      exact ⟨_, rfl, Own.nil _ _ _, HB.out, Below.refl _ _⟩
theorem tell7_one (g : Nat) (r : List UInt8)
 (sg : Int) (fr st : Bool) (b : ByteArray) (xs : List Int) (hst : st = false) (hs : r ++ b.data.toList ≠ []) (hx : xs = [65533]) (hsz : r.length + b.size ≤ 68719476734) (w : World) (hB : Box w g 149 [.int .i64 7, .string ⟨r.toArray⟩, .int .i64 sg, .bool fr, .bool st]) :
    Calls Tryd.prog 151 #[.pointer (some ⟨g, 0, none⟩), .string b] w fun e w' => ∃ v, e = .returned v ∧ Own w.heap.size 3 w' v (xs.map (Value.int .i64)) ∧ Box w' g 149 [.int .i64 7, .string ⟨r.toArray⟩, .int .i64 sg, .bool fr, .bool true] ∧ Below g w w' := by
  subst hx
  subst hst
  have HS2 := Lib.hid (show ((⟨r.toArray⟩ : ByteArray) ++ b).size ≤ 68719476734 by rw [Lib.size_eq, data_append, List.length_append, ← Lib.size_eq, ← Lib.size_eq, size_str]; omega)
  have hgl := hB.lt
  have HB := Lib.hid hB
  have c0 := hB.cell 0 _ rfl
  have c1 := hB.cell 1 _ rfl
  have c2 := hB.cell 2 _ rfl
  have c3 := hB.cell 3 _ rfl
  have c4 := hB.cell 4 _ rfl
  have z0 := hB.frozen 0
  have z1 := hB.frozen 1
  have z2 := hB.frozen 2
  have z3 := hB.frozen 3
  have z4 := hB.frozen 4
  clear hB
  have e0 : ((⟨r.toArray⟩ : ByteArray) ++ b).data.toList ≠ [] := by rw [data_append]; exact hs
  have e1 : ((⟨r.toArray⟩ : ByteArray) ++ b).toList.isEmpty = false := by rw [Lib.toList_data]; simpa using e0
  have Ht := Lib.hid (show M.allE 7 ((⟨r.toArray⟩ : ByteArray) ++ b).data.toList = [65533] by
    rw [M.allE, if_neg (by omega), if_neg (by omega), if_neg (by omega), if_neg (by omega), if_neg e0])
  have HI := Lib.hid (show M.isEnc 7 = true from rfl)
  have HB2 := Lib.hid (show Box (w.setCell ⟨g, 4, none⟩ (.bool true)) g 149 [.int .i64 7, .string ⟨r.toArray⟩, .int .i64 sg, .bool fr, .bool true] from HB.out.set 4 _)
  clear e0 hs
  go_enter Tryd.func151, Tryd.ntmps151
  go_wp2_with (first | (go_at_call 88; refine (streamAll_any _ HI.out _ HS2.out _).mono ?_; rintro e w' ⟨v, rfl, ho, hb1⟩; have hB1 := HB2.out.bel hb1))
  go_ret
  rw [Ht.out] at ho
  exact ⟨_, rfl, by simpa using ho, hB1, Below.trans (below_set (Below.refl _ _) _ _) (Below.mono hb1 (by simp; omega))⟩
set_option maxHeartbeats 4000000 in
theorem tellK6_any (g : Nat) (r : List UInt8)
 (sg : Int) (fr st : Bool) (b : ByteArray) (xs : List Int) (l : List UInt8) (sg2 : Int) (fr2 : Bool) (ht : M.toldK false sg fr (r ++ b.data.toList) = (xs, sg2, fr2, l)) (hsz : r.length + b.size ≤ 68719476734) (w : World) (hB : Box w g 149 [.int .i64 6, .string ⟨r.toArray⟩, .int .i64 sg, .bool fr, .bool st]) :
    Calls Tryd.prog 151 #[.pointer (some ⟨g, 0, none⟩), .string b] w fun e w' => ∃ v, e = .returned v ∧ Own w.heap.size 3 w' v (xs.map (Value.int .i64)) ∧ Box w' g 149 [.int .i64 6, .string ⟨l.toArray⟩, .int .i64 sg2, .bool fr2, .bool st] ∧ Below g w w' := by
  have Ht := Lib.hid (show M.toldK false sg fr ((⟨r.toArray⟩ : ByteArray) ++ b).data.toList = (xs, sg2, fr2, l) by rw [data_append]; exact ht)
  have HS2 := Lib.hid (show ((⟨r.toArray⟩ : ByteArray) ++ b).size ≤ 68719476734 by rw [Lib.size_eq, data_append, List.length_append, ← Lib.size_eq, ← Lib.size_eq, size_str]; omega)
  have hgl := hB.lt
  have HB := Lib.hid hB
  have c0 := hB.cell 0 _ rfl
  have c1 := hB.cell 1 _ rfl
  have c2 := hB.cell 2 _ rfl
  have c3 := hB.cell 3 _ rfl
  have c4 := hB.cell 4 _ rfl
  have z0 := hB.frozen 0
  have z1 := hB.frozen 1
  have z2 := hB.frozen 2
  have z3 := hB.frozen 3
  have z4 := hB.frozen 4
  clear ht hB
  go_enter Tryd.func151, Tryd.ntmps151
  go_wp2_with fail
  have m2 := World.new_ne w _ c2
  have m3 := World.new_ne w _ c3
  go_region_held3 (fun w' => w'.cell? ⟨g, 2, none⟩ = some (.int .i64 sg) ∧ w'.cell? ⟨g, 3, none⟩ = some (.bool fr)) (go_keep) ((first | (go_at_call 155; refine (toldK_to _ _ _ _ _ _ _ _ Ht.out (Nat.le_succ_of_le HS2.out) _).mono ?_; rintro e w' ⟨v, rfl, ho, hb1⟩; have hB1 := Box.bel (HB.out.bel (by repeat (first | exact Bel.refl _ | refine Bel.drewN ?_ _ | refine Bel.drew ?_ | refine Bel.alloc ?_ _ | refine Bel.trans ?_ (by assumption) | refine Bel.setCell ?_ (by simp; omega) _))) hb1; have d0 := hB1.cell 0 _ rfl; have d1 := hB1.cell 1 _ rfl; have d2 := hB1.cell 2 _ rfl; have d3 := hB1.cell 3 _ rfl; have d4 := hB1.cell 4 _ rfl; have y0 := hB1.frozen 0; have y1 := hB1.frozen 1; have y2 := hB1.frozen 2; have y3 := hB1.frozen 3; have y4 := hB1.frozen 4; have m4 := World.new_ne w' _ d2; have m5 := World.new_ne w' _ d3; try (have hS : Box w' w.heap.size 154 [.int .i64 0, .bool false] := Box.bel (w := (w.alloc (.cells #[.int .i64 0, .bool false] 154)).drew) (Box.new w _ _) hb1; have s0 := hS.cell 0 _ rfl; have s1 := hS.cell 1 _ rfl; have n0 := hS.frozen 0; have n1 := hS.frozen 1))))
  all_goals first
    | (have hA := (hS.set 0 (.int .i64 sg2)).set 1 (.bool fr2)
       have hC := (hB1.far (p := ⟨w.heap.size, 0, none⟩) (by simp; omega) (.int .i64 sg2)).far (p := ⟨w.heap.size, 1, none⟩) (by simp; omega) (.bool fr2)
       have hF := ((Below.mono hb1 (Nat.le_of_lt (show g < (w.alloc (.cells #[.int .i64 0, .bool false] 154)).drew.heap.size by simp; omega))).setCell (p := ⟨w.heap.size, 0, none⟩) (Nat.le_of_lt hgl) (.int .i64 sg2)).setCell (p := ⟨w.heap.size, 1, none⟩) (Nat.le_of_lt hgl) (.bool fr2)
       have hw0 : Below g w (w.alloc (.cells #[.int .i64 0, .bool false] 154)).drew := Below.mono (Bel.drew ((Bel.refl w).alloc _)) (Nat.le_of_lt hgl)
       have hF2 := Below.trans hw0 hF
       have hO : Own w.heap.size 3 _ v (xs.map (Value.int .i64)) := ((ho.setCell (p := ⟨w.heap.size, 0, none⟩) (by simp) (.int .i64 sg2)).setCell (p := ⟨w.heap.size, 1, none⟩) (by simp) (.bool fr2)).mono (by simp)
       clear d0 d1 d2 d3 d4 y0 y1 y2 y3 y4 s0 s1 n0 n1 hF hw0 ho hb1 hB1 hS
       generalize (w'.setCell ⟨w.heap.size, 0, none⟩ (.int .i64 sg2)).setCell ⟨w.heap.size, 1, none⟩ (.bool fr2) = W at *
       generalize hq : w.heap.size = q at *
       have HQ := Lib.hid hq
       clear hq)
    | (have hC := hB1.bel ((Bel.refl w').alloc (.cells #[.int .i64 sg2, .bool fr2] 154))
       have hA := Box.new w' 154 [.int .i64 sg2, .bool fr2]
       have hF2 : Below g w (w'.alloc (.cells #[.int .i64 sg2, .bool fr2] 154)) := Below.mono ((Bel.trans ((Bel.refl w).drew) hb1).alloc _) (Nat.le_of_lt hgl)
       have hO : Own w.heap.size 3 _ v (xs.map (Value.int .i64)) := ho.alloc (.cells #[.int .i64 sg2, .bool fr2] 154)
       have hg2 : g < w'.heap.size := hB1.lt
       clear ho hb1 hB1 d0 d1 d2 d3 d4 y0 y1 y2 y3 y4
       generalize w'.alloc (.cells #[.int .i64 sg2, .bool fr2] 154) = W at *
       generalize w'.heap.size = q at *)
  all_goals
    clear c0 c1 c2 c3 c4 z0 z1 z2 z3 z4
    have s0 := hA.cell 0 _ rfl
    have s1 := hA.cell 1 _ rfl
    have gq : ¬ q = g := by omega
    have qg : ¬ g = q := by omega
    have d0 := hC.cell 0 _ rfl; have d1 := hC.cell 1 _ rfl; have d2 := hC.cell 2 _ rfl; have d3 := hC.cell 3 _ rfl; have d4 := hC.cell 4 _ rfl; have y0 := hC.frozen 0; have y1 := hC.frozen 1; have y2 := hC.frozen 2; have y3 := hC.frozen 3; have y4 := hC.frozen 4
    go_wp2_with fail
    go_region_held3 (fun w' => w'.cell? ⟨q, 0, none⟩ = some (.int .i64 sg2) ∧ w'.cell? ⟨q, 1, none⟩ = some (.bool fr2)) (go_keep) (fail)
  all_goals
    go_wp2_with fail
    go_ret
    refine ⟨_, rfl, ?_, ?_, ?_⟩
    · first | rw [HQ.out] | skip
      repeat (first | exact hO | refine Own.setCell ?_ (by exact hgl) _ | refine Own.drew ?_)
    · first | exact ((hC.set 2 _).set 3 _).set 1 _ | exact ((hC.set 3 _).set 2 _).set 1 _ | exact ((hC.set 2 _).set 1 _).set 3 _ | exact ((hC.set 1 _).set 2 _).set 3 _ | exact ((hC.set 3 _).set 1 _).set 2 _ | exact ((hC.set 1 _).set 3 _).set 2 _
    · repeat (first | exact hF2 | refine below_set ?_ _ _ | refine Below.drew ?_)
end Go.Proofs.YtbddfefcgfenfaaDoor

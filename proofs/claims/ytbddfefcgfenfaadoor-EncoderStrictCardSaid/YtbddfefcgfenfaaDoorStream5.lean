/-
  Package stream: Feed.
-/
import Derived.Test.YtbddfefcgfenfaaDoorStream4
namespace Go.Proofs.YtbddfefcgfenfaaDoor
open Go.RowKit
set_option maxRecDepth 1000000

theorem check_to (n : Int) (r : ByteArray) (sg : Int) (fr st : Bool) (k : Int) (hk : M.checkM ⟨n, r.data.toList, sg, fr, st⟩ = k) (w : World) : Calls Tryd.prog 86 #[.agg #[.int .i64 n, .string r, .int .i64 sg, .bool fr, .bool st]] w fun e w' => e = .returned (.int .i64 k) ∧ Bel w w' := check_any n r sg fr st k hk w
set_option maxHeartbeats 4000000 in
theorem feed_any (n : Int) (r : ByteArray) (sg : Int) (fr st : Bool) (b : ByteArray) (last : Bool) (xs : List Int) (d2 : M.St) (k : Int) (hf : M.feedE ⟨n, r.data.toList, sg, fr, st⟩ b.data.toList last = (xs, d2, k)) (w : World) :
    Calls Tryd.prog 85 #[.agg #[.int .i64 n, .string r, .int .i64 sg, .bool fr, .bool st], .string b, .bool last] w fun e w' => ∃ v, e = .returned (.tuple #[v, stV d2, .int .i64 k]) ∧ Own w.heap.size 3 w' v (xs.map (Value.int .i64)) ∧ Bel w w' := by
  obtain ⟨q, hq⟩ : ∃ q, M.checkM ⟨n, r.data.toList, sg, fr, st⟩ = q := ⟨_, rfl⟩
  have HQ := Lib.hid hq
  have hR0 : Box ((w.alloc (.cells #[.int .i64 n, .string r, .int .i64 sg, .bool fr, .bool st] 94)).alloc (.cells #[.int .i64 0, .string ⟨#[]⟩, .int .i64 0, .bool false, .bool false] 94)) (w.heap.size + 1) 94 [.int .i64 0, .string ⟨#[]⟩, .int .i64 0, .bool false, .bool false] := by have := Box.new (w.alloc (.cells #[.int .i64 n, .string r, .int .i64 sg, .bool fr, .bool st] 94)) 94 [.int .i64 0, .string ⟨#[]⟩, .int .i64 0, .bool false, .bool false]; simpa using this
  have hS0 : Box ((w.alloc (.cells #[.int .i64 n, .string r, .int .i64 sg, .bool fr, .bool st] 94)).alloc (.cells #[.int .i64 0, .string ⟨#[]⟩, .int .i64 0, .bool false, .bool false] 94)) w.heap.size 94 [.int .i64 n, .string r, .int .i64 sg, .bool fr, .bool st] := (Box.new w _ _).bel ((Bel.refl _).alloc _)
  have hb0 : Bel w ((w.alloc (.cells #[.int .i64 n, .string r, .int .i64 sg, .bool fr, .bool st] 94)).alloc (.cells #[.int .i64 0, .string ⟨#[]⟩, .int .i64 0, .bool false, .bool false] 94)) := (by repeat (first | exact Bel.refl _ | refine Bel.drewN ?_ _ | refine Bel.drew ?_ | refine Bel.alloc ?_ _ | refine Bel.trans ?_ (by assumption) | refine Bel.setCell ?_ (by simp; omega) _))
  by_cases h0 : q = 0
  · subst h0
    have hr := (M.check_right _).1 hq
    by_cases hb : 3000 < b.size
    · have e : (([] : List Int), (⟨0, [], 0, false, false⟩ : M.St), (2 : Int)) = (xs, d2, k) := by rw [← hf, M.feedE, if_pos hq, if_pos (by rw [← Lib.size_eq]; exact hb)]
      injection e with e1 e2
      injection e2 with e2 e3
      subst e1
      subst e2
      subst e3
      clear hf hr hq
      go_enter Tryd.func85, Tryd.ntmps85
      go_wp2_with (first | (go_at_call 86; refine (check_to n r sg fr st 0 HQ.out _).mono ?_; rintro e w' ⟨rfl, hb1⟩; have hR1 := hR0.bel hb1; have f0 := hR1.cell 0 _ rfl; have f1 := hR1.cell 1 _ rfl; have f2 := hR1.cell 2 _ rfl; have f3 := hR1.cell 3 _ rfl; have f4 := hR1.cell 4 _ rfl; have y0 := hR1.frozen 0; have y1 := hR1.frozen 1; have y2 := hR1.frozen 2; have y3 := hR1.frozen 3; have y4 := hR1.frozen 4))
      have hF := ((((hR1.set 0 (.int .i64 0)).set 1 (.string ⟨#[]⟩)).set 2 (.int .i64 0)).set 3 (.bool false)).set 4 (.bool false)
      have u0 := hF.cell 0 _ rfl
      have u1 := hF.cell 1 _ rfl
      have u2 := hF.cell 2 _ rfl
      have u3 := hF.cell 3 _ rfl
      have u4 := hF.cell 4 _ rfl
      refine bodyPost_ret (v := .tuple #[.slice none 0 0, .agg #[.int .i64 0, .string ⟨#[]⟩, .int .i64 0, .bool false, .bool false], .int .i64 2]) (by simp [results, Tryd.results85, go_sem, u0, u1, u2, u3, u4]) rfl ?_
      have hbw := hb0.trans hb1
      exact ⟨_, rfl, Own.nil _ _ _, ((((hbw.setCell (p := ⟨w.heap.size + 1, 0, none⟩) (by simp) _).setCell (p := ⟨w.heap.size + 1, 1, none⟩) (by simp) _).setCell (p := ⟨w.heap.size + 1, 2, none⟩) (by simp) _).setCell (p := ⟨w.heap.size + 1, 3, none⟩) (by simp) _).setCell (p := ⟨w.heap.size + 1, 4, none⟩) (by simp) _⟩
    · obtain ⟨⟨ys, d3⟩, hw⟩ : ∃ q, M.rawM ⟨n, r.data.toList, sg, fr, st⟩ b.data.toList last = q := ⟨_, rfl⟩
      have e : (ys, d3, (0 : Int)) = (xs, d2, k) := by rw [← hf, M.feedE, if_pos hq, if_neg (by rw [← Lib.size_eq]; exact hb), hw]
      injection e with e1 e2
      injection e2 with e2 e3
      subst e1
      subst e2
      subst e3
      obtain ⟨n2, l2, sg2, fr2, st2⟩ := d3
      have HW := Lib.hid hw
      have HR := Lib.hid hr
      have hb3 : b.size ≤ 3000 := by omega
      clear hf hr hq hw hb
      go_enter Tryd.func85, Tryd.ntmps85
      go_wp2_with (first | (go_at_call 86; refine (check_to n r sg fr st 0 HQ.out _).mono ?_; rintro e w' ⟨rfl, hb1⟩; have hS1 := hS0.bel hb1; have f0 := hS1.cell 0 _ rfl; have f1 := hS1.cell 1 _ rfl; have f2 := hS1.cell 2 _ rfl; have f3 := hS1.cell 3 _ rfl; have f4 := hS1.cell 4 _ rfl) | (go_at_call 117; refine (rawS_any n r sg fr st b last HR.out hb3 _ _ HW.out _).mono ?_; rintro e w' ⟨v2, rfl, o2, hb2⟩; rw [stV]; have hR2 := Box.bel (Box.bel hR0 hb1) hb2; have r0 := hR2.cell 0 _ rfl; have r1 := hR2.cell 1 _ rfl; have r2 := hR2.cell 2 _ rfl; have r3 := hR2.cell 3 _ rfl; have r4 := hR2.cell 4 _ rfl; have y0 := hR2.frozen 0; have y1 := hR2.frozen 1; have y2 := hR2.frozen 2; have y3 := hR2.frozen 3; have y4 := hR2.frozen 4; have hlt2 := hR2.lt))
      have hN := Box.new w' 94 [.int .i64 n2, .string ⟨l2.toArray⟩, .int .i64 sg2, .bool fr2, .bool st2]
      have hR3 := hR2.bel ((Bel.refl w').alloc (.cells #[.int .i64 n2, .string ⟨l2.toArray⟩, .int .i64 sg2, .bool fr2, .bool st2] 94))
      have hbW : Bel w (w'.alloc (.cells #[.int .i64 n2, .string ⟨l2.toArray⟩, .int .i64 sg2, .bool fr2, .bool st2] 94)) := ((hb0.trans hb1).trans hb2).alloc _
      have hOW := (o2.mono (show w.heap.size + 1 + 1 ≤ _ from (hR0.bel hb1).lt)).alloc (.cells #[.int .i64 n2, .string ⟨l2.toArray⟩, .int .i64 sg2, .bool fr2, .bool st2] 94)
      have hs2 : w.heap.size + 2 ≤ w'.heap.size := hlt2
      clear f0 f1 f2 f3 f4 r0 r1 r2 r3 r4 y0 y1 y2 y3 y4 hS1 hR2 hlt2 hR0 hS0 hb0 o2 hb1 hb2
      generalize w'.alloc (.cells #[.int .i64 n2, .string ⟨l2.toArray⟩, .int .i64 sg2, .bool fr2, .bool st2] 94) = W at *
      generalize w'.heap.size = q at *
      have gq : ¬ q = w.heap.size + 1 := by omega
      have qg : ¬ w.heap.size + 1 = q := by omega
      have d0 := hN.cell 0 _ rfl
      have d1 := hN.cell 1 _ rfl
      have d2 := hN.cell 2 _ rfl
      have d3 := hN.cell 3 _ rfl
      have d4 := hN.cell 4 _ rfl
      have r0 := hR3.cell 0 _ rfl
      have r1 := hR3.cell 1 _ rfl
      have r2 := hR3.cell 2 _ rfl
      have r3 := hR3.cell 3 _ rfl
      have r4 := hR3.cell 4 _ rfl
      have q0 := hR3.frozen 0
      have q1 := hR3.frozen 1
      have q2 := hR3.frozen 2
      have q3 := hR3.frozen 3
      have q4 := hR3.frozen 4
      clear hs2 hb3
      go_region
      go_wp2_with fail
      have hF := Box.drew (((((hR3.set 0 (.int .i64 n2)).set 1 (.string ⟨l2.toArray⟩)).set 2 (.int .i64 sg2)).set 3 (.bool fr2)).set 4 (.bool st2))
      have u0 := hF.cell 0 _ rfl
      have u1 := hF.cell 1 _ rfl
      have u2 := hF.cell 2 _ rfl
      have u3 := hF.cell 3 _ rfl
      have u4 := hF.cell 4 _ rfl
      refine bodyPost_ret (v := .tuple #[v2, stV ⟨n2, l2, sg2, fr2, st2⟩, .int .i64 0]) (by simp [results, Tryd.results85, go_sem, stV, u0, u1, u2, u3, u4]) rfl ?_
      exact ⟨_, rfl, ((((((hOW.setCell (p := ⟨w.heap.size + 1, 0, none⟩) (by simp) _).setCell (p := ⟨w.heap.size + 1, 1, none⟩) (by simp) _).setCell (p := ⟨w.heap.size + 1, 2, none⟩) (by simp) _).setCell (p := ⟨w.heap.size + 1, 3, none⟩) (by simp) _).setCell (p := ⟨w.heap.size + 1, 4, none⟩) (by simp) _).drew.mono (by first | omega | (simp; omega) | simp)), ((((((hbW.setCell (p := ⟨w.heap.size + 1, 0, none⟩) (by simp) _).setCell (p := ⟨w.heap.size + 1, 1, none⟩) (by simp) _).setCell (p := ⟨w.heap.size + 1, 2, none⟩) (by simp) _).setCell (p := ⟨w.heap.size + 1, 3, none⟩) (by simp) _).setCell (p := ⟨w.heap.size + 1, 4, none⟩) (by simp) _).drew)⟩
  · have e : (([] : List Int), (⟨0, [], 0, false, false⟩ : M.St), q) = (xs, d2, k) := by rw [← hf, M.feedE, hq, if_neg h0]
    injection e with e1 e2
    injection e2 with e2 e3
    subst e1
    subst e2
    subst e3
    have e4 : (q == 0) = false := by simpa using h0
    have e5 : (q != 0) = true := by simpa using h0
    clear hf hq h0
    go_enter Tryd.func85, Tryd.ntmps85
    go_wp2_with (first | (go_at_call 86; refine (check_to n r sg fr st _ HQ.out _).mono ?_; rintro e w' ⟨rfl, hb1⟩; have hR1 := hR0.bel hb1; have f0 := hR1.cell 0 _ rfl; have f1 := hR1.cell 1 _ rfl; have f2 := hR1.cell 2 _ rfl; have f3 := hR1.cell 3 _ rfl; have f4 := hR1.cell 4 _ rfl; have y0 := hR1.frozen 0; have y1 := hR1.frozen 1; have y2 := hR1.frozen 2; have y3 := hR1.frozen 3; have y4 := hR1.frozen 4))
    have hF := ((((hR1.set 0 (.int .i64 0)).set 1 (.string ⟨#[]⟩)).set 2 (.int .i64 0)).set 3 (.bool false)).set 4 (.bool false)
    have u0 := hF.cell 0 _ rfl
    have u1 := hF.cell 1 _ rfl
    have u2 := hF.cell 2 _ rfl
    have u3 := hF.cell 3 _ rfl
    have u4 := hF.cell 4 _ rfl
    refine bodyPost_ret (v := .tuple #[.slice none 0 0, .agg #[.int .i64 0, .string ⟨#[]⟩, .int .i64 0, .bool false, .bool false], .int .i64 q]) (by simp [results, Tryd.results85, go_sem, u0, u1, u2, u3, u4]) rfl ?_
    have hbw := hb0.trans hb1
    exact ⟨_, rfl, Own.nil _ _ _, ((((hbw.setCell (p := ⟨w.heap.size + 1, 0, none⟩) (by simp) _).setCell (p := ⟨w.heap.size + 1, 1, none⟩) (by simp) _).setCell (p := ⟨w.heap.size + 1, 2, none⟩) (by simp) _).setCell (p := ⟨w.heap.size + 1, 3, none⟩) (by simp) _).setCell (p := ⟨w.heap.size + 1, 4, none⟩) (by simp) _⟩
end Go.Proofs.YtbddfefcgfenfaaDoor

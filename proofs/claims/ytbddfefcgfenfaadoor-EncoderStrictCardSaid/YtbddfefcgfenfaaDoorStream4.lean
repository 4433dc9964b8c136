/-
  Package stream: Check, Raw, Feed.
-/
import Derived.Test.YtbddfefcgfenfaaDoorStream3
namespace Go.Proofs.YtbddfefcgfenfaaDoor
open Go.RowKit
set_option maxRecDepth 1000000

theorem rest_to (n : Int) (s : ByteArray) (b : Bool) (hb : M.restOk n s.data.toList = b) (h : M.isEnc n = true) (hs : s.size ≤ 3) (w : World) : Calls Tryd.prog 118 #[.int .i64 n, .string s] w fun e w' => e = .returned (.bool b) ∧ Bel w w' := by
  have := rest_any n h s hs w; rw [hb] at this; exact this
set_option maxHeartbeats 4000000 in
theorem check_any (n : Int) (r : ByteArray) (sg : Int) (fr st : Bool) (k : Int) (hk : M.checkM ⟨n, r.data.toList, sg, fr, st⟩ = k) (w : World) : Calls Tryd.prog 86 #[.agg #[.int .i64 n, .string r, .int .i64 sg, .bool fr, .bool st]] w fun e w' => e = .returned (.int .i64 k) ∧ Bel w w' := by
  cases h : M.isEnc n with
  | false =>
    have HI := Lib.hid h
    obtain rfl : k = 6 := by rw [← hk, M.checkM, if_pos h]
    clear h hk
    go_enter Tryd.func86, Tryd.ntmps86
    go_wp2_with (first | (go_at_call 56; refine (isEnc_any _ _).mono ?_; rintro e w' ⟨rfl, rfl⟩; rw [HI.out]))
    go_ret
    exact ⟨rfl, (by repeat (first | exact Bel.refl _ | refine Bel.drewN ?_ _ | refine Bel.drew ?_ | refine Bel.alloc ?_ _ | refine Bel.trans ?_ (by assumption) | refine Bel.setCell ?_ (by simp; omega) _))⟩
  | true =>
    have HI := Lib.hid h
    by_cases hl : 3 < r.size
    · obtain rfl : k = 1 := by rw [← hk, M.checkM, if_neg (by rw [h]; decide), if_pos (.inl (by rw [← Lib.size_eq]; exact hl))]
      clear h hk
      go_enter Tryd.func86, Tryd.ntmps86
      go_wp2_with (first | (go_at_call 56; refine (isEnc_any _ _).mono ?_; rintro e w' ⟨rfl, rfl⟩; rw [HI.out]))
      go_ret
      exact ⟨rfl, (by repeat (first | exact Bel.refl _ | refine Bel.drewN ?_ _ | refine Bel.drew ?_ | refine Bel.alloc ?_ _ | refine Bel.trans ?_ (by assumption) | refine Bel.setCell ?_ (by simp; omega) _))⟩
    · have HS := Lib.hid (show r.size ≤ 3 by omega)
      cases hr : M.restOk n r.data.toList with
      | false =>
        have HR := Lib.hid hr
        obtain rfl : k = 1 := by rw [← hk, M.checkM, if_neg (by rw [h]; decide), if_pos (.inr hr)]
        clear h hk hr
        go_enter Tryd.func86, Tryd.ntmps86
        go_wp2_with (first | (go_at_call 56; refine (isEnc_any _ _).mono ?_; rintro e w' ⟨rfl, rfl⟩; rw [HI.out]) | (go_at_call 118; refine (rest_to _ _ _ HR.out HI.out HS.out _).mono ?_; rintro e w' ⟨rfl, hb1⟩; have hBx := Box.bel (Box.new w _ _) hb1; have c0 := hBx.cell 0 _ rfl; have c1 := hBx.cell 1 _ rfl; have c2 := hBx.cell 2 _ rfl; have c3 := hBx.cell 3 _ rfl; have c4 := hBx.cell 4 _ rfl))
        go_ret
        exact ⟨rfl, (by repeat (first | exact Bel.refl _ | refine Bel.drewN ?_ _ | refine Bel.drew ?_ | refine Bel.alloc ?_ _ | refine Bel.trans ?_ (by assumption) | refine Bel.setCell ?_ (by simp; omega) _))⟩
      | true =>
        have HR := Lib.hid hr
        have hk2 : k = if M.stateOk ⟨n, r.data.toList, sg, fr, st⟩ = false then 4 else 0 := by
          rw [← hk, M.checkM, if_neg (by rw [h]; decide), if_neg]
          rw [← Lib.size_eq]
          rintro (h9 | h9)
          · exact hl h9
          · rw [hr] at h9; cases h9
        have hs2 : M.stateOk ⟨n, r.data.toList, sg, fr, st⟩ = !(decide (sg < 0 ∨ 2 < sg) || (decide (n ≠ 6) && (decide (sg ≠ 0) || fr)) || (decide (n ≠ 7) && st)) := rfl
        clear h hk hr
        have key : ∀ b, M.stateOk ⟨n, r.data.toList, sg, fr, st⟩ = b → k = if b = false then 4 else 0 := fun b hb => by rw [hk2, hb]
        have KEY := Lib.hid key
        clear key hk2
        by_cases g1 : sg < 0
        · obtain rfl : k = 4 := KEY.out false (by rw [hs2]; simp [g1])
          clear hs2
          go_enter Tryd.func86, Tryd.ntmps86
          go_wp2_with (first | (go_at_call 56; refine (isEnc_any _ _).mono ?_; rintro e w' ⟨rfl, rfl⟩; rw [HI.out]) | (go_at_call 118; refine (rest_to _ _ _ HR.out HI.out HS.out _).mono ?_; rintro e w' ⟨rfl, hb1⟩; have hBx := Box.bel (Box.new w _ _) hb1; have c0 := hBx.cell 0 _ rfl; have c1 := hBx.cell 1 _ rfl; have c2 := hBx.cell 2 _ rfl; have c3 := hBx.cell 3 _ rfl; have c4 := hBx.cell 4 _ rfl))
          go_ret
          exact ⟨rfl, (by repeat (first | exact Bel.refl _ | refine Bel.drewN ?_ _ | refine Bel.drew ?_ | refine Bel.alloc ?_ _ | refine Bel.trans ?_ (by assumption) | refine Bel.setCell ?_ (by simp; omega) _))⟩
        · by_cases g2 : 2 < sg
          · obtain rfl : k = 4 := KEY.out false (by rw [hs2]; simp [g2])
            clear hs2
            go_enter Tryd.func86, Tryd.ntmps86
            go_wp2_with (first | (go_at_call 56; refine (isEnc_any _ _).mono ?_; rintro e w' ⟨rfl, rfl⟩; rw [HI.out]) | (go_at_call 118; refine (rest_to _ _ _ HR.out HI.out HS.out _).mono ?_; rintro e w' ⟨rfl, hb1⟩; have hBx := Box.bel (Box.new w _ _) hb1; have c0 := hBx.cell 0 _ rfl; have c1 := hBx.cell 1 _ rfl; have c2 := hBx.cell 2 _ rfl; have c3 := hBx.cell 3 _ rfl; have c4 := hBx.cell 4 _ rfl))
            go_ret
            exact ⟨rfl, (by repeat (first | exact Bel.refl _ | refine Bel.drewN ?_ _ | refine Bel.drew ?_ | refine Bel.alloc ?_ _ | refine Bel.trans ?_ (by assumption) | refine Bel.setCell ?_ (by simp; omega) _))⟩
          · by_cases g3 : n = 6
            · subst g3
              cases st
              · obtain rfl : k = 0 := KEY.out true (by rw [hs2]; simp; omega)
                clear hs2
                go_enter Tryd.func86, Tryd.ntmps86
                go_wp2_with (first | (go_at_call 56; refine (isEnc_any _ _).mono ?_; rintro e w' ⟨rfl, rfl⟩; rw [HI.out]) | (go_at_call 118; refine (rest_to _ _ _ HR.out HI.out HS.out _).mono ?_; rintro e w' ⟨rfl, hb1⟩; have hBx := Box.bel (Box.new w _ _) hb1; have c0 := hBx.cell 0 _ rfl; have c1 := hBx.cell 1 _ rfl; have c2 := hBx.cell 2 _ rfl; have c3 := hBx.cell 3 _ rfl; have c4 := hBx.cell 4 _ rfl))
                go_ret
                exact ⟨rfl, (by repeat (first | exact Bel.refl _ | refine Bel.drewN ?_ _ | refine Bel.drew ?_ | refine Bel.alloc ?_ _ | refine Bel.trans ?_ (by assumption) | refine Bel.setCell ?_ (by simp; omega) _))⟩
              · obtain rfl : k = 4 := KEY.out false (by rw [hs2]; simp)
                clear hs2
                go_enter Tryd.func86, Tryd.ntmps86
                go_wp2_with (first | (go_at_call 56; refine (isEnc_any _ _).mono ?_; rintro e w' ⟨rfl, rfl⟩; rw [HI.out]) | (go_at_call 118; refine (rest_to _ _ _ HR.out HI.out HS.out _).mono ?_; rintro e w' ⟨rfl, hb1⟩; have hBx := Box.bel (Box.new w _ _) hb1; have c0 := hBx.cell 0 _ rfl; have c1 := hBx.cell 1 _ rfl; have c2 := hBx.cell 2 _ rfl; have c3 := hBx.cell 3 _ rfl; have c4 := hBx.cell 4 _ rfl))
                go_ret
                exact ⟨rfl, (by repeat (first | exact Bel.refl _ | refine Bel.drewN ?_ _ | refine Bel.drew ?_ | refine Bel.alloc ?_ _ | refine Bel.trans ?_ (by assumption) | refine Bel.setCell ?_ (by simp; omega) _))⟩
            · have e6 : (n != 6) = true := by simpa using g3
              cases fr
              · by_cases g4 : sg = 0
                · subst g4
                  by_cases g5 : n = 7
                  · subst g5
                    obtain rfl : k = 0 := KEY.out true (by rw [hs2]; simp)
                    clear hs2
                    go_enter Tryd.func86, Tryd.ntmps86
                    go_wp2_with (first | (go_at_call 56; refine (isEnc_any _ _).mono ?_; rintro e w' ⟨rfl, rfl⟩; rw [HI.out]) | (go_at_call 118; refine (rest_to _ _ _ HR.out HI.out HS.out _).mono ?_; rintro e w' ⟨rfl, hb1⟩; have hBx := Box.bel (Box.new w _ _) hb1; have c0 := hBx.cell 0 _ rfl; have c1 := hBx.cell 1 _ rfl; have c2 := hBx.cell 2 _ rfl; have c3 := hBx.cell 3 _ rfl; have c4 := hBx.cell 4 _ rfl))
                    go_ret
                    exact ⟨rfl, (by repeat (first | exact Bel.refl _ | refine Bel.drewN ?_ _ | refine Bel.drew ?_ | refine Bel.alloc ?_ _ | refine Bel.trans ?_ (by assumption) | refine Bel.setCell ?_ (by simp; omega) _))⟩
                  · have e7 : (n != 7) = true := by simpa using g5
                    cases st
                    · obtain rfl : k = 0 := KEY.out true (by rw [hs2]; simp)
                      clear hs2 g3 g5
                      go_enter Tryd.func86, Tryd.ntmps86
                      go_wp2_with (first | (go_at_call 56; refine (isEnc_any _ _).mono ?_; rintro e w' ⟨rfl, rfl⟩; rw [HI.out]) | (go_at_call 118; refine (rest_to _ _ _ HR.out HI.out HS.out _).mono ?_; rintro e w' ⟨rfl, hb1⟩; have hBx := Box.bel (Box.new w _ _) hb1; have c0 := hBx.cell 0 _ rfl; have c1 := hBx.cell 1 _ rfl; have c2 := hBx.cell 2 _ rfl; have c3 := hBx.cell 3 _ rfl; have c4 := hBx.cell 4 _ rfl))
                      go_ret
                      exact ⟨rfl, (by repeat (first | exact Bel.refl _ | refine Bel.drewN ?_ _ | refine Bel.drew ?_ | refine Bel.alloc ?_ _ | refine Bel.trans ?_ (by assumption) | refine Bel.setCell ?_ (by simp; omega) _))⟩
                    · obtain rfl : k = 4 := KEY.out false (by rw [hs2]; simp [g5])
                      clear hs2 g3 g5
                      go_enter Tryd.func86, Tryd.ntmps86
                      go_wp2_with (first | (go_at_call 56; refine (isEnc_any _ _).mono ?_; rintro e w' ⟨rfl, rfl⟩; rw [HI.out]) | (go_at_call 118; refine (rest_to _ _ _ HR.out HI.out HS.out _).mono ?_; rintro e w' ⟨rfl, hb1⟩; have hBx := Box.bel (Box.new w _ _) hb1; have c0 := hBx.cell 0 _ rfl; have c1 := hBx.cell 1 _ rfl; have c2 := hBx.cell 2 _ rfl; have c3 := hBx.cell 3 _ rfl; have c4 := hBx.cell 4 _ rfl))
                      go_ret
                      exact ⟨rfl, (by repeat (first | exact Bel.refl _ | refine Bel.drewN ?_ _ | refine Bel.drew ?_ | refine Bel.alloc ?_ _ | refine Bel.trans ?_ (by assumption) | refine Bel.setCell ?_ (by simp; omega) _))⟩
                · have e4 : (sg != 0) = true := by simpa using g4
                  obtain rfl : k = 4 := KEY.out false (by rw [hs2]; simp [g3, g4])
                  clear hs2 g3 g4
                  go_enter Tryd.func86, Tryd.ntmps86
                  go_wp2_with (first | (go_at_call 56; refine (isEnc_any _ _).mono ?_; rintro e w' ⟨rfl, rfl⟩; rw [HI.out]) | (go_at_call 118; refine (rest_to _ _ _ HR.out HI.out HS.out _).mono ?_; rintro e w' ⟨rfl, hb1⟩; have hBx := Box.bel (Box.new w _ _) hb1; have c0 := hBx.cell 0 _ rfl; have c1 := hBx.cell 1 _ rfl; have c2 := hBx.cell 2 _ rfl; have c3 := hBx.cell 3 _ rfl; have c4 := hBx.cell 4 _ rfl))
                  go_ret
                  exact ⟨rfl, (by repeat (first | exact Bel.refl _ | refine Bel.drewN ?_ _ | refine Bel.drew ?_ | refine Bel.alloc ?_ _ | refine Bel.trans ?_ (by assumption) | refine Bel.setCell ?_ (by simp; omega) _))⟩
              · obtain rfl : k = 4 := KEY.out false (by rw [hs2]; simp [g3])
                by_cases g4 : sg = 0
                · subst g4
                  clear hs2 g3
                  go_enter Tryd.func86, Tryd.ntmps86
                  go_wp2_with (first | (go_at_call 56; refine (isEnc_any _ _).mono ?_; rintro e w' ⟨rfl, rfl⟩; rw [HI.out]) | (go_at_call 118; refine (rest_to _ _ _ HR.out HI.out HS.out _).mono ?_; rintro e w' ⟨rfl, hb1⟩; have hBx := Box.bel (Box.new w _ _) hb1; have c0 := hBx.cell 0 _ rfl; have c1 := hBx.cell 1 _ rfl; have c2 := hBx.cell 2 _ rfl; have c3 := hBx.cell 3 _ rfl; have c4 := hBx.cell 4 _ rfl))
                  go_ret
                  exact ⟨rfl, (by repeat (first | exact Bel.refl _ | refine Bel.drewN ?_ _ | refine Bel.drew ?_ | refine Bel.alloc ?_ _ | refine Bel.trans ?_ (by assumption) | refine Bel.setCell ?_ (by simp; omega) _))⟩
                · have e4 : (sg != 0) = true := by simpa using g4
                  clear hs2 g3 g4
                  go_enter Tryd.func86, Tryd.ntmps86
                  go_wp2_with (first | (go_at_call 56; refine (isEnc_any _ _).mono ?_; rintro e w' ⟨rfl, rfl⟩; rw [HI.out]) | (go_at_call 118; refine (rest_to _ _ _ HR.out HI.out HS.out _).mono ?_; rintro e w' ⟨rfl, hb1⟩; have hBx := Box.bel (Box.new w _ _) hb1; have c0 := hBx.cell 0 _ rfl; have c1 := hBx.cell 1 _ rfl; have c2 := hBx.cell 2 _ rfl; have c3 := hBx.cell 3 _ rfl; have c4 := hBx.cell 4 _ rfl))
                  go_ret
                  exact ⟨rfl, (by repeat (first | exact Bel.refl _ | refine Bel.drewN ?_ _ | refine Bel.drew ?_ | refine Bel.alloc ?_ _ | refine Bel.trans ?_ (by assumption) | refine Bel.setCell ?_ (by simp; omega) _))⟩
theorem stC_set (d : M.St) : stC d = [.int .i64 d.enc, .string ⟨d.rest.toArray⟩, .int .i64 d.signs, .bool d.fresh, .bool d.stopped] := rfl
theorem Box.drew {w : World} {g : Nat} {t : TypeId} {cs : List Value} (h : Box w g t cs) : Box w.drew g t cs := h
set_option maxHeartbeats 4000000 in
theorem rawS_any (n : Int) (r : ByteArray) (sg : Int) (fr st : Bool) (b : ByteArray) (last : Bool) (hr : M.Right ⟨n, r.data.toList, sg, fr, st⟩) (hb : b.size ≤ 3000) (xs : List Int) (d2 : M.St) (hd : M.rawM ⟨n, r.data.toList, sg, fr, st⟩ b.data.toList last = (xs, d2)) (w : World) :
    Calls Tryd.prog 117 #[.agg #[.int .i64 n, .string r, .int .i64 sg, .bool fr, .bool st], .string b, .bool last] w fun e w' => ∃ v, e = .returned (.tuple #[v, stV d2]) ∧ Own w.heap.size 3 w' v (xs.map (Value.int .i64)) ∧ Bel w w' := by
  have hlen := hr.len
  have henc := hr.enc
  simp only at hlen henc
  have h3 : r.size ≤ 3 := by rw [Lib.size_eq]; exact hlen
  obtain ⟨⟨ys, d1⟩, ht⟩ : ∃ q, M.tellM ⟨n, r.data.toList, sg, fr, st⟩ b.data.toList = q := ⟨_, rfl⟩
  have hr1 : M.Right d1 := by have := M.right_tell _ b.data.toList hr; rw [ht] at this; exact this
  have he1 : d1.enc = n := by have := M.tell_enc ⟨n, r.data.toList, sg, fr, st⟩ b.data.toList; rw [ht] at this; exact this
  have hle1 := hr1.len
  have HT := Lib.hid (show ∀ (g : Nat) (w : World), Box w g 149 [.int .i64 n, .string r, .int .i64 sg, .bool fr, .bool st] → Calls Tryd.prog 151 #[.pointer (some ⟨g, 0, none⟩), .string b] w fun e w' => ∃ v, e = .returned v ∧ Own w.heap.size 3 w' v (ys.map (Value.int .i64)) ∧ Box w' g 149 (stC d1) ∧ Below g w w' from fun g w hB => by
    have := tell_any g ⟨n, r.data.toList, sg, fr, st⟩ henc b (by simp only; rw [← Lib.size_eq]; omega) w (by rw [stC]; simp only [str_eq]; exact hB)
    rw [ht] at this
    exact this)
  cases last
  · have e : (ys, d1) = (xs, d2) := by rw [← hd, M.rawM, if_neg (by decide), ht]
    injection e with e1 e2
    subst e1
    subst e2
    clear ht hd hr
    go_enter Tryd.func117, Tryd.ntmps117
    obtain ⟨n1, l1, sg1, fr1, st1⟩ := d1
    obtain rfl : n = n1 := he1.symm
    go_wp2_with (first | (go_at_call 151; refine (HT.out (w.heap.size + 1 + 1) _ (by have := Box.new ((w.alloc (.cells #[.int .i64 n, .string r, .int .i64 sg, .bool fr, .bool st] 94)).alloc (.cells #[.int .i64 0, .string ⟨#[]⟩, .int .i64 0, .bool false, .bool false] 94)) 149 [.int .i64 n, .string r, .int .i64 sg, .bool fr, .bool st]; simpa using this)).mono ?_; rintro e w1 ⟨v1, rfl, o1, hB1, hb1⟩))
    have hBel0 : Bel w (((w.alloc (.cells #[.int .i64 n, .string r, .int .i64 sg, .bool fr, .bool st] 94)).alloc (.cells #[.int .i64 0, .string ⟨#[]⟩, .int .i64 0, .bool false, .bool false] 94)).alloc (.cells #[.int .i64 n, .string r, .int .i64 sg, .bool fr, .bool st] 149)) := (by repeat (first | exact Bel.refl _ | refine Bel.drewN ?_ _ | refine Bel.drew ?_ | refine Bel.alloc ?_ _ | refine Bel.trans ?_ (by assumption) | refine Bel.setCell ?_ (by simp; omega) _))
    have hR0 : Box ((w.alloc (.cells #[.int .i64 n, .string r, .int .i64 sg, .bool fr, .bool st] 94)).alloc (.cells #[.int .i64 0, .string ⟨#[]⟩, .int .i64 0, .bool false, .bool false] 94)) (w.heap.size + 1) 94 [.int .i64 0, .string ⟨#[]⟩, .int .i64 0, .bool false, .bool false] := by have := Box.new (w.alloc (.cells #[.int .i64 n, .string r, .int .i64 sg, .bool fr, .bool st] 94)) 94 [.int .i64 0, .string ⟨#[]⟩, .int .i64 0, .bool false, .bool false]; simpa using this
    have hR1 := Box.upto (B := w.heap.size + 1 + 1) (hR0.bel ((Bel.refl _).alloc (.cells #[.int .i64 n, .string r, .int .i64 sg, .bool fr, .bool st] 149))) hb1 (by omega)
    have d0 := hB1.cell 0 _ rfl
    have d1 := hB1.cell 1 _ rfl
    have d2 := hB1.cell 2 _ rfl
    have d3 := hB1.cell 3 _ rfl
    have d4 := hB1.cell 4 _ rfl
    have r0 := hR1.cell 0 _ rfl
    have r1 := hR1.cell 1 _ rfl
    have r2 := hR1.cell 2 _ rfl
    have r3 := hR1.cell 3 _ rfl
    have r4 := hR1.cell 4 _ rfl
    have q0 := hR1.frozen 0
    have q1 := hR1.frozen 1
    have q2 := hR1.frozen 2
    have q3 := hR1.frozen 3
    have q4 := hR1.frozen 4
    go_region
    go_wp2_with fail
    have hF := Box.drew (((((hR1.set 0 (.int .i64 n)).set 1 (.string ⟨l1.toArray⟩)).set 2 (.int .i64 sg1)).set 3 (.bool fr1)).set 4 (.bool st1))
    have f0 := hF.cell 0 _ rfl
    have f1 := hF.cell 1 _ rfl
    have f2 := hF.cell 2 _ rfl
    have f3 := hF.cell 3 _ rfl
    have f4 := hF.cell 4 _ rfl
    refine bodyPost_ret (v := .tuple #[v1, stV ⟨n, l1, sg1, fr1, st1⟩]) (by simp [results, Tryd.results117, go_sem, stV, f0, f1, f2, f3, f4]) rfl ?_
    exact ⟨_, rfl, ((((((o1.setCell (p := ⟨w.heap.size + 1, 0, none⟩) (by simp) _).setCell (p := ⟨w.heap.size + 1, 1, none⟩) (by simp) _).setCell (p := ⟨w.heap.size + 1, 2, none⟩) (by simp) _).setCell (p := ⟨w.heap.size + 1, 3, none⟩) (by simp) _).setCell (p := ⟨w.heap.size + 1, 4, none⟩) (by simp) _).drew.mono (by first | omega | (simp; omega) | simp)), (((((((Bel.upto hBel0 hb1 (by omega)).setCell (p := ⟨w.heap.size + 1, 0, none⟩) (by simp) _).setCell (p := ⟨w.heap.size + 1, 1, none⟩) (by simp) _).setCell (p := ⟨w.heap.size + 1, 2, none⟩) (by simp) _).setCell (p := ⟨w.heap.size + 1, 3, none⟩) (by simp) _).setCell (p := ⟨w.heap.size + 1, 4, none⟩) (by simp) _).drew)⟩
  · have e : (ys ++ M.endM d1, M.opn n) = (xs, d2) := by rw [← hd, M.rawM, if_pos rfl, ht]
    injection e with e1 e2
    subst e1
    subst e2
    have hyl : ys.length ≤ 3003 := by
      have := M.tell_len ⟨n, r.data.toList, sg, fr, st⟩ henc b.data.toList
      rw [ht] at this
      have hb9 : b.data.toList.length = b.size := (Lib.size_eq b).symm
      simp only at this
      omega
    have hzl := M.end_len d1
    clear ht hd hr
    go_enter Tryd.func117, Tryd.ntmps117
    obtain ⟨n1, l1, sg1, fr1, st1⟩ := d1
    obtain rfl : n = n1 := he1.symm
    obtain ⟨zs, hz⟩ : ∃ zs, M.endM ⟨n, l1, sg1, fr1, st1⟩ = zs := ⟨_, rfl⟩
    rw [hz] at hzl ⊢
    have HZ := Lib.hid hz
    have hzl2 : zs.length ≤ 4 := by simp only at hle1 hzl; omega
    have HL1 := Lib.hid (show l1.length ≤ 3 from hle1)
    clear hz hzl hle1
    go_wp2_with (first | (go_at_call 151; refine (HT.out (w.heap.size + 1 + 1) _ (by have := Box.new ((w.alloc (.cells #[.int .i64 n, .string r, .int .i64 sg, .bool fr, .bool st] 94)).alloc (.cells #[.int .i64 0, .string ⟨#[]⟩, .int .i64 0, .bool false, .bool false] 94)) 149 [.int .i64 n, .string r, .int .i64 sg, .bool fr, .bool st]; simpa using this)).mono ?_; rintro e w1 ⟨v1, rfl, o1, hB1, hb1⟩) | (go_at_call 152; refine (end_any (w.heap.size + 1 + 1) n l1 sg1 fr1 st1 zs HZ.out HL1.out w1 hB1).mono ?_; rintro e w2 ⟨v2, rfl, o2, hB2, hb2, hO2⟩; have o1b := Own.mono (o1.only hO2 (by simp)) (show w.heap.size + 1 + 1 + 1 ≤ _ by simp); have hs1 : w.heap.size + 1 + 1 + 1 ≤ w1.heap.size := hB1.lt; have hs2 : w.heap.size + 1 + 1 + 1 ≤ w2.heap.size := hB2.lt) | (at_builtin; refine wpList_appInts (.tmp 17) (.tmp 19) 36 rfl elemInt (by decide) (w.heap.size + 1 + 1 + 1) _ _ o1b _ zs o2.ints (by simp; omega) hs2 rfl rfl rfl ?_; intro v3 w3 o3 b3))
    have hBel0 : Bel w (((w.alloc (.cells #[.int .i64 n, .string r, .int .i64 sg, .bool fr, .bool st] 94)).alloc (.cells #[.int .i64 0, .string ⟨#[]⟩, .int .i64 0, .bool false, .bool false] 94)).alloc (.cells #[.int .i64 n, .string r, .int .i64 sg, .bool fr, .bool st] 149)) := (by repeat (first | exact Bel.refl _ | refine Bel.drewN ?_ _ | refine Bel.drew ?_ | refine Bel.alloc ?_ _ | refine Bel.trans ?_ (by assumption) | refine Bel.setCell ?_ (by simp; omega) _))
    have hR0 : Box ((w.alloc (.cells #[.int .i64 n, .string r, .int .i64 sg, .bool fr, .bool st] 94)).alloc (.cells #[.int .i64 0, .string ⟨#[]⟩, .int .i64 0, .bool false, .bool false] 94)) (w.heap.size + 1) 94 [.int .i64 0, .string ⟨#[]⟩, .int .i64 0, .bool false, .bool false] := by have := Box.new (w.alloc (.cells #[.int .i64 n, .string r, .int .i64 sg, .bool fr, .bool st] 94)) 94 [.int .i64 0, .string ⟨#[]⟩, .int .i64 0, .bool false, .bool false]; simpa using this
    have hR1 := Box.upto (B := w.heap.size + 1 + 1) (hR0.bel ((Bel.refl _).alloc (.cells #[.int .i64 n, .string r, .int .i64 sg, .bool fr, .bool st] 149))) hb1 (by omega)
    have hR2 := Box.upto (B := w.heap.size + 1 + 1) hR1 hb2 (by omega)
    have hR3 := Box.upto (B := w.heap.size + 1 + 1 + 1) hR2 b3 (by omega)
    have hB3 := Box.upto (B := w.heap.size + 1 + 1 + 1) hB2 b3 (by omega)
    have d0 := hB3.cell 0 _ rfl
    have d1 := hB3.cell 1 _ rfl
    have d2 := hB3.cell 2 _ rfl
    have d3 := hB3.cell 3 _ rfl
    have d4 := hB3.cell 4 _ rfl
    have r0 := hR3.cell 0 _ rfl
    have r1 := hR3.cell 1 _ rfl
    have r2 := hR3.cell 2 _ rfl
    have r3 := hR3.cell 3 _ rfl
    have r4 := hR3.cell 4 _ rfl
    have q0 := hR3.frozen 0
    have q1 := hR3.frozen 1
    have q2 := hR3.frozen 2
    have q3 := hR3.frozen 3
    have q4 := hR3.frozen 4
    go_region
    go_wp2_with fail
    have hF := Box.drew (((((hR3.set 0 (.int .i64 n)).set 1 (.string ⟨#[]⟩)).set 2 (.int .i64 0)).set 3 (.bool false)).set 4 (.bool false))
    have f0 := hF.cell 0 _ rfl
    have f1 := hF.cell 1 _ rfl
    have f2 := hF.cell 2 _ rfl
    have f3 := hF.cell 3 _ rfl
    have f4 := hF.cell 4 _ rfl
    refine bodyPost_ret (v := .tuple #[v3, stV (M.opn n)]) (by simp [results, Tryd.results117, go_sem, stV, M.opn, f0, f1, f2, f3, f4]) rfl ?_
    rw [List.map_append]
    exact ⟨_, rfl, ((((((o3.setCell (p := ⟨w.heap.size + 1, 0, none⟩) (by simp) _).setCell (p := ⟨w.heap.size + 1, 1, none⟩) (by simp) _).setCell (p := ⟨w.heap.size + 1, 2, none⟩) (by simp) _).setCell (p := ⟨w.heap.size + 1, 3, none⟩) (by simp) _).setCell (p := ⟨w.heap.size + 1, 4, none⟩) (by simp) _).drew.mono (by first | omega | (simp; omega) | simp)), (((((((Bel.upto (Bel.upto (Bel.upto hBel0 hb1 (by omega)) hb2 (by omega)) b3 (by omega)).setCell (p := ⟨w.heap.size + 1, 0, none⟩) (by simp) _).setCell (p := ⟨w.heap.size + 1, 1, none⟩) (by simp) _).setCell (p := ⟨w.heap.size + 1, 2, none⟩) (by simp) _).setCell (p := ⟨w.heap.size + 1, 3, none⟩) (by simp) _).setCell (p := ⟨w.heap.size + 1, 4, none⟩) (by simp) _).drew)⟩
end Go.Proofs.YtbddfefcgfenfaaDoor

/-
  Texts of the proof, laid together: Stream4, RInts, RUtf8, RUtf16, RKana, RKana3, Single2, RSingle. No condition of its own.
-/
import Derived.Test.YteingkjdemlhgaaGreatDoorG7
import Derived.Test.YteingkjdemlhgaaGreatDoorG2
import Derived.Test.YteingkjdemlhgaaGreatDoorG1
import Derived.Test.YteingkjdemlhgaaGreatDoorG6
import Derived.Test.YteingkjdemlhgaaGreatDoorG4
import Derived.RegionTactic
import Derived.BigRegion

/-
  Package stream: Check, Raw, Feed.
-/
namespace Go.Proofs.YteingkjdemlhgaaGreatDoor
open Go.RowKit
set_option maxRecDepth 1000000
theorem rest_to (n : Int) (s : ByteArray) (b : Bool) (hb : M.restOk n s.data.toList = b) (h : M.isEnc n = true) (hs : s.size ≤ 3) (w : World) : Calls Tryz.prog 73 #[.int .i64 n, .string s] w fun e w' => e = .returned (.bool b) ∧ Bel w w' := by
  have := rest_any n h s hs w; rw [hb] at this; exact this
set_option maxHeartbeats 4000000 in
theorem check_any (n : Int) (r : ByteArray) (sg : Int) (fr st : Bool) (k : Int) (hk : M.checkM ⟨n, r.data.toList, sg, fr, st⟩ = k) (w : World) : Calls Tryz.prog 42 #[.agg #[.int .i64 n, .string r, .int .i64 sg, .bool fr, .bool st]] w fun e w' => e = .returned (.int .i64 k) ∧ Bel w w' := by
  cases h : M.isEnc n with
  | false =>
    have HI := Lib.hid h
    obtain rfl : k = 6 := by rw [← hk, M.checkM, if_pos h]
    clear h hk
    go_enter Tryz.func42, Tryz.ntmps42
    go_wp2_with (first | (go_at_call 54; refine (isEnc_any _ _).mono ?_; rintro e w' ⟨rfl, rfl⟩; rw [HI.out]))
    go_ret
    exact ⟨rfl, (by repeat (first | exact Bel.refl _ | refine Bel.drewN ?_ _ | refine Bel.drew ?_ | refine Bel.alloc ?_ _ | refine Bel.trans ?_ (by assumption) | refine Bel.setCell ?_ (by simp; omega) _))⟩
  | true =>
    have HI := Lib.hid h
    by_cases hl : 3 < r.size
    · obtain rfl : k = 1 := by rw [← hk, M.checkM, if_neg (by rw [h]; decide), if_pos (.inl (by rw [← Lib.size_eq]; exact hl))]
      clear h hk
      go_enter Tryz.func42, Tryz.ntmps42
      go_wp2_with (first | (go_at_call 54; refine (isEnc_any _ _).mono ?_; rintro e w' ⟨rfl, rfl⟩; rw [HI.out]))
      go_ret
      exact ⟨rfl, (by repeat (first | exact Bel.refl _ | refine Bel.drewN ?_ _ | refine Bel.drew ?_ | refine Bel.alloc ?_ _ | refine Bel.trans ?_ (by assumption) | refine Bel.setCell ?_ (by simp; omega) _))⟩
    · have HS := Lib.hid (show r.size ≤ 3 by omega)
      cases hr : M.restOk n r.data.toList with
      | false =>
        have HR := Lib.hid hr
        obtain rfl : k = 1 := by rw [← hk, M.checkM, if_neg (by rw [h]; decide), if_pos (.inr hr)]
        clear h hk hr
        go_enter Tryz.func42, Tryz.ntmps42
        go_wp2_with (first | (go_at_call 54; refine (isEnc_any _ _).mono ?_; rintro e w' ⟨rfl, rfl⟩; rw [HI.out]) | (go_at_call 73; refine (rest_to _ _ _ HR.out HI.out HS.out _).mono ?_; rintro e w' ⟨rfl, hb1⟩; have hBx := Box.bel (Box.new w _ _) hb1; have c0 := hBx.cell 0 _ rfl; have c1 := hBx.cell 1 _ rfl; have c2 := hBx.cell 2 _ rfl; have c3 := hBx.cell 3 _ rfl; have c4 := hBx.cell 4 _ rfl))
        go_ret
        exact ⟨rfl, (by repeat (first | exact Bel.refl _ | refine Bel.drewN ?_ _ | refine Bel.drew ?_ | refine Bel.alloc ?_ _ | refine Bel.trans ?_ (by assumption) | refine Bel.setCell ?_ (by simp; omega) _))⟩
      | true =>
        have HR := Lib.hid hr
        have hk2 : k = if M.stateOk ⟨n, r.data.toList, sg, fr, st⟩ = false then 4 else 0 := by
          rw [← hk, M.checkM, if_neg (by rw [h]; decide), if_neg]
          rw [← Lib.size_eq]
          rintro (h9 | h9)
          · exact hl h9
          · rw [hr] at h9; cases h9
        have hs2 : M.stateOk ⟨n, r.data.toList, sg, fr, st⟩ = !(decide (sg < 0 ∨ 2 < sg) || (decide (n ≠ 6) && (decide (sg ≠ 0) || fr)) || (decide (n ≠ 7) && st)) := rfl
        clear h hk hr
        have key : ∀ b, M.stateOk ⟨n, r.data.toList, sg, fr, st⟩ = b → k = if b = false then 4 else 0 := fun b hb => by rw [hk2, hb]
        have KEY := Lib.hid key
        clear key hk2
        by_cases g1 : sg < 0
        · obtain rfl : k = 4 := KEY.out false (by rw [hs2]; simp [g1])
          clear hs2
          go_enter Tryz.func42, Tryz.ntmps42
          go_wp2_with (first | (go_at_call 54; refine (isEnc_any _ _).mono ?_; rintro e w' ⟨rfl, rfl⟩; rw [HI.out]) | (go_at_call 73; refine (rest_to _ _ _ HR.out HI.out HS.out _).mono ?_; rintro e w' ⟨rfl, hb1⟩; have hBx := Box.bel (Box.new w _ _) hb1; have c0 := hBx.cell 0 _ rfl; have c1 := hBx.cell 1 _ rfl; have c2 := hBx.cell 2 _ rfl; have c3 := hBx.cell 3 _ rfl; have c4 := hBx.cell 4 _ rfl))
          go_ret
          exact ⟨rfl, (by repeat (first | exact Bel.refl _ | refine Bel.drewN ?_ _ | refine Bel.drew ?_ | refine Bel.alloc ?_ _ | refine Bel.trans ?_ (by assumption) | refine Bel.setCell ?_ (by simp; omega) _))⟩
        · by_cases g2 : 2 < sg
          · obtain rfl : k = 4 := KEY.out false (by rw [hs2]; simp [g2])
            clear hs2
            go_enter Tryz.func42, Tryz.ntmps42
            go_wp2_with (first | (go_at_call 54; refine (isEnc_any _ _).mono ?_; rintro e w' ⟨rfl, rfl⟩; rw [HI.out]) | (go_at_call 73; refine (rest_to _ _ _ HR.out HI.out HS.out _).mono ?_; rintro e w' ⟨rfl, hb1⟩; have hBx := Box.bel (Box.new w _ _) hb1; have c0 := hBx.cell 0 _ rfl; have c1 := hBx.cell 1 _ rfl; have c2 := hBx.cell 2 _ rfl; have c3 := hBx.cell 3 _ rfl; have c4 := hBx.cell 4 _ rfl))
            go_ret
            exact ⟨rfl, (by repeat (first | exact Bel.refl _ | refine Bel.drewN ?_ _ | refine Bel.drew ?_ | refine Bel.alloc ?_ _ | refine Bel.trans ?_ (by assumption) | refine Bel.setCell ?_ (by simp; omega) _))⟩
          · by_cases g3 : n = 6
            · subst g3
              cases st
              · obtain rfl : k = 0 := KEY.out true (by rw [hs2]; simp; omega)
                clear hs2
                go_enter Tryz.func42, Tryz.ntmps42
                go_wp2_with (first | (go_at_call 54; refine (isEnc_any _ _).mono ?_; rintro e w' ⟨rfl, rfl⟩; rw [HI.out]) | (go_at_call 73; refine (rest_to _ _ _ HR.out HI.out HS.out _).mono ?_; rintro e w' ⟨rfl, hb1⟩; have hBx := Box.bel (Box.new w _ _) hb1; have c0 := hBx.cell 0 _ rfl; have c1 := hBx.cell 1 _ rfl; have c2 := hBx.cell 2 _ rfl; have c3 := hBx.cell 3 _ rfl; have c4 := hBx.cell 4 _ rfl))
                go_ret
                exact ⟨rfl, (by repeat (first | exact Bel.refl _ | refine Bel.drewN ?_ _ | refine Bel.drew ?_ | refine Bel.alloc ?_ _ | refine Bel.trans ?_ (by assumption) | refine Bel.setCell ?_ (by simp; omega) _))⟩
              · obtain rfl : k = 4 := KEY.out false (by rw [hs2]; simp)
                clear hs2
                go_enter Tryz.func42, Tryz.ntmps42
                go_wp2_with (first | (go_at_call 54; refine (isEnc_any _ _).mono ?_; rintro e w' ⟨rfl, rfl⟩; rw [HI.out]) | (go_at_call 73; refine (rest_to _ _ _ HR.out HI.out HS.out _).mono ?_; rintro e w' ⟨rfl, hb1⟩; have hBx := Box.bel (Box.new w _ _) hb1; have c0 := hBx.cell 0 _ rfl; have c1 := hBx.cell 1 _ rfl; have c2 := hBx.cell 2 _ rfl; have c3 := hBx.cell 3 _ rfl; have c4 := hBx.cell 4 _ rfl))
                go_ret
                exact ⟨rfl, (by repeat (first | exact Bel.refl _ | refine Bel.drewN ?_ _ | refine Bel.drew ?_ | refine Bel.alloc ?_ _ | refine Bel.trans ?_ (by assumption) | refine Bel.setCell ?_ (by simp; omega) _))⟩
            · have e6 : (n != 6) = true := by simpa using g3
              cases fr
              · by_cases g4 : sg = 0
                · subst g4
                  by_cases g5 : n = 7
                  · subst g5
                    obtain rfl : k = 0 := KEY.out true (by rw [hs2]; simp)
                    clear hs2
                    go_enter Tryz.func42, Tryz.ntmps42
                    go_wp2_with (first | (go_at_call 54; refine (isEnc_any _ _).mono ?_; rintro e w' ⟨rfl, rfl⟩; rw [HI.out]) | (go_at_call 73; refine (rest_to _ _ _ HR.out HI.out HS.out _).mono ?_; rintro e w' ⟨rfl, hb1⟩; have hBx := Box.bel (Box.new w _ _) hb1; have c0 := hBx.cell 0 _ rfl; have c1 := hBx.cell 1 _ rfl; have c2 := hBx.cell 2 _ rfl; have c3 := hBx.cell 3 _ rfl; have c4 := hBx.cell 4 _ rfl))
                    go_ret
                    exact ⟨rfl, (by repeat (first | exact Bel.refl _ | refine Bel.drewN ?_ _ | refine Bel.drew ?_ | refine Bel.alloc ?_ _ | refine Bel.trans ?_ (by assumption) | refine Bel.setCell ?_ (by simp; omega) _))⟩
                  · have e7 : (n != 7) = true := by simpa using g5
                    cases st
                    · obtain rfl : k = 0 := KEY.out true (by rw [hs2]; simp)
                      clear hs2 g3 g5
                      go_enter Tryz.func42, Tryz.ntmps42
                      go_wp2_with (first | (go_at_call 54; refine (isEnc_any _ _).mono ?_; rintro e w' ⟨rfl, rfl⟩; rw [HI.out]) | (go_at_call 73; refine (rest_to _ _ _ HR.out HI.out HS.out _).mono ?_; rintro e w' ⟨rfl, hb1⟩; have hBx := Box.bel (Box.new w _ _) hb1; have c0 := hBx.cell 0 _ rfl; have c1 := hBx.cell 1 _ rfl; have c2 := hBx.cell 2 _ rfl; have c3 := hBx.cell 3 _ rfl; have c4 := hBx.cell 4 _ rfl))
                      go_ret
                      exact ⟨rfl, (by repeat (first | exact Bel.refl _ | refine Bel.drewN ?_ _ | refine Bel.drew ?_ | refine Bel.alloc ?_ _ | refine Bel.trans ?_ (by assumption) | refine Bel.setCell ?_ (by simp; omega) _))⟩
                    · obtain rfl : k = 4 := KEY.out false (by rw [hs2]; simp [g5])
                      clear hs2 g3 g5
                      go_enter Tryz.func42, Tryz.ntmps42
                      go_wp2_with (first | (go_at_call 54; refine (isEnc_any _ _).mono ?_; rintro e w' ⟨rfl, rfl⟩; rw [HI.out]) | (go_at_call 73; refine (rest_to _ _ _ HR.out HI.out HS.out _).mono ?_; rintro e w' ⟨rfl, hb1⟩; have hBx := Box.bel (Box.new w _ _) hb1; have c0 := hBx.cell 0 _ rfl; have c1 := hBx.cell 1 _ rfl; have c2 := hBx.cell 2 _ rfl; have c3 := hBx.cell 3 _ rfl; have c4 := hBx.cell 4 _ rfl))
                      go_ret
                      exact ⟨rfl, (by repeat (first | exact Bel.refl _ | refine Bel.drewN ?_ _ | refine Bel.drew ?_ | refine Bel.alloc ?_ _ | refine Bel.trans ?_ (by assumption) | refine Bel.setCell ?_ (by simp; omega) _))⟩
                · have e4 : (sg != 0) = true := by simpa using g4
                  obtain rfl : k = 4 := KEY.out false (by rw [hs2]; simp [g3, g4])
                  clear hs2 g3 g4
                  go_enter Tryz.func42, Tryz.ntmps42
                  go_wp2_with (first | (go_at_call 54; refine (isEnc_any _ _).mono ?_; rintro e w' ⟨rfl, rfl⟩; rw [HI.out]) | (go_at_call 73; refine (rest_to _ _ _ HR.out HI.out HS.out _).mono ?_; rintro e w' ⟨rfl, hb1⟩; have hBx := Box.bel (Box.new w _ _) hb1; have c0 := hBx.cell 0 _ rfl; have c1 := hBx.cell 1 _ rfl; have c2 := hBx.cell 2 _ rfl; have c3 := hBx.cell 3 _ rfl; have c4 := hBx.cell 4 _ rfl))
                  go_ret
                  exact ⟨rfl, (by repeat (first | exact Bel.refl _ | refine Bel.drewN ?_ _ | refine Bel.drew ?_ | refine Bel.alloc ?_ _ | refine Bel.trans ?_ (by assumption) | refine Bel.setCell ?_ (by simp; omega) _))⟩
              · obtain rfl : k = 4 := KEY.out false (by rw [hs2]; simp [g3])
                by_cases g4 : sg = 0
                · subst g4
                  clear hs2 g3
                  go_enter Tryz.func42, Tryz.ntmps42
                  go_wp2_with (first | (go_at_call 54; refine (isEnc_any _ _).mono ?_; rintro e w' ⟨rfl, rfl⟩; rw [HI.out]) | (go_at_call 73; refine (rest_to _ _ _ HR.out HI.out HS.out _).mono ?_; rintro e w' ⟨rfl, hb1⟩; have hBx := Box.bel (Box.new w _ _) hb1; have c0 := hBx.cell 0 _ rfl; have c1 := hBx.cell 1 _ rfl; have c2 := hBx.cell 2 _ rfl; have c3 := hBx.cell 3 _ rfl; have c4 := hBx.cell 4 _ rfl))
                  go_ret
                  exact ⟨rfl, (by repeat (first | exact Bel.refl _ | refine Bel.drewN ?_ _ | refine Bel.drew ?_ | refine Bel.alloc ?_ _ | refine Bel.trans ?_ (by assumption) | refine Bel.setCell ?_ (by simp; omega) _))⟩
                · have e4 : (sg != 0) = true := by simpa using g4
                  clear hs2 g3 g4
                  go_enter Tryz.func42, Tryz.ntmps42
                  go_wp2_with (first | (go_at_call 54; refine (isEnc_any _ _).mono ?_; rintro e w' ⟨rfl, rfl⟩; rw [HI.out]) | (go_at_call 73; refine (rest_to _ _ _ HR.out HI.out HS.out _).mono ?_; rintro e w' ⟨rfl, hb1⟩; have hBx := Box.bel (Box.new w _ _) hb1; have c0 := hBx.cell 0 _ rfl; have c1 := hBx.cell 1 _ rfl; have c2 := hBx.cell 2 _ rfl; have c3 := hBx.cell 3 _ rfl; have c4 := hBx.cell 4 _ rfl))
                  go_ret
                  exact ⟨rfl, (by repeat (first | exact Bel.refl _ | refine Bel.drewN ?_ _ | refine Bel.drew ?_ | refine Bel.alloc ?_ _ | refine Bel.trans ?_ (by assumption) | refine Bel.setCell ?_ (by simp; omega) _))⟩
theorem Box.drew {w : World} {g : Nat} {t : TypeId} {cs : List Value} (h : Box w g t cs) : Box w.drew g t cs := h
set_option maxHeartbeats 4000000 in
theorem rawS_any (n : Int) (r : ByteArray) (sg : Int) (fr st : Bool) (b : ByteArray) (last : Bool) (hr : M.Right ⟨n, r.data.toList, sg, fr, st⟩) (hb : b.size ≤ 9000) (xs : List Int) (d2 : M.St) (hd : M.rawM ⟨n, r.data.toList, sg, fr, st⟩ b.data.toList last = (xs, d2)) (w : World) :
    Calls Tryz.prog 61 #[.agg #[.int .i64 n, .string r, .int .i64 sg, .bool fr, .bool st], .string b, .bool last] w fun e w' => ∃ v, e = .returned (.tuple #[v, stV d2]) ∧ Own w.heap.size 3 w' v (xs.map (Value.int .i64)) ∧ Bel w w' := by
  have hlen := hr.len
  have henc := hr.enc
  simp only at hlen henc
  have h3 : r.size ≤ 3 := by rw [Lib.size_eq]; exact hlen
  obtain ⟨⟨ys, d1⟩, ht⟩ : ∃ q, M.tellM ⟨n, r.data.toList, sg, fr, st⟩ b.data.toList = q := ⟨_, rfl⟩
  have hr1 : M.Right d1 := by have := M.right_tell _ b.data.toList hr; rw [ht] at this; exact this
  have he1 : d1.enc = n := by have := M.tell_enc ⟨n, r.data.toList, sg, fr, st⟩ b.data.toList; rw [ht] at this; exact this
  have hle1 := hr1.len
  have HT := Lib.hid (show ∀ (g : Nat) (w : World), Box w g 130 [.int .i64 n, .string r, .int .i64 sg, .bool fr, .bool st] → Calls Tryz.prog 96 #[.pointer (some ⟨g, 0, none⟩), .string b] w fun e w' => ∃ v, e = .returned v ∧ Own w.heap.size 3 w' v (ys.map (Value.int .i64)) ∧ Box w' g 130 (stC d1) ∧ Below g w w' from fun g w hB => by
    have := tell_any g ⟨n, r.data.toList, sg, fr, st⟩ henc b (by simp only; rw [← Lib.size_eq]; omega) w (by rw [stC]; simp only [str_eq]; exact hB)
    rw [ht] at this
    exact this)
  cases last
  · have e : (ys, d1) = (xs, d2) := by rw [← hd, M.rawM, if_neg (by decide), ht]
    injection e with e1 e2
    subst e1
    subst e2
    clear ht hd hr
    go_enter Tryz.func61, Tryz.ntmps61
    obtain ⟨n1, l1, sg1, fr1, st1⟩ := d1
    obtain rfl : n = n1 := he1.symm
    go_wp2_with (first | (go_at_call 96; refine (HT.out (w.heap.size + 1 + 1) _ (by have := Box.new ((w.alloc (.cells #[.int .i64 n, .string r, .int .i64 sg, .bool fr, .bool st] 23)).alloc (.cells #[.int .i64 0, .string ⟨#[]⟩, .int .i64 0, .bool false, .bool false] 23)) 130 [.int .i64 n, .string r, .int .i64 sg, .bool fr, .bool st]; simpa using this)).mono ?_; rintro e w1 ⟨v1, rfl, o1, hB1, hb1⟩))
    have hBel0 : Bel w (((w.alloc (.cells #[.int .i64 n, .string r, .int .i64 sg, .bool fr, .bool st] 23)).alloc (.cells #[.int .i64 0, .string ⟨#[]⟩, .int .i64 0, .bool false, .bool false] 23)).alloc (.cells #[.int .i64 n, .string r, .int .i64 sg, .bool fr, .bool st] 130)) := (by repeat (first | exact Bel.refl _ | refine Bel.drewN ?_ _ | refine Bel.drew ?_ | refine Bel.alloc ?_ _ | refine Bel.trans ?_ (by assumption) | refine Bel.setCell ?_ (by simp; omega) _))
    have hR0 : Box ((w.alloc (.cells #[.int .i64 n, .string r, .int .i64 sg, .bool fr, .bool st] 23)).alloc (.cells #[.int .i64 0, .string ⟨#[]⟩, .int .i64 0, .bool false, .bool false] 23)) (w.heap.size + 1) 23 [.int .i64 0, .string ⟨#[]⟩, .int .i64 0, .bool false, .bool false] := by have := Box.new (w.alloc (.cells #[.int .i64 n, .string r, .int .i64 sg, .bool fr, .bool st] 23)) 23 [.int .i64 0, .string ⟨#[]⟩, .int .i64 0, .bool false, .bool false]; simpa using this
    have hR1 := Box.upto (B := w.heap.size + 1 + 1) (hR0.bel ((Bel.refl _).alloc (.cells #[.int .i64 n, .string r, .int .i64 sg, .bool fr, .bool st] 130))) hb1 (by omega)
    have d0 := hB1.cell 0 _ rfl
    have d1 := hB1.cell 1 _ rfl
    have d2 := hB1.cell 2 _ rfl
    have d3 := hB1.cell 3 _ rfl
    have d4 := hB1.cell 4 _ rfl
    have r0 := hR1.cell 0 _ rfl
    have r1 := hR1.cell 1 _ rfl
    have r2 := hR1.cell 2 _ rfl
    have r3 := hR1.cell 3 _ rfl
    have r4 := hR1.cell 4 _ rfl
    have q0 := hR1.frozen 0
    have q1 := hR1.frozen 1
    have q2 := hR1.frozen 2
    have q3 := hR1.frozen 3
    have q4 := hR1.frozen 4
    go_region
    go_wp2_with fail
    have hF := Box.drew (((((hR1.set 0 (.int .i64 n)).set 1 (.string ⟨l1.toArray⟩)).set 2 (.int .i64 sg1)).set 3 (.bool fr1)).set 4 (.bool st1))
    have f0 := hF.cell 0 _ rfl
    have f1 := hF.cell 1 _ rfl
    have f2 := hF.cell 2 _ rfl
    have f3 := hF.cell 3 _ rfl
    have f4 := hF.cell 4 _ rfl
    refine bodyPost_ret (v := .tuple #[v1, stV ⟨n, l1, sg1, fr1, st1⟩]) (by simp [results, Tryz.results61, go_sem, stV, f0, f1, f2, f3, f4]) rfl ?_
    exact ⟨_, rfl, ((((((o1.setCell (p := ⟨w.heap.size + 1, 0, none⟩) (by simp) _).setCell (p := ⟨w.heap.size + 1, 1, none⟩) (by simp) _).setCell (p := ⟨w.heap.size + 1, 2, none⟩) (by simp) _).setCell (p := ⟨w.heap.size + 1, 3, none⟩) (by simp) _).setCell (p := ⟨w.heap.size + 1, 4, none⟩) (by simp) _).drew.mono (by first | omega | (simp; omega) | simp)), (((((((Bel.upto hBel0 hb1 (by omega)).setCell (p := ⟨w.heap.size + 1, 0, none⟩) (by simp) _).setCell (p := ⟨w.heap.size + 1, 1, none⟩) (by simp) _).setCell (p := ⟨w.heap.size + 1, 2, none⟩) (by simp) _).setCell (p := ⟨w.heap.size + 1, 3, none⟩) (by simp) _).setCell (p := ⟨w.heap.size + 1, 4, none⟩) (by simp) _).drew)⟩
  · have e : (ys ++ M.endM d1, M.opn n) = (xs, d2) := by rw [← hd, M.rawM, if_pos rfl, ht]
    injection e with e1 e2
    subst e1
    subst e2
    have hyl : ys.length ≤ 9003 := by
      have := M.tell_len ⟨n, r.data.toList, sg, fr, st⟩ henc b.data.toList
      rw [ht] at this
      have hb9 : b.data.toList.length = b.size := (Lib.size_eq b).symm
      simp only at this
      omega
    have hzl := M.end_len d1
    clear ht hd hr
    go_enter Tryz.func61, Tryz.ntmps61
    obtain ⟨n1, l1, sg1, fr1, st1⟩ := d1
    obtain rfl : n = n1 := he1.symm
    obtain ⟨zs, hz⟩ : ∃ zs, M.endM ⟨n, l1, sg1, fr1, st1⟩ = zs := ⟨_, rfl⟩
    rw [hz] at hzl ⊢
    have HZ := Lib.hid hz
    have hzl2 : zs.length ≤ 4 := by simp only at hle1 hzl; omega
    have HL1 := Lib.hid (show l1.length ≤ 3 from hle1)
    clear hz hzl hle1
    go_wp2_with (first | (go_at_call 96; refine (HT.out (w.heap.size + 1 + 1) _ (by have := Box.new ((w.alloc (.cells #[.int .i64 n, .string r, .int .i64 sg, .bool fr, .bool st] 23)).alloc (.cells #[.int .i64 0, .string ⟨#[]⟩, .int .i64 0, .bool false, .bool false] 23)) 130 [.int .i64 n, .string r, .int .i64 sg, .bool fr, .bool st]; simpa using this)).mono ?_; rintro e w1 ⟨v1, rfl, o1, hB1, hb1⟩) | (go_at_call 97; refine (end_any (w.heap.size + 1 + 1) n l1 sg1 fr1 st1 zs HZ.out HL1.out w1 hB1).mono ?_; rintro e w2 ⟨v2, rfl, o2, hB2, hb2, hO2⟩; have o1b := Own.mono (o1.only hO2 (by simp)) (show w.heap.size + 1 + 1 + 1 ≤ _ by simp); have hs1 : w.heap.size + 1 + 1 + 1 ≤ w1.heap.size := hB1.lt; have hs2 : w.heap.size + 1 + 1 + 1 ≤ w2.heap.size := hB2.lt) | (at_builtin; refine wpList_appInts (.tmp 17) (.tmp 19) 30 rfl elemInt (by decide) (w.heap.size + 1 + 1 + 1) _ _ o1b _ zs o2.ints (by simp; omega) hs2 rfl rfl rfl ?_; intro v3 w3 o3 b3))
    have hBel0 : Bel w (((w.alloc (.cells #[.int .i64 n, .string r, .int .i64 sg, .bool fr, .bool st] 23)).alloc (.cells #[.int .i64 0, .string ⟨#[]⟩, .int .i64 0, .bool false, .bool false] 23)).alloc (.cells #[.int .i64 n, .string r, .int .i64 sg, .bool fr, .bool st] 130)) := (by repeat (first | exact Bel.refl _ | refine Bel.drewN ?_ _ | refine Bel.drew ?_ | refine Bel.alloc ?_ _ | refine Bel.trans ?_ (by assumption) | refine Bel.setCell ?_ (by simp; omega) _))
    have hR0 : Box ((w.alloc (.cells #[.int .i64 n, .string r, .int .i64 sg, .bool fr, .bool st] 23)).alloc (.cells #[.int .i64 0, .string ⟨#[]⟩, .int .i64 0, .bool false, .bool false] 23)) (w.heap.size + 1) 23 [.int .i64 0, .string ⟨#[]⟩, .int .i64 0, .bool false, .bool false] := by have := Box.new (w.alloc (.cells #[.int .i64 n, .string r, .int .i64 sg, .bool fr, .bool st] 23)) 23 [.int .i64 0, .string ⟨#[]⟩, .int .i64 0, .bool false, .bool false]; simpa using this
    have hR1 := Box.upto (B := w.heap.size + 1 + 1) (hR0.bel ((Bel.refl _).alloc (.cells #[.int .i64 n, .string r, .int .i64 sg, .bool fr, .bool st] 130))) hb1 (by omega)
    have hR2 := Box.upto (B := w.heap.size + 1 + 1) hR1 hb2 (by omega)
    have hR3 := Box.upto (B := w.heap.size + 1 + 1 + 1) hR2 b3 (by omega)
    have hB3 := Box.upto (B := w.heap.size + 1 + 1 + 1) hB2 b3 (by omega)
    have d0 := hB3.cell 0 _ rfl
    have d1 := hB3.cell 1 _ rfl
    have d2 := hB3.cell 2 _ rfl
    have d3 := hB3.cell 3 _ rfl
    have d4 := hB3.cell 4 _ rfl
    have r0 := hR3.cell 0 _ rfl
    have r1 := hR3.cell 1 _ rfl
    have r2 := hR3.cell 2 _ rfl
    have r3 := hR3.cell 3 _ rfl
    have r4 := hR3.cell 4 _ rfl
    have q0 := hR3.frozen 0
    have q1 := hR3.frozen 1
    have q2 := hR3.frozen 2
    have q3 := hR3.frozen 3
    have q4 := hR3.frozen 4
    go_region
    go_wp2_with fail
    have hF := Box.drew (((((hR3.set 0 (.int .i64 n)).set 1 (.string ⟨#[]⟩)).set 2 (.int .i64 0)).set 3 (.bool false)).set 4 (.bool false))
    have f0 := hF.cell 0 _ rfl
    have f1 := hF.cell 1 _ rfl
    have f2 := hF.cell 2 _ rfl
    have f3 := hF.cell 3 _ rfl
    have f4 := hF.cell 4 _ rfl
    refine bodyPost_ret (v := .tuple #[v3, stV (M.opn n)]) (by simp [results, Tryz.results61, go_sem, stV, M.opn, f0, f1, f2, f3, f4]) rfl ?_
    rw [List.map_append]
    exact ⟨_, rfl, ((((((o3.setCell (p := ⟨w.heap.size + 1, 0, none⟩) (by simp) _).setCell (p := ⟨w.heap.size + 1, 1, none⟩) (by simp) _).setCell (p := ⟨w.heap.size + 1, 2, none⟩) (by simp) _).setCell (p := ⟨w.heap.size + 1, 3, none⟩) (by simp) _).setCell (p := ⟨w.heap.size + 1, 4, none⟩) (by simp) _).drew.mono (by first | omega | (simp; omega) | simp)), (((((((Bel.upto (Bel.upto (Bel.upto hBel0 hb1 (by omega)) hb2 (by omega)) b3 (by omega)).setCell (p := ⟨w.heap.size + 1, 0, none⟩) (by simp) _).setCell (p := ⟨w.heap.size + 1, 1, none⟩) (by simp) _).setCell (p := ⟨w.heap.size + 1, 2, none⟩) (by simp) _).setCell (p := ⟨w.heap.size + 1, 3, none⟩) (by simp) _).setCell (p := ⟨w.heap.size + 1, 4, none⟩) (by simp) _).drew)⟩
end Go.Proofs.YteingkjdemlhgaaGreatDoor

/-
  Are two lists of numbers the same? What the references' SameInts and the laws' intsAre answer.
-/
namespace Go.Proofs.YteingkjdemlhgaaGreatDoor
open Go.RowKit
set_option maxRecDepth 100000 in
theorem sameInts_any (v1 v2 : Value) (xs ys : List Int) (w : World) (h1 : IntSl w v1 xs) (h2 : IntSl w v2 ys) : Calls Tryz.prog 15 #[v1, v2] w fun e w' => e = .returned (.bool (xs == ys)) ∧ Bel w w' := by
  obtain ⟨a, ca, rfl, hc1, hc2, hn, hx⟩ := h1
  obtain ⟨b, cb, rfl, hc3, hc4, hn2, hy⟩ := h2
  unfold maxLen at hc2 hc4
  by_cases hl : xs.length = ys.length
  · have hl1 : xs.length ≤ ys.length := by omega
    have hl2 : ys.length ≤ xs.length := by omega
    have hlb : ((xs.length : Int) != (ys.length : Int)) = false := by rw [bne_eq_false_iff_eq]; omega
    have HL := Lib.hid hl
    clear hl
    go_enter Tryz.func15, Tryz.ntmps15
    go_wp2_with fail
    go_loopw [5] (fun i wr => ∃ k : Nat, k ≤ xs.length ∧ i = .int .i64 k ∧ Hid (∀ j, j < k → xs[j]? = ys[j]?) ∧ ∃ q, wr = w.drewN q) (fun i _ => xs.length - (intOf i).toNat)
    case atStart => exact ⟨0, by omega, rfl, Lib.hid (fun j hj => by omega), 0, rfl⟩
    case round =>
      obtain ⟨k, hk, rfl, HE, q, rfl⟩ := hrel
      by_cases hlt : k < xs.length
      · obtain ⟨m, hm⟩ : ∃ m, xs[k]? = some m := ⟨_, List.getElem?_eq_getElem hlt⟩
        obtain ⟨n, hn1⟩ : ∃ n, ys[k]? = some n := ⟨_, List.getElem?_eq_getElem (by omega)⟩
        cases a with
        | none => rw [hn rfl] at hlt; simp at hlt
        | some x =>
          cases b with
          | none => exfalso; have hl3 := hl1; rw [hn2 rfl, List.length_nil] at hl3; omega
          | some y =>
            have hcx := hx x rfl k m hm
            have hcy := hy y rfl k n hn1
            have i1 : (k : Int) < (xs.length : Int) := by omega
            have i2 : (k : Int) < (ys.length : Int) := by omega
            have i0 : (0 : Int) ≤ (k : Int) := by omega
            by_cases he : m = n
            · subst he
              have HF := Lib.hid (show ∀ j, j < k + 1 → xs[j]? = ys[j]? from fun j hj => by
                by_cases hjk : j < k
                · exact HE.out j hjk
                · obtain rfl : j = k := by omega
                  rw [hm, hn1])
              clear hx hy hn hn2 hm hn1
              go_wp2_with fail
              go_quiet (fail)
              go_wp2_with fail
              go_roundw
              case rel => exact ⟨k + 1, by omega, by go_num, HF, _, rfl⟩
              case measure => simp [intOf]; omega
            · have hne : (m != n) = true := by simpa using he
              have HF := Lib.hid (show (xs == ys) = false by
                rw [beq_eq_false_iff_ne]; rintro rfl
                rw [hm] at hn1; injection hn1 with hn1; exact he hn1)
              clear hx hy hn hn2 hm hn1 he
              go_wp2_with fail
              go_quiet (fail)
              go_wp2_with fail
              go_ret
              rw [HF.out]
              exact ⟨rfl, (by repeat (first | exact Bel.refl _ | refine Bel.drewN ?_ _ | refine Bel.drew ?_ | refine Bel.alloc ?_ _ | refine Bel.trans ?_ (by assumption) | refine Bel.setCell ?_ (by simp; omega) _))⟩
      · obtain rfl : k = xs.length := by omega
        have HF := Lib.hid (show (xs == ys) = true by
          rw [beq_iff_eq]
          refine List.ext_getElem? fun j => ?_
          by_cases hj : j < xs.length
          · exact HE.out j hj
          · rw [List.getElem?_eq_none (by omega), List.getElem?_eq_none (by omega)])
        go_wp2_with fail
        go_ret
        rw [HF.out]
        exact ⟨rfl, (by repeat (first | exact Bel.refl _ | refine Bel.drewN ?_ _ | refine Bel.drew ?_ | refine Bel.alloc ?_ _ | refine Bel.trans ?_ (by assumption) | refine Bel.setCell ?_ (by simp; omega) _))⟩
  · have hlb : ((xs.length : Int) != (ys.length : Int)) = true := by rw [bne_iff_ne]; omega
    have HF := Lib.hid (show (xs == ys) = false by rw [beq_eq_false_iff_ne]; rintro rfl; exact hl rfl)
    clear hl
    go_enter Tryz.func15, Tryz.ntmps15
    go_wp2_with fail
    go_ret
    rw [HF.out]
    exact ⟨rfl, Bel.refl _⟩
theorem sameInts_yes (v1 v2 : Value) (xs ys : List Int) (w : World) (h1 : IntSl w v1 xs) (h2 : IntSl w v2 ys) (h : xs = ys) : Calls Tryz.prog 15 #[v1, v2] w fun e w' => e = .returned (.bool true) ∧ Bel w w' := by
  have := sameInts_any v1 v2 xs ys w h1 h2
  rw [h] at this
  simpa using this
/-- What the laws ask: the errno is the one that is told, and the list is what it must be (none, if it is an error). -/
theorem intsAre_yes (v1 v2 : Value) (xs ys : List Int) (n : Int) (w : World) (h1 : IntSl w v1 xs) (h2 : IntSl w v2 ys) (h : xs = if n = 0 then ys else []) : Calls Tryz.prog 23 #[v1, .int .i64 n, .int .i64 n, v2] w fun e w' => e = .returned (.bool true) ∧ Bel w w' := by
  by_cases hn : n = 0
  · subst hn
    rw [if_pos rfl] at h
    have c1 := sameInts_yes v1 v2 xs ys w h1 h2 h
    obtain ⟨a, ca, rfl, _⟩ := h1
    obtain ⟨b, cb, rfl, _⟩ := h2
    have C1 := Lib.hid c1
    clear c1 h
    go_enter Tryz.func23, Tryz.ntmps23
    go_wp2_with (go_at_call 15; refine (C1.out).mono ?_; rintro e w' ⟨rfl, hb⟩)
    go_ret
    exact ⟨rfl, by assumption⟩
  · rw [if_neg hn] at h
    have hne : (n != 0) = true := by simpa using hn
    have c1 := sameInts_yes v1 (.slice .none 0 0) xs [] w h1 (IntSl.nil_ w) h
    obtain ⟨a, ca, rfl, _⟩ := h1
    obtain ⟨b, cb, rfl, _⟩ := h2
    have C1 := Lib.hid c1
    clear c1 h hn
    go_enter Tryz.func23, Tryz.ntmps23
    go_wp2_with (go_at_call 15; refine (C1.out).mono ?_; rintro e w' ⟨rfl, hb⟩)
    go_ret
    exact ⟨rfl, by assumption⟩
end Go.Proofs.YteingkjdemlhgaaGreatDoor

/-
  The document's answers on UTF-8: IsScalar, CheckPoints, Row, EncodeUtf8.
-/
namespace Go.Proofs.YteingkjdemlhgaaGreatDoor
open Go.RowKit
set_option maxRecDepth 1000000
theorem isScalar_any (n : Int) (w : World) : Calls Tryz.prog 65 #[.int .i64 n] w fun e w' => e = .returned (.bool (M.scalar n)) ∧ w = w' := by
  by_cases h : 0 ≤ n ∧ n ≤ 55295
  · have e1 : decide (0 ≤ n ∧ n ≤ 55295) = true := by simpa using h
    have H := Lib.hid (show M.scalar n = true by simp only [M.scalar, decide_eq_true_eq]; omega)
    clear h
    go_enter Tryz.func65, Tryz.ntmps65
    go_wp2_with (go_at_call 76; refine (between_any _ _ _ _).mono ?_; rintro e w' ⟨rfl, rfl⟩)
    go_ret
    rw [H.out]
    exact ⟨rfl, rfl⟩
  · have e1 : decide (0 ≤ n ∧ n ≤ 55295) = false := by simpa using h
    have H := Lib.hid (show M.scalar n = decide (57344 ≤ n ∧ n ≤ 1114111) by rw [M.scalar, decide_eq_decide]; omega)
    clear h
    go_enter Tryz.func65, Tryz.ntmps65
    go_wp2_with (go_at_call 76; refine (between_any _ _ _ _).mono ?_; rintro e w' ⟨rfl, rfl⟩)
    go_ret
    rw [H.out]
    exact ⟨ret_bool (by simp), rfl⟩
theorem checkPoints_any (v : Value) (xs : List Int) (w : World) (hv : IntSl w v xs) : Calls Tryz.prog 31 #[v] w fun e w' => e = .returned (.int .i64 (M.points xs)) ∧ w = w' := by
  obtain ⟨a, c, rfl, hc1, hc2, hn, hx⟩ := hv
  unfold maxLen at hc2
  by_cases h : 3000 < xs.length
  · have H := Lib.hid (show M.points xs = 2 by rw [M.points, if_pos h])
    go_enter Tryz.func31, Tryz.ntmps31
    go_wp2_with fail
    go_ret
    rw [H.out]
    exact ⟨rfl, rfl⟩
  · go_enter Tryz.func31, Tryz.ntmps31
    go_wp2_with fail
    go_loop [3] (fun i => ∃ k : Nat, k ≤ xs.length ∧ i = .int .i64 k ∧ Hid ((xs.take k).all M.scalar = true)) (fun i => xs.length - (intOf i).toNat)
    case atStart => exact ⟨0, by omega, rfl, Lib.hid rfl⟩
    case round =>
      obtain ⟨k, hk, rfl, hno⟩ := hrel
      by_cases hlt : k < xs.length
      · obtain ⟨y, hy⟩ : ∃ y, xs[k]? = some y := ⟨_, List.getElem?_eq_getElem hlt⟩
        cases a with
        | none => exfalso; have h3 := hlt; rw [hn rfl, List.length_nil] at h3; omega
        | some x =>
          have hcell := hx x rfl k y hy
          cases hsc : M.scalar y with
          | false =>
            have HF := Lib.hid (show M.points xs = 3 by
              rw [M.points, if_neg h, if_neg]
              rw [Bool.not_eq_true, List.all_eq_false]
              exact ⟨y, List.mem_of_getElem? hy, by rw [hsc]; decide⟩)
            have Hs := Lib.hid hsc
            clear hx hn hsc hy
            go_wp2_with (go_at_call 65; refine (isScalar_any _ _).mono ?_; rintro e w' ⟨rfl, rfl⟩; rw [Hs.out])
            go_ret
            rw [HF.out]
            exact ⟨rfl, rfl⟩
          | true =>
            have HF := Lib.hid (show (xs.take (k + 1)).all M.scalar = true by
              rw [List.take_add_one, hy, List.all_append, hno.out]; simp [hsc])
            have Hs := Lib.hid hsc
            clear hx hn hsc hy
            go_wp2_with (go_at_call 65; refine (isScalar_any _ _).mono ?_; rintro e w' ⟨rfl, rfl⟩; rw [Hs.out])
            go_round
            case rel => exact ⟨k + 1, by omega, by go_num, HF⟩
            case measure => simp [intOf]; omega
      · obtain rfl : k = xs.length := by omega
        have HF := Lib.hid (show M.points xs = 0 by
          have := hno.out
          rw [List.take_length] at this
          rw [M.points, if_neg h, if_pos this])
        go_wp2_with fail
        go_ret
        rw [HF.out]
        exact ⟨rfl, rfl⟩
theorem low_any (n : Int) (w : World) (h : 0 ≤ n) (h2 : n ≤ 1114111) : Calls Tryz.prog 116 #[.int .i64 n] w fun e w' => e = .returned (.int .u8 (128 + n % 64)) ∧ w = w' := by
  go_enter Tryz.func116, Tryz.ntmps116
  go_wp2_with fail
  go_ret
  exact ⟨rfl, rfl⟩
theorem row8_le (n : Int) : (M.row8 n).length ≤ 4 := by unfold M.row8; (repeat' split) <;> simp
set_option maxHeartbeats 2000000 in
theorem row_any (n : Int) (w : World) (h0 : 0 ≤ n) (h1 : n ≤ 1114111) : Calls Tryz.prog 79 #[.int .i64 n] w fun e w' => e = .returned (.string ⟨(M.row8 n).toArray⟩) ∧ Bel w w' := by
  obtain ⟨m, rfl⟩ := Int.eq_ofNat_of_zero_le h0
  by_cases g1 : m < 128
  · have HR := Lib.hid (show (M.row8 (m : Int)).map byteVal = [.int .u8 (m : Int)] by
      rw [M.row8, if_pos (by omega)]; simp [byteVal]; omega)
    go_enter Tryz.func79, Tryz.ntmps79
    go_wp2_with (first | ((with_reducible show wpList _ _ _ _ _ _); refine wpList_toString rfl (.tmp 9) _ _ 5 rfl Tryz.underlying120 Tryz.underlying5 Tryz.underlying9 w.heap.size _ (M.row8 (m : Int)) rfl (own_row w (M.row8 (m : Int)) _ HR.out (row8_le _)) ?_))
    go_ret
    exact ⟨rfl, (by repeat (first | exact Bel.refl _ | refine Bel.drewN ?_ _ | refine Bel.drew ?_ | refine Bel.alloc ?_ _ | refine Bel.trans ?_ (by assumption) | refine Bel.setCell ?_ (by simp; omega) _))⟩
  · by_cases g2 : m < 2048
    · obtain ⟨r, hr, hr1⟩ : ∃ r : Nat, (m : Int) / 64 = (r : Int) ∧ r < 32 := ⟨m / 64, by omega, by omega⟩
      obtain ⟨c, hc, hc1⟩ : ∃ c : Nat, (m : Int) % 64 = (c : Int) ∧ c < 64 := ⟨m % 64, by omega, by omega⟩
      have HR := Lib.hid (show (M.row8 (m : Int)).map byteVal = [.int .u8 (192 + (r : Int)), .int .u8 (128 + (c : Int))] by
        rw [M.row8, if_neg (by omega), if_pos (by omega)]; simp [byteVal]; omega)
      have Hc := Lib.hid hc
      clear hc
      go_enter Tryz.func79, Tryz.ntmps79
      go_wp2_with (first | (go_at_call 116; refine (low_any _ _ (by omega) (by omega)).mono ?_; rintro e w' ⟨rfl, rfl⟩; rw [Hc.out]) | ((with_reducible show wpList _ _ _ _ _ _); refine wpList_toString rfl (.tmp 21) _ _ 5 rfl Tryz.underlying120 Tryz.underlying5 Tryz.underlying9 w.heap.size _ (M.row8 (m : Int)) rfl (own_row w (M.row8 (m : Int)) _ HR.out (row8_le _)) ?_))
      go_ret
      exact ⟨rfl, (by repeat (first | exact Bel.refl _ | refine Bel.drewN ?_ _ | refine Bel.drew ?_ | refine Bel.alloc ?_ _ | refine Bel.trans ?_ (by assumption) | refine Bel.setCell ?_ (by simp; omega) _))⟩
    · by_cases g3 : m < 65536
      · obtain ⟨q, hq, hq1⟩ : ∃ q : Nat, (m : Int) / 4096 = (q : Int) ∧ q < 16 := ⟨m / 4096, by omega, by omega⟩
        obtain ⟨r, hr, hr1⟩ : ∃ r : Nat, (m : Int) / 64 = (r : Int) ∧ r < 1024 := ⟨m / 64, by omega, by omega⟩
        obtain ⟨s, hs, hs1⟩ : ∃ s : Nat, (r : Int) % 64 = (s : Int) ∧ s < 64 := ⟨r % 64, by omega, by omega⟩
        obtain ⟨c, hc, hc1⟩ : ∃ c : Nat, (m : Int) % 64 = (c : Int) ∧ c < 64 := ⟨m % 64, by omega, by omega⟩
        have HR := Lib.hid (show (M.row8 (m : Int)).map byteVal = [.int .u8 (224 + (q : Int)), .int .u8 (128 + (s : Int)), .int .u8 (128 + (c : Int))] by
          rw [M.row8, if_neg (by omega), if_neg (by omega), if_pos (by omega)]; simp [byteVal]; omega)
        have Hc := Lib.hid hc
        have Hs := Lib.hid hs
        clear hc hs
        go_enter Tryz.func79, Tryz.ntmps79
        go_wp2_with (first | (go_at_call 116; refine (low_any _ _ (by omega) (by omega)).mono ?_; rintro e w' ⟨rfl, rfl⟩; try rw [Hc.out]; try rw [Hs.out]) | ((with_reducible show wpList _ _ _ _ _ _); refine wpList_toString rfl (.tmp 37) _ _ 5 rfl Tryz.underlying120 Tryz.underlying5 Tryz.underlying9 w.heap.size _ (M.row8 (m : Int)) rfl (own_row w (M.row8 (m : Int)) _ HR.out (row8_le _)) ?_))
        go_ret
        exact ⟨rfl, (by repeat (first | exact Bel.refl _ | refine Bel.drewN ?_ _ | refine Bel.drew ?_ | refine Bel.alloc ?_ _ | refine Bel.trans ?_ (by assumption) | refine Bel.setCell ?_ (by simp; omega) _))⟩
      · obtain ⟨p, hp, hp1⟩ : ∃ p : Nat, (m : Int) / 262144 = (p : Int) ∧ p < 8 := ⟨m / 262144, by omega, by omega⟩
        obtain ⟨q, hq, hq1⟩ : ∃ q : Nat, (m : Int) / 4096 = (q : Int) ∧ q < 512 := ⟨m / 4096, by omega, by omega⟩
        obtain ⟨q2, hq2, hq21⟩ : ∃ q2 : Nat, (q : Int) % 64 = (q2 : Int) ∧ q2 < 64 := ⟨q % 64, by omega, by omega⟩
        obtain ⟨r, hr, hr1⟩ : ∃ r : Nat, (m : Int) / 64 = (r : Int) ∧ r < 32768 := ⟨m / 64, by omega, by omega⟩
        obtain ⟨s, hs, hs1⟩ : ∃ s : Nat, (r : Int) % 64 = (s : Int) ∧ s < 64 := ⟨r % 64, by omega, by omega⟩
        obtain ⟨c, hc, hc1⟩ : ∃ c : Nat, (m : Int) % 64 = (c : Int) ∧ c < 64 := ⟨m % 64, by omega, by omega⟩
        have HR := Lib.hid (show (M.row8 (m : Int)).map byteVal = [.int .u8 (240 + (p : Int)), .int .u8 (128 + (q2 : Int)), .int .u8 (128 + (s : Int)), .int .u8 (128 + (c : Int))] by
          rw [M.row8, if_neg (by omega), if_neg (by omega), if_neg (by omega)]; simp [byteVal]; omega)
        have Hc := Lib.hid hc
        have Hs := Lib.hid hs
        have Hq := Lib.hid hq2
        clear hc hs hq2
        go_enter Tryz.func79, Tryz.ntmps79
        go_wp2_with (first | (go_at_call 116; refine (low_any _ _ (by omega) (by omega)).mono ?_; rintro e w' ⟨rfl, rfl⟩; try rw [Hc.out]; try rw [Hs.out]; try rw [Hq.out]) | ((with_reducible show wpList _ _ _ _ _ _); refine wpList_toString rfl (.tmp 54) _ _ 5 rfl Tryz.underlying120 Tryz.underlying5 Tryz.underlying9 w.heap.size _ (M.row8 (m : Int)) rfl (own_row w (M.row8 (m : Int)) _ HR.out (row8_le _)) ?_))
        go_ret
        exact ⟨rfl, (by repeat (first | exact Bel.refl _ | refine Bel.drewN ?_ _ | refine Bel.drew ?_ | refine Bel.alloc ?_ _ | refine Bel.trans ?_ (by assumption) | refine Bel.setCell ?_ (by simp; omega) _))⟩
theorem encodeUtf8_any (v : Value) (xs : List Int) (w : World) (hv : IntSl w v xs) (hlen : xs.length ≤ 1000000) (hsc : ∀ n ∈ xs, 0 ≤ n ∧ n ≤ 1114111) : Calls Tryz.prog 49 #[v] w fun e w' => e = .returned (.string ⟨(M.bytes8 xs).toArray⟩) ∧ Bel w w' := by
  obtain ⟨a, c, rfl, hc1, hc2, hn, hx⟩ := hv
  unfold maxLen at hc2
  go_enter Tryz.func49, Tryz.ntmps49
  go_wp2_with fail
  go_loopw [3, 4] (fun v i wr => ∃ k : Nat, k ≤ xs.length ∧ i = .int .i64 k ∧ v = .string ⟨(M.bytes8 (xs.take k)).toArray⟩ ∧ (M.bytes8 (xs.take k)).length ≤ 4 * k ∧ Bel w wr) (fun _ i _ => xs.length - (intOf i).toNat)
  case atStart => exact ⟨0, by omega, rfl, by simp [M.bytes8], by simp [M.bytes8], Bel.refl _⟩
  case round =>
    obtain ⟨k, hk, rfl, rfl, hbl, hb⟩ := hrel
    by_cases hlt : k < xs.length
    · obtain ⟨n, hy⟩ : ∃ n, xs[k]? = some n := ⟨_, List.getElem?_eq_getElem hlt⟩
      cases a with
      | none => exfalso; have h3 := hlt; rw [hn rfl, List.length_nil] at h3; omega
      | some x =>
        have hcw := hx x rfl k n hy
        have hcell : wr.cell? (x.add k) = some (.int .i64 n) := (hb.cell (World.block_lt_of_cell? w _ hcw)).trans hcw
        obtain ⟨hn0, hn1⟩ := hsc n (List.mem_of_getElem? hy)
        have hr4 := row8_le n
        have HT := Lib.hid (show M.bytes8 (xs.take (k + 1)) = M.bytes8 (xs.take k) ++ M.row8 n by
          rw [List.take_add_one, hy]; simp [M.bytes8])
        clear hx hn hy hcw hsc
        go_wp2_with (first | (go_at_call 79; refine (row_any _ _ hn0 hn1).mono ?_; rintro e w' ⟨rfl, hb2⟩))
        go_roundw
        case rel =>
          have HB : (M.bytes8 (xs.take (k + 1))).length ≤ 4 * (k + 1) := by rw [HT.out, List.length_append]; omega
          have HV : (Value.string (⟨(M.bytes8 (xs.take k)).toArray⟩ ++ ⟨(M.row8 n).toArray⟩) : Value) = .string ⟨(M.bytes8 (xs.take (k + 1))).toArray⟩ := by rw [HT.out]; simp [str_append]
          exact ⟨k + 1, by omega, by go_num, HV, HB, hb.trans (by assumption)⟩
        case measure => simp [intOf]; omega
    · obtain rfl : k = xs.length := by omega
      have HT := Lib.hid (show xs.take xs.length = xs from List.take_length)
      go_wp2_with fail
      go_ret
      rw [HT.out]
      exact ⟨rfl, hb⟩
end Go.Proofs.YteingkjdemlhgaaGreatDoor

/-
  The document's answers on UTF-16: unitAt, DecodeUtf16, EncodeUtf16.
-/
namespace Go.Proofs.YteingkjdemlhgaaGreatDoor
open Go.RowKit
set_option maxRecDepth 1000000
theorem unitAt_any (big : Bool) (s : ByteArray) (k : Nat) (a b : UInt8) (ha : s.data.toList[k]? = some a) (hb : s.data.toList[k + 1]? = some b) (hs : s.size ≤ 68719476735) (w : World) : Calls Tryz.prog 154 #[.bool big, .string s, .int .i64 (k : Int)] w fun e w' => e = .returned (.int .i64 (M.unit16 big a b)) ∧ ∃ q, w.drewN q = w' := by
  obtain ⟨k0, h0⟩ := head_at s k a ha
  obtain ⟨k1, h1⟩ := head_at s (k + 1) b hb
  have hal := a.toNat_lt
  have hbl := b.toNat_lt
  clear ha hb
  cases big
  · have H := Lib.hid (show M.unit16 false a b = (a.toNat : Int) + 256 * (b.toNat : Int) by simp only [M.unit16, Bool.false_eq_true, if_false])
    go_enter Tryz.func154, Tryz.ntmps154
    go_wp2_with fail
    go_quiet (fail)
    go_wp2_with fail
    go_ret
    rw [H.out]
    exact ⟨rfl, _, rfl⟩
  · have H := Lib.hid (show M.unit16 true a b = 256 * (a.toNat : Int) + (b.toNat : Int) by simp only [M.unit16, if_true])
    go_enter Tryz.func154, Tryz.ntmps154
    go_wp2_with fail
    go_quiet (fail)
    go_wp2_with fail
    go_ret
    rw [H.out]
    exact ⟨rfl, _, rfl⟩
theorem unitAt_to (big : Bool) (s : ByteArray) (k : Nat) (a b : UInt8) (n : Int) (hn : M.unit16 big a b = n) (ha : s.data.toList[k]? = some a) (hb : s.data.toList[k + 1]? = some b) (hs : s.size ≤ 68719476735) (i : Int) (hi : i = (k : Int)) (w : World) : Calls Tryz.prog 154 #[.bool big, .string s, .int .i64 i] w fun e w' => e = .returned (.int .i64 n) ∧ ∃ q, w.drewN q = w' := by
  subst hi
  have := unitAt_any big s k a b ha hb hs w; rw [hn] at this; exact this
theorem between_to (n a b : Int) (c : Bool) (h : decide (a ≤ n ∧ n ≤ b) = c) (w : World) : Calls Tryz.prog 76 #[.int .i64 n, .int .i64 a, .int .i64 b] w fun e w' => e = .returned (.bool c) ∧ w = w' := by
  have := between_any n a b w; rw [h] at this; exact this
theorem drop_two (l : List UInt8) (k : Nat) (a b : UInt8) (t : List UInt8) (h : l.drop k = a :: b :: t) : l[k]? = some a ∧ l[k + 1]? = some b ∧ l.drop (k + 2) = t := by
  refine ⟨?_, ?_, ?_⟩
  · have := List.getElem?_drop (xs := l) (i := k) (j := 0); rw [h] at this; simpa using this.symm
  · have := List.getElem?_drop (xs := l) (i := k) (j := 1); rw [h] at this; simpa using this.symm
  · have := List.drop_drop (l := l) (i := 2) (j := k); rw [h] at this; simpa using this.symm
set_option maxHeartbeats 4000000 in
theorem decodeUtf16_any (big : Bool) (s : ByteArray) (hs : s.size ≤ 68719476735) (w : World) : Calls Tryz.prog 127 #[.bool big, .string s] w fun e w' => ∃ v, e = .returned (.tuple #[v, .string ⟨(M.told16 big s.data.toList).2.toArray⟩]) ∧ Own w.heap.size 3 w' v ((M.told16 big s.data.toList).1.map (Value.int .i64)) ∧ Bel w w' := by
  go_enter Tryz.func127, Tryz.ntmps127
  go_wp2_with fail
  go_loopw [6, 7] (fun v i wr => ∃ (k : Nat) (xs : List Int), k ≤ s.size ∧ i = .int .i64 k ∧ xs.length ≤ k ∧ Hid (M.told16 big s.data.toList = (xs ++ (M.told16 big (s.data.toList.drop k)).1, (M.told16 big (s.data.toList.drop k)).2)) ∧ Own w.heap.size 3 wr v (xs.map (Value.int .i64)) ∧ Bel w wr) (fun _ i _ => s.size - (intOf i).toNat)
  case atStart => exact ⟨0, [], by omega, rfl, by simp, Lib.hid (by simp), Own.nil _ _ _, Bel.refl _⟩
  case round =>
    obtain ⟨k, xs, hk, rfl, hx, HT, hown, hb⟩ := hrel
    have hz : (s.data.toList.drop k).length = s.size - k := by rw [List.length_drop, ← Lib.size_eq]
    have hsz : ∀ q, w.heap.size ≤ (wr.drewN q).heap.size := fun q => (Bel.drewN hb q).size
    by_cases h2 : k + 2 ≤ s.size
    · obtain ⟨a, b, t, hab⟩ : ∃ a b t, s.data.toList.drop k = a :: b :: t := by
        match hq : s.data.toList.drop k with
        | [] => rw [hq] at hz; simp at hz; omega
        | [a] => rw [hq] at hz; simp at hz; omega
        | a :: b :: t => exact ⟨a, b, t, rfl⟩
      obtain ⟨q0, q1, q2⟩ := drop_two _ _ _ _ _ hab
      have htl : s.size - k = t.length + 2 := by rw [← hz, hab]; rfl
      obtain ⟨u0, u1⟩ := M.unit16_le big a b
      have i2 : (k : Int) + 2 ≤ (s.size : Int) := by omega
      obtain ⟨n, hn⟩ : ∃ n, M.unit16 big a b = n := ⟨_, rfl⟩
      have Q0 := Lib.hid q0
      have Q1 := Lib.hid q1
      have HN := Lib.hid hn
      rcases M.say16 big a b t with ⟨g1, e1⟩ | ⟨g1, g2, e1⟩ | ⟨c, d, u, rfl, g1, g2, e1⟩ | ⟨c, d, u, rfl, g1, g2, e1⟩
      · have HF := Lib.hid (show M.told16 big s.data.toList = ((xs ++ [M.one16 (M.unit16 big a b)]) ++ (M.told16 big (s.data.toList.drop (k + 2))).1, (M.told16 big (s.data.toList.drop (k + 2))).2) by
          rw [HT.out, q2, hab, e1]; simp)
        rw [hn] at g1 u0 u1 HF
        have G1 := Lib.hid (show decide (55296 ≤ n ∧ n ≤ 56319) = false from g1)
        clear hz hab e1 htl hn q0 q1 q2
        cases hlo : M.isLo n with
        | true =>
          have HO := Lib.hid (show M.one16 n = 65533 by rw [M.one16, if_pos hlo])
          have G2 := Lib.hid (show decide (55296 ≤ n ∧ n ≤ 57343) = true by simp only [M.isHi, M.isLo, decide_eq_true_eq, decide_eq_false_iff_not] at hlo g1 ⊢; omega)
          clear hlo g1
          rw [HO.out] at HF
          go_wp2_with fail
          refine (unitAt_to big s k a b n HN.out Q0.out Q1.out hs _ rfl _).mono ?_
          rintro e w1 ⟨rfl, q, rfl⟩
          go_wp2_with (first | (go_at_call 76; (first | with_reducible refine (between_to n 55296 56319 false G1.out _).mono ?_ | with_reducible refine (between_to n 55296 57343 true G2.out _).mono ?_); rintro e w' ⟨rfl, rfl⟩) | (at_builtin; refine wpList_app rfl (.tmp 47) (.tmp 49) 30 rfl elemInt (by decide) w.heap.size _ _ _ rfl rfl (hown.drewN _) rfl (by simp; omega) (hsz _) ?_; intro v' w1 hown' hb1))
          go_roundw
          case rel => exact ⟨k + 2, xs ++ [65533], by omega, by go_num, by rw [List.length_append, List.length_singleton]; omega, HF, by rw [List.map_append]; exact hown', Bel.upto (Bel.drewN hb _) hb1 (Nat.le_refl _)⟩
          case measure => simp [intOf]; omega
        | false =>
          have HO := Lib.hid (show M.one16 n = n by rw [M.one16, if_neg (by rw [hlo]; decide)])
          have G2 := Lib.hid (show decide (55296 ≤ n ∧ n ≤ 57343) = false by simp only [M.isHi, M.isLo, decide_eq_false_iff_not] at hlo g1 ⊢; omega)
          clear hlo g1
          rw [HO.out] at HF
          go_wp2_with fail
          refine (unitAt_to big s k a b n HN.out Q0.out Q1.out hs _ rfl _).mono ?_
          rintro e w1 ⟨rfl, q, rfl⟩
          go_wp2_with (first | (go_at_call 76; (first | with_reducible refine (between_to n 55296 56319 false G1.out _).mono ?_ | with_reducible refine (between_to n 55296 57343 false G2.out _).mono ?_); rintro e w' ⟨rfl, rfl⟩) | (at_builtin; refine wpList_app rfl (.tmp 47) (.tmp 49) 30 rfl elemInt (by decide) w.heap.size _ _ _ rfl rfl (hown.drewN _) rfl (by simp; omega) (hsz _) ?_; intro v' w1 hown' hb1))
          go_roundw
          case rel => exact ⟨k + 2, xs ++ [n], by omega, by go_num, by rw [List.length_append, List.length_singleton]; omega, HF, by rw [List.map_append]; exact hown', Bel.upto (Bel.drewN hb _) hb1 (Nat.le_refl _)⟩
          case measure => simp [intOf]; omega
      · have HF := Lib.hid (show M.told16 big s.data.toList = (xs, s.data.toList.drop k) by
          rw [HT.out, hab, e1]; simp)
        have HD := Lib.hid (drop_str s k)
        rw [hn] at g1 u0 u1
        have G1 := Lib.hid (show decide (55296 ≤ n ∧ n ≤ 56319) = true from g1)
        have h4 : s.size < k + 4 := by omega
        clear hz hab e1 htl hn q0 q1 q2 g1
        go_wp2_with fail
        refine (unitAt_to big s k a b n HN.out Q0.out Q1.out hs _ rfl _).mono ?_
        rintro e w1 ⟨rfl, q, rfl⟩
        go_wp2_with (first | (go_at_call 76; (first | with_reducible refine (between_to n 55296 56319 true G1.out _).mono ?_); rintro e w' ⟨rfl, rfl⟩))
        go_quiet (fail)
        go_wp2_with fail
        go_ret2
        rw [HF.out]
        exact ⟨_, by rw [← HD.out, str_eq]; rfl, (hown.drewN _).drewN _, Bel.drewN (Bel.drewN hb _) _⟩
      · have q3 := drop_two _ _ _ _ _ q2
        have HF := Lib.hid (show M.told16 big s.data.toList = ((xs ++ [M.pair16 (M.unit16 big a b) (M.unit16 big c d)]) ++ (M.told16 big (s.data.toList.drop (k + 4))).1, (M.told16 big (s.data.toList.drop (k + 4))).2) by
          rw [HT.out, q3.2.2, hab, e1]; simp)
        obtain ⟨v0, v1⟩ := M.unit16_le big c d
        obtain ⟨m, hm⟩ : ∃ m, M.unit16 big c d = m := ⟨_, rfl⟩
        rw [hn] at g1 u0 u1 HF
        rw [hm] at g2 v0 v1 HF
        have G1 := Lib.hid (show decide (55296 ≤ n ∧ n ≤ 56319) = true from g1)
        have G2 := Lib.hid (show decide (56320 ≤ m ∧ m ≤ 57343) = true from g2)
        simp only [M.isHi, decide_eq_true_eq] at g1
        simp only [M.isLo, decide_eq_true_eq] at g2
        have HM := Lib.hid hm
        have Q2 := Lib.hid q3.1
        have Q3 := Lib.hid q3.2.1
        have HP := Lib.hid (show M.pair16 n m = 65536 + 1024 * (n - 55296) + m - 56320 by rw [M.pair16]; omega)
        have h4 : k + 4 ≤ s.size := by simp only [List.length_cons] at htl; omega
        clear hz hab e1 htl hn hm q0 q1 q2 q3
        rw [HP.out] at HF
        go_wp2_with fail
        refine (unitAt_to big s k a b n HN.out Q0.out Q1.out hs _ rfl _).mono ?_
        rintro e w1 ⟨rfl, q, rfl⟩
        go_wp2_with (first | (go_at_call 76; (first | with_reducible refine (between_to n 55296 56319 true G1.out _).mono ?_); rintro e w' ⟨rfl, rfl⟩))
        refine (unitAt_to big s (k + 2) c d m HM.out Q2.out Q3.out hs _ (by omega) _).mono ?_
        rintro e w1 ⟨rfl, q2, rfl⟩
        go_wp2_with (first | (go_at_call 76; (first | with_reducible refine (between_to m 56320 57343 true G2.out _).mono ?_); rintro e w' ⟨rfl, rfl⟩) | (at_builtin; refine wpList_app rfl (.tmp 33) (.tmp 41) 30 rfl elemInt (by decide) w.heap.size _ _ _ rfl rfl (hown.drewN _) rfl (by simp; omega) (hsz _) ?_; intro v' w1 hown' hb1))
        go_roundw
        case rel => exact ⟨k + 4, xs ++ [65536 + 1024 * (n - 55296) + m - 56320], by omega, by go_num, by rw [List.length_append, List.length_singleton]; omega, HF, by rw [List.map_append]; exact hown', Bel.upto (Bel.drewN hb _) hb1 (Nat.le_refl _)⟩
        case measure => simp [intOf]; omega
      · have q3 := drop_two _ _ _ _ _ q2
        have HF := Lib.hid (show M.told16 big s.data.toList = ((xs ++ [65533]) ++ (M.told16 big (s.data.toList.drop (k + 2))).1, (M.told16 big (s.data.toList.drop (k + 2))).2) by
          rw [HT.out, q2, hab, e1]; simp)
        obtain ⟨v0, v1⟩ := M.unit16_le big c d
        obtain ⟨m, hm⟩ : ∃ m, M.unit16 big c d = m := ⟨_, rfl⟩
        rw [hn] at g1 u0 u1
        rw [hm] at g2 v0 v1
        have G1 := Lib.hid (show decide (55296 ≤ n ∧ n ≤ 56319) = true from g1)
        have G2 := Lib.hid (show decide (56320 ≤ m ∧ m ≤ 57343) = false from g2)
        have G3 := Lib.hid (show decide (55296 ≤ n ∧ n ≤ 57343) = true by simp only [M.isHi, decide_eq_true_eq] at g1 ⊢; omega)
        have HM := Lib.hid hm
        have Q2 := Lib.hid q3.1
        have Q3 := Lib.hid q3.2.1
        have h4 : k + 4 ≤ s.size := by simp only [List.length_cons] at htl; omega
        clear hz hab e1 htl hn hm q0 q1 q2 q3 g1 g2
        go_wp2_with fail
        refine (unitAt_to big s k a b n HN.out Q0.out Q1.out hs _ rfl _).mono ?_
        rintro e w1 ⟨rfl, q, rfl⟩
        go_wp2_with (first | (go_at_call 76; (first | with_reducible refine (between_to n 55296 56319 true G1.out _).mono ?_); rintro e w' ⟨rfl, rfl⟩))
        refine (unitAt_to big s (k + 2) c d m HM.out Q2.out Q3.out hs _ (by omega) _).mono ?_
        rintro e w1 ⟨rfl, q2, rfl⟩
        go_wp2_with (first | (go_at_call 76; (first | with_reducible refine (between_to m 56320 57343 false G2.out _).mono ?_ | with_reducible refine (between_to n 55296 57343 true G3.out _).mono ?_); rintro e w' ⟨rfl, rfl⟩) | (at_builtin; refine wpList_app rfl (.tmp 47) (.tmp 49) 30 rfl elemInt (by decide) w.heap.size _ _ _ rfl rfl (hown.drewN _) rfl (by simp; omega) (hsz _) ?_; intro v' w1 hown' hb1))
        go_roundw
        case rel => exact ⟨k + 2, xs ++ [65533], by omega, by go_num, by rw [List.length_append, List.length_singleton]; omega, HF, by rw [List.map_append]; exact hown', Bel.upto (Bel.drewN hb _) hb1 (Nat.le_refl _)⟩
        case measure => simp [intOf]; omega
    · have HF := Lib.hid (show M.told16 big s.data.toList = (xs, s.data.toList.drop k) by
        rw [HT.out]
        match hq : s.data.toList.drop k with
        | [] => rw [M.told16_nil]; simp
        | [a] => rw [M.told16_one]; simp
        | _ :: _ :: _ => rw [hq] at hz; simp only [List.length_cons] at hz; omega)
      have HD := Lib.hid (drop_str s k)
      clear hz
      go_wp2_with fail
      go_quiet (fail)
      go_wp2_with fail
      go_ret2
      rw [HF.out]
      exact ⟨_, by rw [← HD.out, str_eq]; rfl, hown.drewN _, Bel.drewN hb _⟩
end Go.Proofs.YteingkjdemlhgaaGreatDoor

/-
  The document's answers on signs that are shifted: KanaSign, kanaByte, HasKana.
-/
namespace Go.Proofs.YteingkjdemlhgaaGreatDoor
open Go.RowKit
set_option maxRecDepth 1000000
theorem kanaSign_any (g : Int) (c : Nat) (hc : c < 256) (h27 : c ≠ 27) (w : World) : Calls Tryz.prog 117 #[.int .i64 g, .int .i64 (c : Int)] w fun e w' => e = .returned (.int .i64 (M.signK g c)) ∧ w = w' := by
  by_cases hA : g = 2
  · subst hA
    by_cases h1 : 33 ≤ c ∧ c ≤ 95
    · have H := Lib.hid (show M.signK 2 c = 65344 + (c : Int) by rw [M.signK, if_pos ⟨rfl, h1.1, h1.2⟩])
      have HB := Lib.hid (show decide ((33 : Int) ≤ (c : Int) ∧ (c : Int) ≤ 95) = true by rw [decide_eq_true_eq]; omega)
      clear h1
      go_enter Tryz.func117, Tryz.ntmps117
      go_wp2_with (first | (go_at_call 76; refine (between_to _ _ _ _ HB.out _).mono ?_; rintro e w' ⟨rfl, rfl⟩))
      go_ret
      rw [H.out]
      exact ⟨rfl, rfl⟩
    · have H := Lib.hid (show M.signK 2 c = 65533 by rw [M.signK, if_neg (by omega), if_pos (.inl rfl)])
      have HB := Lib.hid (show decide ((33 : Int) ≤ (c : Int) ∧ (c : Int) ≤ 95) = false by rw [decide_eq_false_iff_not]; omega)
      clear h1
      go_enter Tryz.func117, Tryz.ntmps117
      go_wp2_with (first | (go_at_call 76; refine (between_to _ _ _ _ HB.out _).mono ?_; rintro e w' ⟨rfl, rfl⟩))
      go_ret
      rw [H.out]
      exact ⟨rfl, rfl⟩
  · have e2 : (g == 2) = false := by simpa using hA
    have HB := Lib.hid (show True from trivial)
    by_cases h1 : 128 ≤ c
    · have H := Lib.hid (show M.signK g c = 65533 by rw [M.signK, if_neg (by omega), if_pos (by omega)])
      have h2 : (127 : Int) < (c : Int) := by omega
      clear hA
      go_enter Tryz.func117, Tryz.ntmps117
      go_wp2
      go_ret
      rw [H.out]
      exact ⟨rfl, rfl⟩
    · by_cases h2 : c = 14
      · subst h2
        have H := Lib.hid (show M.signK g 14 = 65533 by rw [M.signK, if_neg (by omega), if_pos (by omega)])
        clear hA h1
        go_enter Tryz.func117, Tryz.ntmps117
        go_wp2
        go_ret
        rw [H.out]
        exact ⟨rfl, rfl⟩
      · by_cases h3 : c = 15
        · subst h3
          have H := Lib.hid (show M.signK g 15 = 65533 by rw [M.signK, if_neg (by omega), if_pos (by omega)])
          clear hA h1 h2
          go_enter Tryz.func117, Tryz.ntmps117
          go_wp2
          go_ret
          rw [H.out]
          exact ⟨rfl, rfl⟩
        · have e3 : ((c : Int) == 14) = false := by rw [beq_eq_false_iff_ne]; omega
          have e4 : ((c : Int) == 15) = false := by rw [beq_eq_false_iff_ne]; omega
          have hs : M.signK g c = if g = 1 ∧ c = 92 then 165 else if g = 1 ∧ c = 126 then 8254 else (c : Int) := by
            rw [M.signK, if_neg (by omega), if_neg (by omega)]
          by_cases hB : g = 1
          · subst hB
            by_cases h5 : c = 92
            · subst h5
              have H := Lib.hid hs
              clear hs hA h1 h2 h3
              go_enter Tryz.func117, Tryz.ntmps117
              go_wp2
              go_ret
              rw [H.out]
              exact ⟨rfl, rfl⟩
            · by_cases h6 : c = 126
              · subst h6
                have H := Lib.hid hs
                clear hs hA h1 h2 h3
                go_enter Tryz.func117, Tryz.ntmps117
                go_wp2
                go_ret
                rw [H.out]
                exact ⟨rfl, rfl⟩
              · have H := Lib.hid (show M.signK 1 c = (c : Int) by rw [hs, if_neg (by omega), if_neg (by omega)])
                have e5 : ((c : Int) == 92) = false := by rw [beq_eq_false_iff_ne]; omega
                have e6 : ((c : Int) == 126) = false := by rw [beq_eq_false_iff_ne]; omega
                clear hs hA h2 h3 h5 h6
                go_enter Tryz.func117, Tryz.ntmps117
                go_wp2
                go_ret
                rw [H.out]
                exact ⟨rfl, rfl⟩
          · have e5 : (g == 1) = false := by simpa using hB
            have H := Lib.hid (show M.signK g c = (c : Int) by rw [hs, if_neg (by omega), if_neg (by omega)])
            clear hs hA h2 h3 hB
            go_enter Tryz.func117, Tryz.ntmps117
            go_wp2
            go_ret
            rw [H.out]
            exact ⟨rfl, rfl⟩
theorem kanaSign_to (g : Int) (c : Nat) (m : Int) (h : M.signK g c = m) (hc : c < 256) (h27 : c ≠ 27) (w : World) : Calls Tryz.prog 117 #[.int .i64 g, .int .i64 (c : Int)] w fun e w' => e = .returned (.int .i64 m) ∧ w = w' := by
  have := kanaSign_any g c hc h27 w; rw [h] at this; exact this
theorem kanaByte_any (g n : Int) (w : World) : Calls Tryz.prog 80 #[.int .i64 g, .int .i64 n] w fun e w' => e = .returned (.int .i64 (M.byteK g n)) ∧ w = w' := by
  go_enter Tryz.func80, Tryz.ntmps80
  go_wp2_with fail
  go_loop [5] (fun i => ∃ k : Nat, k ≤ 128 ∧ i = .int .i64 k ∧ Hid (∀ j, j < k → n = 65533 ∨ M.signK g j ≠ n)) (fun i => 128 - (intOf i).toNat)
  case atStart => exact ⟨0, by omega, rfl, Lib.hid (fun j hj => by omega)⟩
  case round =>
    obtain ⟨k, hk, rfl, hno⟩ := hrel
    by_cases hlt : k < 128
    · by_cases h27 : k = 27
      · subst h27
        have HF := Lib.hid (show ∀ j, j < 27 + 1 → n = 65533 ∨ M.signK g j ≠ n from fun j hj => by
          by_cases hjk : j < 27
          · exact hno.out j hjk
          · obtain rfl : j = 27 := by omega
            have : M.signK g 27 = 65533 := by rw [M.signK, if_neg (by omega), if_pos (by omega)]
            rw [this]
            by_cases h3 : n = 65533
            · exact .inl h3
            · exact .inr (fun h4 => h3 h4.symm))
        go_wp2_with fail
        go_round
        case rel => exact ⟨27 + 1, by omega, by go_num, HF⟩
        case measure => simp [intOf]
      · have e27 : ((k : Int) != 27) = true := by rw [bne_iff_ne]; omega
        obtain ⟨m, hm⟩ : ∃ m, M.signK g k = m := ⟨_, rfl⟩
        have HM := Lib.hid hm
        have hk2 : k < 256 := by omega
        have H27 := Lib.hid h27
        by_cases he : m = n ∧ n ≠ 65533
        · obtain ⟨rfl, hn⟩ := he
          have HF := Lib.hid (M.byteK_hit g m k hno.out hlt hm hn)
          have e1 : (m != 65533) = true := by simpa using hn
          clear hm hn h27
          go_wp2_with (go_at_call 117; refine (kanaSign_to g k m HM.out hk2 H27.out _).mono ?_; rintro e w' ⟨rfl, rfl⟩)
          go_ret
          rw [HF.out]
          exact ⟨rfl, rfl⟩
        · have HF := Lib.hid (show ∀ j, j < k + 1 → n = 65533 ∨ M.signK g j ≠ n from fun j hj => by
            by_cases hjk : j < k
            · exact hno.out j hjk
            · obtain rfl : j = k := by omega
              by_cases h3 : n = 65533
              · exact .inl h3
              · exact .inr (fun h4 => he ⟨hm.symm.trans h4, h3⟩))
          by_cases h5 : m = n
          · subst h5
            obtain rfl : m = 65533 := by by_cases h6 : m = 65533; exact h6; exact absurd ⟨rfl, h6⟩ he
            clear hm he h27
            go_wp2_with (go_at_call 117; refine (kanaSign_to g k 65533 HM.out hk2 H27.out _).mono ?_; rintro e w' ⟨rfl, rfl⟩)
            go_round
            case rel => exact ⟨k + 1, by omega, by go_num, HF⟩
            case measure => simp [intOf]; omega
          · have e1 : (m == n) = false := by simpa using h5
            clear hm he h5 h27
            go_wp2_with (go_at_call 117; refine (kanaSign_to g k m HM.out hk2 H27.out _).mono ?_; rintro e w' ⟨rfl, rfl⟩)
            go_round
            case rel => exact ⟨k + 1, by omega, by go_num, HF⟩
            case measure => simp [intOf]; omega
    · obtain rfl : k = 128 := by omega
      have HF := Lib.hid (M.byteK_miss g n hno.out)
      go_wp2_with fail
      go_ret
      rw [HF.out]
      exact ⟨rfl, rfl⟩
theorem kanaByte_to (g n b : Int) (h : M.byteK g n = b) (w : World) : Calls Tryz.prog 80 #[.int .i64 g, .int .i64 n] w fun e w' => e = .returned (.int .i64 b) ∧ w = w' := by
  have := kanaByte_any g n w; rw [h] at this; exact this
end Go.Proofs.YteingkjdemlhgaaGreatDoor

/-
  The document's answers on signs that are shifted: DecodeKana.
-/
namespace Go.Proofs.YteingkjdemlhgaaGreatDoor
open Go.RowKit
set_option maxRecDepth 1000000
set_option maxHeartbeats 8000000 in
theorem decodeKana_any (g : Int) (f : Bool) (s : ByteArray) (last : Bool) (hs : s.size ≤ 68719476735) (w : World) : Calls Tryz.prog 129 #[.agg #[.int .i64 g, .bool f], .string s, .bool last] w fun e w' =>
    ∃ v, e = .returned (.tuple #[v, .agg #[.int .i64 (M.toldK last g f s.data.toList).2.1, .bool (M.toldK last g f s.data.toList).2.2.1], .string ⟨(M.toldK last g f s.data.toList).2.2.2.toArray⟩]) ∧ Own w.heap.size 3 w' v ((M.toldK last g f s.data.toList).1.map (Value.int .i64)) ∧ Bel w w' := by
  go_enter Tryz.func129, Tryz.ntmps129
  go_wp2_with fail
  go_loopw [9, 10] (fun vo i wr => ∃ (k : Nat) (xs : List Int) (sg : Int) (fr : Bool), k ≤ s.size ∧ i = .int .i64 k ∧ Box wr w.heap.size 153 [.int .i64 sg, .bool fr] ∧ Box wr (w.heap.size + 1) 153 [.int .i64 0, .bool false] ∧ xs.length ≤ k ∧ Hid (M.toldK last g f s.data.toList = (xs ++ (M.toldK last sg fr (s.data.toList.drop k)).1, (M.toldK last sg fr (s.data.toList.drop k)).2)) ∧ Own (w.heap.size + 2) 3 wr vo (xs.map (Value.int .i64)) ∧ Bel w wr) (fun _ i _ => s.size - (intOf i).toNat)
  case atStart =>
    exact ⟨0, [], g, f, by omega, rfl, (Box.new w 153 [.int .i64 g, .bool f]).bel ((Bel.refl _).alloc _), (by have := Box.new (w.alloc (.cells #[.int .i64 g, .bool f] 153)) 153 [.int .i64 0, .bool false]; simpa using this), by simp, Lib.hid (by simp), Own.nil _ _ _, (by repeat (first | exact Bel.refl _ | refine Bel.drewN ?_ _ | refine Bel.drew ?_ | refine Bel.alloc ?_ _ | refine Bel.trans ?_ (by assumption) | refine Bel.setCell ?_ (by simp; omega) _))⟩
  case round =>
    obtain ⟨k, xs, sg, fr, hk, rfl, hB, hR, hle, HT, hown, hb⟩ := hrel
    have c0 := hB.cell 0 _ rfl
    have c1 := hB.cell 1 _ rfl
    have f0 := hB.frozen 0
    have f1 := hB.frozen 1
    have r0 := hR.cell 0 _ rfl
    have r1 := hR.cell 1 _ rfl
    have q0 := hR.frozen 0
    have q1 := hR.frozen 1
    have hsz : w.heap.size + 2 ≤ wr.heap.size := hR.lt
    have HB2 := Lib.hid hB
    have HR2 := Lib.hid hR
    by_cases hlt : k < s.size
    · obtain ⟨c, t, hct⟩ : ∃ c t, s.data.toList.drop k = c :: t := by
        match hq : s.data.toList.drop k with
        | [] => have := congrArg List.length hq; rw [List.length_drop, ← Lib.size_eq] at this; simp at this; omega
        | c :: t => exact ⟨c, t, rfl⟩
      have hck : s.data.toList[k]? = some c := by
        have := List.getElem?_drop (xs := s.data.toList) (i := k) (j := 0); rw [hct] at this; simpa using this.symm
      have hdk : s.data.toList.drop (k + 1) = t := by
        have := List.drop_drop (l := s.data.toList) (i := 1) (j := k); rw [hct] at this; simpa using this.symm
      obtain ⟨k0, h0⟩ := head_at s k c hck
      have hcl := c.toNat_lt
      rcases M.sayK last sg fr c t with ⟨hc, e⟩ | ⟨rfl, k2, x, u, rfl, hk2, hh, e⟩ | ⟨rfl, hw, hh, rfl, e⟩ | ⟨rfl, hh, hw, e⟩
      · have e27 : ((c.toNat : Int) != 27) = true := by
          rw [bne_iff_ne]; intro h; apply hc; apply UInt8.toNat_inj.1; show c.toNat = 27; omega
        have h27 : c.toNat ≠ 27 := by rw [bne_iff_ne] at e27; omega
        obtain ⟨n, hn⟩ : ∃ n, M.signK sg c.toNat = n := ⟨_, rfl⟩
        have HN := Lib.hid hn
        have H27 := Lib.hid h27
        have HW := Lib.hid (show IntKind.i64.wrap (c.toNat : Int) = (c.toNat : Int) by rw [IntKind.wrap_i64]; omega)
        have HF := Lib.hid (show M.toldK last g f s.data.toList = ((xs ++ [n]) ++ (M.toldK last sg false (s.data.toList.drop (k + 1))).1, (M.toldK last sg false (s.data.toList.drop (k + 1))).2) by
          rw [HT.out, hct, e, hdk, hn]; simp)
        clear hct hc hn e hck hdk h27 hB hR
        go_wp2_with fail
        go_region_law ((first | (go_simp; go_at_call 117; rw [HW.out]; refine (kanaSign_to sg c.toNat n HN.out (by omega) H27.out _).mono ?_; rintro e w' ⟨rfl, rfl⟩) | (refine step_app rfl (.tmp 21) (.tmp 29) 30 (by rfl) elemInt (by decide) (w.heap.size + 2) _ _ (.int .i64 n) (by rfl) hown.drew (by rfl) rfl (by simp; omega) hsz ?_; intro v1 w1 hown1 hb1)))
        all_goals
          have hB1 := Box.upto (B := w.heap.size + 2) (w := wr.drew) HB2.out hb1 (by omega)
          have hR1 := Box.upto (B := w.heap.size + 2) (w := wr.drew) HR2.out hb1 (by omega)
          have d0 := hB1.cell 0 _ rfl
          have d1 := hB1.cell 1 _ rfl
          have y1 := hB1.frozen 1
          have hbe : Bel w w1 := Bel.upto (Bel.drew hb) hb1 (by omega)
          go_wp2_with fail
          go_roundw
          case rel => exact ⟨k + 1, xs ++ [n], sg, false, by omega, by go_num, hB1.set 1 _, hR1.far (by simp) _, by rw [List.length_append, List.length_singleton]; omega, HF, by rw [List.map_append]; exact hown1.setCell (p := ⟨w.heap.size, 1, none⟩) (by simp) _, hbe.setCell (p := ⟨w.heap.size, 1, none⟩) (by simp) _⟩
          case measure => simp [intOf]; omega
      · -- an escape
        have hu : s.size = k + (u.length + 3) := by
          have := congrArg List.length hct; rw [List.length_drop, ← Lib.size_eq] at this; simp only [List.length_cons] at this; omega
        have hdk3 : s.data.toList.drop (k + 3) = u := by
          have := List.drop_drop (l := s.data.toList) (i := 3) (j := k); rw [hct] at this; simpa using this.symm
        have HF := Lib.hid (show M.toldK last g f s.data.toList = ((xs ++ if fr = true then [(65533 : Int)] else []) ++ (M.toldK last k2 true (s.data.toList.drop (k + 3))).1, (M.toldK last k2 true (s.data.toList.drop (k + 3))).2) by
          rw [HT.out, hct, e, hdk3, List.append_assoc])
        obtain ⟨L, hL⟩ : ∃ L, s.extract k s.size = L := ⟨_, rfl⟩
        have HL := Lib.hid (show L.data.toList = 27 :: 40 :: x :: u by rw [← hL, drop_str, hct])
        have hLs : L.size = u.length + 3 := by rw [Lib.size_eq, HL.out]; rfl
        obtain ⟨j1, l1⟩ := head_at L 1 40 (by rw [HL.out]; rfl)
        obtain ⟨j2, l2⟩ := head_at L 2 x (by rw [HL.out]; rfl)
        have hx := x.toNat_lt
        have hL3 : 3 ≤ L.size := by omega
        have z1 : (L.toList == [27]) = false := by rw [Lib.toList_data, HL.out]; rfl
        have z2 : (L.toList == [27, 40]) = false := by rw [Lib.toList_data, HL.out]; rfl
        have z3 : ¬ L.toList = [27] := by simpa using z1
        have z4 : ¬ L.toList = [27, 40] := by simpa using z2
        rw [esc_at] at hk2
        have hu3 : k + 3 ≤ s.size := by omega
        clear hct hck hdk hh e hdk3 hB hR hLs hu
        by_cases g1 : (66 : Int) = (x.toNat : Int)
        · have e1 : ((x.toNat : Int) == 66) = true := by rw [beq_iff_eq]; omega
          rw [if_pos g1] at hk2
          injection hk2 with hk2
          subst hk2
          clear g1
          cases fr
          · simp only [Bool.false_eq_true, if_false, List.append_nil] at HF
            cases last
            all_goals
              go_wp2_with fail
              go_roundw
              case rel => exact ⟨k + 3, xs, _, true, by omega, by go_num, (HB2.out.set 0 _).set 1 _, (HR2.out.far (by simp) _).far (by simp) _, by omega, HF, (hown.setCell (p := ⟨w.heap.size, 0, none⟩) (by simp) _).setCell (p := ⟨w.heap.size, 1, none⟩) (by simp) _, (hb.setCell (p := ⟨w.heap.size, 0, none⟩) (by simp) _).setCell (p := ⟨w.heap.size, 1, none⟩) (by simp) _⟩
              case measure => simp [intOf]; omega
          · simp only [if_true] at HF
            cases last
            all_goals
              go_wp2_with (first | ((at_builtin; refine wpList_app rfl (.tmp 76) (.tmp 77) 30 rfl elemInt (by decide) (w.heap.size + 2) _ _ _ rfl rfl hown rfl (by simp; omega) (by first | exact Nat.le_refl _ | assumption | (have := hb.size; omega)) ?_; intro v' w1 hown' hb1); have hB1 := Box.upto (B := w.heap.size + 2) HB2.out hb1 (by omega); have hR1 := Box.upto (B := w.heap.size + 2) HR2.out hb1 (by omega); have d0 := hB1.cell 0 _ rfl; have d1 := hB1.cell 1 _ rfl; have y0 := hB1.frozen 0; have y1 := hB1.frozen 1))
              go_roundw
              case rel => exact ⟨k + 3, xs ++ [65533], _, true, by omega, by go_num, (hB1.set 0 _).set 1 _, (hR1.far (by simp) _).far (by simp) _, by rw [List.length_append, List.length_singleton]; omega, HF, by rw [List.map_append]; exact (hown'.setCell (p := ⟨w.heap.size, 0, none⟩) (by simp) _).setCell (p := ⟨w.heap.size, 1, none⟩) (by simp) _, ((Bel.upto hb hb1 (by omega)).setCell (p := ⟨w.heap.size, 0, none⟩) (by simp) _).setCell (p := ⟨w.heap.size, 1, none⟩) (by simp) _⟩
              case measure => simp [intOf]; omega
        · have e1 : ((x.toNat : Int) == 66) = false := by rw [beq_eq_false_iff_ne]; omega
          rw [if_neg g1] at hk2
          by_cases g2 : (74 : Int) = (x.toNat : Int)
          · have e2 : ((x.toNat : Int) == 74) = true := by rw [beq_iff_eq]; omega
            rw [if_pos g2] at hk2
            injection hk2 with hk2
            subst hk2
            clear g1 g2
            cases fr
            · simp only [Bool.false_eq_true, if_false, List.append_nil] at HF
              cases last
              all_goals
                go_wp2_with fail
                go_roundw
                case rel => exact ⟨k + 3, xs, _, true, by omega, by go_num, (HB2.out.set 0 _).set 1 _, (HR2.out.far (by simp) _).far (by simp) _, by omega, HF, (hown.setCell (p := ⟨w.heap.size, 0, none⟩) (by simp) _).setCell (p := ⟨w.heap.size, 1, none⟩) (by simp) _, (hb.setCell (p := ⟨w.heap.size, 0, none⟩) (by simp) _).setCell (p := ⟨w.heap.size, 1, none⟩) (by simp) _⟩
                case measure => simp [intOf]; omega
            · simp only [if_true] at HF
              cases last
              all_goals
                go_wp2_with (first | ((at_builtin; refine wpList_app rfl (.tmp 76) (.tmp 77) 30 rfl elemInt (by decide) (w.heap.size + 2) _ _ _ rfl rfl hown rfl (by simp; omega) (by first | exact Nat.le_refl _ | assumption | (have := hb.size; omega)) ?_; intro v' w1 hown' hb1); have hB1 := Box.upto (B := w.heap.size + 2) HB2.out hb1 (by omega); have hR1 := Box.upto (B := w.heap.size + 2) HR2.out hb1 (by omega); have d0 := hB1.cell 0 _ rfl; have d1 := hB1.cell 1 _ rfl; have y0 := hB1.frozen 0; have y1 := hB1.frozen 1))
                go_roundw
                case rel => exact ⟨k + 3, xs ++ [65533], _, true, by omega, by go_num, (hB1.set 0 _).set 1 _, (hR1.far (by simp) _).far (by simp) _, by rw [List.length_append, List.length_singleton]; omega, HF, by rw [List.map_append]; exact (hown'.setCell (p := ⟨w.heap.size, 0, none⟩) (by simp) _).setCell (p := ⟨w.heap.size, 1, none⟩) (by simp) _, ((Bel.upto hb hb1 (by omega)).setCell (p := ⟨w.heap.size, 0, none⟩) (by simp) _).setCell (p := ⟨w.heap.size, 1, none⟩) (by simp) _⟩
                case measure => simp [intOf]; omega
          · have e2 : ((x.toNat : Int) == 74) = false := by rw [beq_eq_false_iff_ne]; omega
            rw [if_neg g2] at hk2
            by_cases g3 : (73 : Int) = (x.toNat : Int)
            · have e3 : ((x.toNat : Int) == 73) = true := by rw [beq_iff_eq]; omega
              rw [if_pos g3] at hk2
              injection hk2 with hk2
              subst hk2
              clear g1 g2 g3
              cases fr
              · simp only [Bool.false_eq_true, if_false, List.append_nil] at HF
                cases last
                all_goals
                  go_wp2_with fail
                  go_roundw
                  case rel => exact ⟨k + 3, xs, _, true, by omega, by go_num, (HB2.out.set 0 _).set 1 _, (HR2.out.far (by simp) _).far (by simp) _, by omega, HF, (hown.setCell (p := ⟨w.heap.size, 0, none⟩) (by simp) _).setCell (p := ⟨w.heap.size, 1, none⟩) (by simp) _, (hb.setCell (p := ⟨w.heap.size, 0, none⟩) (by simp) _).setCell (p := ⟨w.heap.size, 1, none⟩) (by simp) _⟩
                  case measure => simp [intOf]; omega
              · simp only [if_true] at HF
                cases last
                all_goals
                  go_wp2_with (first | ((at_builtin; refine wpList_app rfl (.tmp 76) (.tmp 77) 30 rfl elemInt (by decide) (w.heap.size + 2) _ _ _ rfl rfl hown rfl (by simp; omega) (by first | exact Nat.le_refl _ | assumption | (have := hb.size; omega)) ?_; intro v' w1 hown' hb1); have hB1 := Box.upto (B := w.heap.size + 2) HB2.out hb1 (by omega); have hR1 := Box.upto (B := w.heap.size + 2) HR2.out hb1 (by omega); have d0 := hB1.cell 0 _ rfl; have d1 := hB1.cell 1 _ rfl; have y0 := hB1.frozen 0; have y1 := hB1.frozen 1))
                  go_roundw
                  case rel => exact ⟨k + 3, xs ++ [65533], _, true, by omega, by go_num, (hB1.set 0 _).set 1 _, (hR1.far (by simp) _).far (by simp) _, by rw [List.length_append, List.length_singleton]; omega, HF, by rw [List.map_append]; exact (hown'.setCell (p := ⟨w.heap.size, 0, none⟩) (by simp) _).setCell (p := ⟨w.heap.size, 1, none⟩) (by simp) _, ((Bel.upto hb hb1 (by omega)).setCell (p := ⟨w.heap.size, 0, none⟩) (by simp) _).setCell (p := ⟨w.heap.size, 1, none⟩) (by simp) _⟩
                  case measure => simp [intOf]; omega
            · rw [if_neg g3] at hk2; cases hk2
      · -- more must come
        have HF := Lib.hid (show M.toldK false g f s.data.toList = (xs, sg, fr, 27 :: t) by
          rw [HT.out, hct, e]; simp)
        obtain ⟨L, hL⟩ : ∃ L, s.extract k s.size = L := ⟨_, rfl⟩
        have HL := Lib.hid (show L.data.toList = 27 :: t by rw [← hL, drop_str, hct])
        have z : ((L.toList == [27]) || (L.toList == [27, 40])) = true := by
          rw [Lib.toList_data, HL.out]
          simp only [M.waitK, decide_eq_true_eq] at hw
          rcases hw with rfl | rfl <;> rfl
        have z0 : (L.toList == [27]) = true ∨ (L.toList == [27, 40]) = true := by simpa using z
        clear hct hck hdk hw hh e hB hR z
        rcases z0 with z1 | z1
        all_goals
          have z3 := z1
          rw [beq_iff_eq] at z3
          try have z2 : (L.toList == [27]) = false := by rw [z3]; rfl
          go_wp2_with fail
          go_region
          go_wp2_with fail
          have d0 : ((wr.setCell ⟨w.heap.size + 1, 0, none⟩ (.int .i64 sg)).setCell ⟨w.heap.size + 1, 1, none⟩ (.bool fr)).drew.cell? ⟨w.heap.size + 1, 0, none⟩ = some (.int .i64 sg) := ((HR2.out.set 0 _).set 1 _).cell 0 _ rfl
          have d1 : ((wr.setCell ⟨w.heap.size + 1, 0, none⟩ (.int .i64 sg)).setCell ⟨w.heap.size + 1, 1, none⟩ (.bool fr)).drew.cell? ⟨w.heap.size + 1, 1, none⟩ = some (.bool fr) := ((HR2.out.set 0 _).set 1 _).cell 1 _ rfl
          refine bodyPost_ret (v := .tuple #[u9, .agg #[.int .i64 sg, .bool fr], .string L]) (by simp [results, Tryz.results129, go_sem, d0, d1]) rfl ?_
          rw [HF.out]
          exact ⟨_, by rw [← HL.out, str_eq], (((hown.setCell (p := ⟨w.heap.size + 1, 0, none⟩) (by simp) _).setCell (p := ⟨w.heap.size + 1, 1, none⟩) (by simp) _).mono (by omega)).drew, ((hb.setCell (p := ⟨w.heap.size + 1, 0, none⟩) (by simp) _).setCell (p := ⟨w.heap.size + 1, 1, none⟩) (by simp) _).drew⟩
      · -- no escape
        have hu : s.size = k + (t.length + 1) := by
          have := congrArg List.length hct; rw [List.length_drop, ← Lib.size_eq] at this; simp only [List.length_cons] at this; omega
        have HF := Lib.hid (show M.toldK last g f s.data.toList = ((xs ++ [65533]) ++ (M.toldK last sg false (s.data.toList.drop (k + 1))).1, (M.toldK last sg false (s.data.toList.drop (k + 1))).2) by
          rw [HT.out, hct, e, hdk]; simp)
        obtain ⟨L, hL⟩ : ∃ L, s.extract k s.size = L := ⟨_, rfl⟩
        have HL := Lib.hid (show L.data.toList = 27 :: t by rw [← hL, drop_str, hct])
        have hLs : L.size = t.length + 1 := by rw [Lib.size_eq, HL.out]; rfl
        have z0 : last = true ∨ ((L.toList == [27]) = false ∧ (L.toList == [27, 40]) = false) := by
          rcases hw with hw | hw
          · right
            rw [Lib.toList_data, HL.out]
            simp only [M.waitK, decide_eq_false_iff_not, not_or] at hw
            constructor
            · rw [beq_eq_false_iff_ne]; intro h9; injection h9 with _ h9; exact hw.1 h9
            · rw [beq_eq_false_iff_ne]; intro h9; injection h9 with _ h9; exact hw.2 h9
          · exact .inl hw
        by_cases hl3 : L.size < 3
        · clear hct hck hdk hw hh e hB hR hLs hu
          cases last
          · rcases z0 with z0 | ⟨z1, z2⟩
            · cases z0
            · have z3 : ¬ L.toList = [27] := by simpa using z1
              have z4 : ¬ L.toList = [27, 40] := by simpa using z2
              go_wp2_with (first | ((at_builtin; refine wpList_app rfl (.tmp 68) (.tmp 69) 30 rfl elemInt (by decide) (w.heap.size + 2) _ _ _ rfl rfl hown rfl (by simp; omega) (by first | exact Nat.le_refl _ | assumption | (have := hb.size; omega)) ?_; intro v' w1 hown' hb1); have hB1 := Box.upto (B := w.heap.size + 2) HB2.out hb1 (by omega); have hR1 := Box.upto (B := w.heap.size + 2) HR2.out hb1 (by omega); have d0 := hB1.cell 0 _ rfl; have d1 := hB1.cell 1 _ rfl; have y0 := hB1.frozen 0; have y1 := hB1.frozen 1))
              go_roundw
              case rel => exact ⟨k + 1, xs ++ [65533], sg, false, by omega, by go_num, hB1.set 1 _, hR1.far (by simp) _, by rw [List.length_append, List.length_singleton]; omega, HF, by rw [List.map_append]; exact hown'.setCell (p := ⟨w.heap.size, 1, none⟩) (by simp) _, (Bel.upto hb hb1 (by omega)).setCell (p := ⟨w.heap.size, 1, none⟩) (by simp) _⟩
              case measure => simp [intOf]; omega
          · clear z0
            go_wp2_with (first | ((at_builtin; refine wpList_app rfl (.tmp 68) (.tmp 69) 30 rfl elemInt (by decide) (w.heap.size + 2) _ _ _ rfl rfl hown rfl (by simp; omega) (by first | exact Nat.le_refl _ | assumption | (have := hb.size; omega)) ?_; intro v' w1 hown' hb1); have hB1 := Box.upto (B := w.heap.size + 2) HB2.out hb1 (by omega); have hR1 := Box.upto (B := w.heap.size + 2) HR2.out hb1 (by omega); have d0 := hB1.cell 0 _ rfl; have d1 := hB1.cell 1 _ rfl; have y0 := hB1.frozen 0; have y1 := hB1.frozen 1))
            go_roundw
            case rel => exact ⟨k + 1, xs ++ [65533], sg, false, by omega, by go_num, hB1.set 1 _, hR1.far (by simp) _, by rw [List.length_append, List.length_singleton]; omega, HF, by rw [List.map_append]; exact hown'.setCell (p := ⟨w.heap.size, 1, none⟩) (by simp) _, (Bel.upto hb hb1 (by omega)).setCell (p := ⟨w.heap.size, 1, none⟩) (by simp) _⟩
            case measure => simp [intOf]; omega
        · obtain ⟨d, x, u, rfl⟩ : ∃ d x u, t = d :: x :: u := by
            match t with
            | [] => simp at hLs; omega
            | [d] => simp at hLs; omega
            | d :: x :: u => exact ⟨d, x, u, rfl⟩
          obtain ⟨j1, l1⟩ := head_at L 1 d (by rw [HL.out]; rfl)
          obtain ⟨j2, l2⟩ := head_at L 2 x (by rw [HL.out]; rfl)
          have hL3 : 3 ≤ L.size := by omega
          have hx := x.toNat_lt
          by_cases hd : d = 40
          · subst hd
            rw [M.headK, if_pos rfl, esc_at] at hh
            have g1 : ¬ (66 : Int) = (x.toNat : Int) := fun h9 => by rw [if_pos h9] at hh; cases hh
            have g2 : ¬ (74 : Int) = (x.toNat : Int) := fun h9 => by rw [if_neg g1, if_pos h9] at hh; cases hh
            have g3 : ¬ (73 : Int) = (x.toNat : Int) := fun h9 => by rw [if_neg g1, if_neg g2, if_pos h9] at hh; cases hh
            have e1 : ((x.toNat : Int) == 66) = false := by rw [beq_eq_false_iff_ne]; omega
            have e2 : ((x.toNat : Int) == 74) = false := by rw [beq_eq_false_iff_ne]; omega
            have e3 : ((x.toNat : Int) == 73) = false := by rw [beq_eq_false_iff_ne]; omega
            clear hct hck hdk hw hh e hB hR hLs hu hl3 g1 g2 g3
            cases last
            · rcases z0 with z0 | ⟨z1, z2⟩
              · cases z0
              · have z3 : ¬ L.toList = [27] := by simpa using z1
                have z4 : ¬ L.toList = [27, 40] := by simpa using z2
                go_wp2_with (first | ((at_builtin; refine wpList_app rfl (.tmp 68) (.tmp 69) 30 rfl elemInt (by decide) (w.heap.size + 2) _ _ _ rfl rfl hown rfl (by simp; omega) (by first | exact Nat.le_refl _ | assumption | (have := hb.size; omega)) ?_; intro v' w1 hown' hb1); have hB1 := Box.upto (B := w.heap.size + 2) HB2.out hb1 (by omega); have hR1 := Box.upto (B := w.heap.size + 2) HR2.out hb1 (by omega); have d0 := hB1.cell 0 _ rfl; have d1 := hB1.cell 1 _ rfl; have y0 := hB1.frozen 0; have y1 := hB1.frozen 1))
                go_roundw
                case rel => exact ⟨k + 1, xs ++ [65533], sg, false, by omega, by go_num, hB1.set 1 _, hR1.far (by simp) _, by rw [List.length_append, List.length_singleton]; omega, HF, by rw [List.map_append]; exact hown'.setCell (p := ⟨w.heap.size, 1, none⟩) (by simp) _, (Bel.upto hb hb1 (by omega)).setCell (p := ⟨w.heap.size, 1, none⟩) (by simp) _⟩
                case measure => simp [intOf]; omega
            · clear z0
              go_wp2_with (first | ((at_builtin; refine wpList_app rfl (.tmp 68) (.tmp 69) 30 rfl elemInt (by decide) (w.heap.size + 2) _ _ _ rfl rfl hown rfl (by simp; omega) (by first | exact Nat.le_refl _ | assumption | (have := hb.size; omega)) ?_; intro v' w1 hown' hb1); have hB1 := Box.upto (B := w.heap.size + 2) HB2.out hb1 (by omega); have hR1 := Box.upto (B := w.heap.size + 2) HR2.out hb1 (by omega); have d0 := hB1.cell 0 _ rfl; have d1 := hB1.cell 1 _ rfl; have y0 := hB1.frozen 0; have y1 := hB1.frozen 1))
              go_roundw
              case rel => exact ⟨k + 1, xs ++ [65533], sg, false, by omega, by go_num, hB1.set 1 _, hR1.far (by simp) _, by rw [List.length_append, List.length_singleton]; omega, HF, by rw [List.map_append]; exact hown'.setCell (p := ⟨w.heap.size, 1, none⟩) (by simp) _, (Bel.upto hb hb1 (by omega)).setCell (p := ⟨w.heap.size, 1, none⟩) (by simp) _⟩
              case measure => simp [intOf]; omega
          · have e1 : ((d.toNat : Int) == 40) = false := by
              rw [beq_eq_false_iff_ne]; intro h9; apply hd; apply UInt8.toNat_inj.1; show d.toNat = 40; omega
            clear hct hck hdk hw hh e hB hR hLs hu hl3 hd
            cases last
            · rcases z0 with z0 | ⟨z1, z2⟩
              · cases z0
              · have z3 : ¬ L.toList = [27] := by simpa using z1
                have z4 : ¬ L.toList = [27, 40] := by simpa using z2
                go_wp2_with (first | ((at_builtin; refine wpList_app rfl (.tmp 68) (.tmp 69) 30 rfl elemInt (by decide) (w.heap.size + 2) _ _ _ rfl rfl hown rfl (by simp; omega) (by first | exact Nat.le_refl _ | assumption | (have := hb.size; omega)) ?_; intro v' w1 hown' hb1); have hB1 := Box.upto (B := w.heap.size + 2) HB2.out hb1 (by omega); have hR1 := Box.upto (B := w.heap.size + 2) HR2.out hb1 (by omega); have d0 := hB1.cell 0 _ rfl; have d1 := hB1.cell 1 _ rfl; have y0 := hB1.frozen 0; have y1 := hB1.frozen 1))
                go_roundw
                case rel => exact ⟨k + 1, xs ++ [65533], sg, false, by omega, by go_num, hB1.set 1 _, hR1.far (by simp) _, by rw [List.length_append, List.length_singleton]; omega, HF, by rw [List.map_append]; exact hown'.setCell (p := ⟨w.heap.size, 1, none⟩) (by simp) _, (Bel.upto hb hb1 (by omega)).setCell (p := ⟨w.heap.size, 1, none⟩) (by simp) _⟩
                case measure => simp [intOf]; omega
            · clear z0
              go_wp2_with (first | ((at_builtin; refine wpList_app rfl (.tmp 68) (.tmp 69) 30 rfl elemInt (by decide) (w.heap.size + 2) _ _ _ rfl rfl hown rfl (by simp; omega) (by first | exact Nat.le_refl _ | assumption | (have := hb.size; omega)) ?_; intro v' w1 hown' hb1); have hB1 := Box.upto (B := w.heap.size + 2) HB2.out hb1 (by omega); have hR1 := Box.upto (B := w.heap.size + 2) HR2.out hb1 (by omega); have d0 := hB1.cell 0 _ rfl; have d1 := hB1.cell 1 _ rfl; have y0 := hB1.frozen 0; have y1 := hB1.frozen 1))
              go_roundw
              case rel => exact ⟨k + 1, xs ++ [65533], sg, false, by omega, by go_num, hB1.set 1 _, hR1.far (by simp) _, by rw [List.length_append, List.length_singleton]; omega, HF, by rw [List.map_append]; exact hown'.setCell (p := ⟨w.heap.size, 1, none⟩) (by simp) _, (Bel.upto hb hb1 (by omega)).setCell (p := ⟨w.heap.size, 1, none⟩) (by simp) _⟩
              case measure => simp [intOf]; omega
    · obtain rfl : k = s.size := by omega
      have HF := Lib.hid (show M.toldK last g f s.data.toList = (xs, sg, fr, []) by
        rw [HT.out, List.drop_of_length_le (by rw [← Lib.size_eq]; exact Nat.le_refl _), M.toldK_nil]; simp)
      clear hB hR
      go_wp2_with fail
      go_region
      go_wp2_with fail
      have d0 : ((wr.setCell ⟨w.heap.size + 1, 0, none⟩ (.int .i64 sg)).setCell ⟨w.heap.size + 1, 1, none⟩ (.bool fr)).drew.cell? ⟨w.heap.size + 1, 0, none⟩ = some (.int .i64 sg) := ((HR2.out.set 0 _).set 1 _).cell 0 _ rfl
      have d1 : ((wr.setCell ⟨w.heap.size + 1, 0, none⟩ (.int .i64 sg)).setCell ⟨w.heap.size + 1, 1, none⟩ (.bool fr)).drew.cell? ⟨w.heap.size + 1, 1, none⟩ = some (.bool fr) := ((HR2.out.set 0 _).set 1 _).cell 1 _ rfl
      refine bodyPost_ret (v := .tuple #[u9, .agg #[.int .i64 sg, .bool fr], .string ⟨#[]⟩]) (by simp [results, Tryz.results129, go_sem, d0, d1]) rfl ?_
      rw [HF.out]
      exact ⟨_, rfl, (((hown.setCell (p := ⟨w.heap.size + 1, 0, none⟩) (by simp) _).setCell (p := ⟨w.heap.size + 1, 1, none⟩) (by simp) _).mono (by omega)).drew, ((hb.setCell (p := ⟨w.heap.size + 1, 0, none⟩) (by simp) _).setCell (p := ⟨w.heap.size + 1, 1, none⟩) (by simp) _).drew⟩
end Go.Proofs.YteingkjdemlhgaaGreatDoor

/-
  Package single: what Raw and Encode compute: the map from code points to bytes.
-/
namespace Go.Proofs.YteingkjdemlhgaaGreatDoor
open Go.RowKit Go.Maps
theorem lawInt : Keyed Tryz.prog 3 := int_keyed Tryz.underlying3
theorem zeroInt (w : World) : (zeroValue 3).run Tryz.prog w = .ok (.int .i64 0) w := by kernel_rfl
theorem ownsMap_keep {w w' : World} {b n : Nat} {D : DataW Unit} (h : w.ownsMap Tryz.prog 3 (plainElem Tryz.prog 3) b n D) (hk : w'.heap[b]? = w.heap[b]?) : w'.ownsMap Tryz.prog 3 (plainElem Tryz.prog 3) b n D := by
  obtain ⟨es, c, h1, h2⟩ := h
  exact ⟨es, c, hk.trans h1, h2⟩
theorem pointOf_bounds (user : Bool) (k : Nat) (hk : k < 256) : 0 ≤ M.pointOf user k ∧ M.pointOf user k ≤ 65535 := by
  unfold M.pointOf
  split
  · omega
  · split
    · omega
    · split
      · have : ∀ j, j < 32 → 0 ≤ M.high[j]?.getD 0 ∧ M.high[j]?.getD 0 ≤ 65535 := by decide
        exact this _ (by omega)
      · omega
theorem cells_bel {w w' : World} {a : Option Addr} {xs : List Int} (h : ∀ x, a = some x → ∀ i n, xs[i]? = some n → w.cell? (x.add i) = some (.int .i64 n)) (hb : Bel w w') : ∀ x, a = some x → ∀ i n, xs[i]? = some n → w'.cell? (x.add i) = some (.int .i64 n) := by
  intro x hx i n hn
  have := h x hx i n hn
  exact (hb.cell (World.block_lt_of_cell? w _ this)).trans this
theorem grown_trans {a b c : World} {row : Option Nat} (h : a.grownBy b row) (k : b.grownBy c row) : a.grownBy c row :=
  ⟨k.os.trans h.os, k.tape.trans h.tape, k.output.trans h.output, Nat.le_trans h.size k.size, fun i hi hne => (k.block i (Nat.lt_of_lt_of_le hi h.size) hne).trans (h.block i hi hne)⟩
/-- 'v, ok := m[k]' where both are known. -/
theorem wpList_look {P : Program} {w : World} {ops : Array Oper} {rest : List Oper} {o : Oper} {a : Act} {Q : Exit → Act → World → Prop} (hg : o.guard = none) (m x : Operand) (t : TypeId) (hop : o.op = Op.lookup t m x true)
    (k e : TypeId) (K : Keyed P k) (ht : P.underlying t = some (.map k e)) (he : P.underlying e = some (.int .i64)) (hz : (zeroValue e).run P w = .ok (.int .i64 0) w) (b n : Nat) (D : DataW Unit)
    (hm : a.eval m = .map (some b)) (hown : w.ownsMap P k (plainElem P e) b n D) (key : Value) (kl : Lit) (hx : a.eval x = key) (hkey : keyOf P k key = some kl)
    (c0 : Int) (hc : D.atKey kl (.lit (.int .i64 0)) = .lit (.int .i64 c0)) (bo : Bool) (hb : Maps.has D kl = bo)
    (h : wpList P ops Q rest (a.put o.dst (.tuple #[.int .i64 c0, .bool bo])) w) : wpList P ops Q (o :: rest) a w := by
  refine wpList_lookup_own_ok_int w hg m x t hop k e .i64 K ht he hz b n D hm hown key kl hx hkey (fun c hat _ => ?_)
  rw [hc] at hat
  injection hat with hat
  injection hat with _ hat
  rw [← hat, hb]
  exact h
set_option maxRecDepth 100000 in
theorem raw_any (user : Bool) (v : Value) (xs : List Int) (w : World) (hv : IntSl w v xs) (hlen : xs.length ≤ 1000000) (hbd : ∀ n ∈ xs, -9223372036854775808 ≤ n ∧ n ≤ 9223372036854775807) :
    Calls Tryz.prog 89 #[.bool user, v] w fun e w' => e = .returned (.tuple #[.string ⟨(M.rawS user xs).1.toArray⟩, .int .i64 (M.rawS user xs).2]) ∧ Bel w w' := by
  obtain ⟨a, ca, rfl, hc1, hc2, hn, hx⟩ := hv
  unfold maxLen at hc2
  have hmm := @run_makeMap Tryz.prog
  go_enter Tryz.func89, Tryz.ntmps89
  go_wp2_with (go_at_call 132; refine (table_row _ _).mono ?_; rintro e w' ⟨g, c, rfl, hc3, hc4, hg0, hg, hcell, hi, hb⟩; clear hi)
  have hb0 : Bel (w.alloc (.map #[] 0)) w' := by assumption
  have hmg : w.heap.size < w'.heap.size := hb0.lt (by simp)
  have hbw : Bel w w' := ((Bel.refl w).alloc _).trans hb0
  have hne : g ≠ w.heap.size := by
    have : w.heap.size + 1 ≤ g := by simpa using hg0
    omega
  go_loopw [18] (fun i wr => ∃ k : Nat, k ≤ 256 ∧ i = .int .i64 k ∧ wr.ownsMap Tryz.prog 3 (plainElem Tryz.prog 3) w.heap.size k (M.Dk user k) ∧ w'.grownBy wr (some w.heap.size)) (fun i _ => 256 - (intOf i).toNat)
  case atStart => 
    refine ⟨0, by omega, rfl, ?_, World.grownBy.refl _ _⟩
    exact ownsMap_keep (World.ownsMap_made _ _ _ _) (hb0.block _ (by simp))
  case round => 
    obtain ⟨k, hk, rfl, hown, hgr⟩ := hrel
    by_cases hlt : k < 256
    · have hp := pointOf_bounds user k hlt
      have hck : wr.cell? ⟨g, k, none⟩ = some (.int .i64 (M.pointOf user k)) := hgr.cell (hcell k hlt) (by intro e; injection e with e; exact hne e)
      have hkey : keyOf Tryz.prog 3 (.int .i64 (M.pointOf user k)) = some (.int .i64 (M.pointOf user k)) := keyOf_int_mk Tryz.underlying3 (WalkArith.wf_i64 (by omega))
      have hval : plainElem (H := Unit) Tryz.prog 3 (.int .i64 (k : Int)) = some (.lit (.int .i64 (k : Int)), []) := plainElem_int Tryz.underlying3 (WalkArith.wf_i64 (by omega))
      clear hcell hx hn
      go_wp2_with (first | (at_mapUpdate; refine wpList_mapUpdate_own _ rfl _ _ _ 157 rfl 3 3 lawInt Tryz.underlying157 _ w.heap.size k _ rfl hown (by unfold maxLen; omega) _ _ _ rfl rfl hkey _ [] hval ?_; intro w1 hown1 hgrow1))
      go_roundw
      case rel => exact ⟨k + 1, by omega, by go_num, hown1, grown_trans hgr hgrow1⟩
      case measure => simp [intOf]; omega
    · obtain rfl : k = 256 := by omega
      have hbr : Bel w wr := hbw.upto ((Below.refl w.heap.size w').grown hgr hbw.size (fun j hj => by cases hj; exact Nat.le_refl _)) (Nat.le_refl _)
      have hmr : w.heap.size < wr.heap.size := Nat.lt_of_lt_of_le hmg hgr.size
      have hx2 := cells_bel hx hbr
      clear hcell hx
      obtain ⟨wm, rfl⟩ : ∃ wo : World, wo = wr := ⟨_, rfl⟩
      go_wp2_with fail
      go_loopw [9, 29] (fun v i wr => ∃ k : Nat, k ≤ xs.length ∧ i = .int .i64 k ∧ ∃ l, Hid (M.encodeS user (xs.take k) = some l) ∧ l.length ≤ k ∧ Own wm.heap.size 5 wr v (l.map byteVal) ∧ Below wm.heap.size wm wr) (fun _ i _ => xs.length - (intOf i).toNat)
      case atStart => exact ⟨0, by omega, rfl, [], Lib.hid rfl, by simp, Own.nil _ _ _, Below.refl _ _⟩
      case round =>
        obtain ⟨k, hk, rfl, l, HL, hl, hownl, hbl⟩ := hrel
        by_cases hlt : k < xs.length
        · obtain ⟨n, hn1⟩ : ∃ n, xs[k]? = some n := ⟨_, List.getElem?_eq_getElem hlt⟩
          cases a with
          | none => rw [hn rfl] at hlt; simp at hlt
          | some x =>
            have hcx : wm.cell? (x.add k) = some (.int .i64 n) := hx2 x rfl k n hn1
            have hcell : wr.cell? (x.add k) = some (.int .i64 n) := (hbl.cell (World.block_lt_of_cell? wm _ hcx)).trans hcx
            have hwn := hbd n (List.mem_of_getElem? hn1)
            have hkey : keyOf Tryz.prog 3 (.int .i64 n) = some (.int .i64 n) := keyOf_int_mk Tryz.underlying3 (WalkArith.wf_i64 (by omega))
            have hownM := ownsMap_keep hown (hbl.block _ hmr)
            rcases M.byteOf_cases user n with ⟨hb1, hno⟩ | ⟨j, hj, hb1, hpj⟩
            · have hhas : Maps.has (M.Dk user 256) (.int .i64 n) = false := M.Dk_miss user n 256 hno
              have HR := Lib.hid (show M.rawS user xs = ([], 5) by rw [M.rawS, M.encodeS_miss user xs k n hn1 hb1])
              have Hhas := Lib.hid hhas
              have Hat := Lib.hid (Maps.atKey_of_not_has hhas (.lit (.int .i64 0)))
              clear hx2 hn hno hbd hn1 hb1 hcx hhas
              go_wp2_with (first | (at_lookup; refine wpList_look rfl _ _ 157 rfl 3 3 lawInt Tryz.underlying157 Tryz.underlying3 (zeroInt _) w.heap.size 256 _ rfl hownM _ _ rfl hkey 0 Hat.out false Hhas.out ?_))
              go_ret2
              rw [HR.out]
              exact ⟨rfl, hbr.upto hbl hbr.size⟩
            · obtain ⟨hhas, hat0⟩ := M.Dk_hit user n j hpj 256 (Nat.le_refl _) hj
              have HV := Lib.hid (show [UInt8.ofNat j].map byteVal = [.int .u8 (j : Int)] by simp [byteVal]; omega)
              have hB : wm.heap.size ≤ wr.heap.size := hbl.size
              have HE := Lib.hid (M.encodeS_hit user xs k n j l hn1 hb1 HL.out)
              have Hhas := Lib.hid hhas
              have Hat := Lib.hid (hat0 (.lit (.int .i64 0)))
              clear hx2 hn hbd hn1 hb1 hcx hpj hhas hat0
              go_wp2_with (first | (at_lookup; refine wpList_look rfl _ _ 157 rfl 3 3 lawInt Tryz.underlying157 Tryz.underlying3 (zeroInt _) w.heap.size 256 _ rfl hownM _ _ rfl hkey (j : Int) Hat.out true Hhas.out ?_) | (at_builtin; refine wpList_app rfl (.tmp 41) (.tmp 44) 120 rfl elemByte (by decide) wm.heap.size _ _ _ rfl rfl hownl rfl (by simp; omega) (by first | exact Nat.le_refl _ | assumption | (have := hb.size; omega)) ?_; intro v' w1 hown' hb1))
              go_roundw
              case rel =>
                have HO : Own wm.heap.size 5 w1 v' ((l ++ [UInt8.ofNat j]).map byteVal) := by rw [List.map_append, HV.out]; exact hown'
                first | exact ⟨k + 1, by omega, by go_num, _, HE, by simp; omega, HO, hbl.trans hb1⟩ | ((repeat apply Exists.intro); exact ⟨⟨k + 1, by omega, by go_num, _, HE, by simp; omega, HO, hbl.trans hb1⟩, rfl⟩)
              case measure => simp [intOf]; omega
        · obtain rfl : k = xs.length := by omega
          have HR := Lib.hid (show M.rawS user xs = (l, 0) by rw [M.rawS, ← List.take_length (l := xs), HL.out])
          go_wp2_with (first | ((with_reducible show wpList _ _ _ _ _ _); refine wpList_toString rfl (.tmp 47) _ _ 5 rfl Tryz.underlying120 Tryz.underlying5 Tryz.underlying9 wm.heap.size _ l rfl hownl ?_))
          go_ret2
          rw [HR.out]
          exact ⟨rfl, hbr.upto hbl hbr.size⟩
end Go.Proofs.YteingkjdemlhgaaGreatDoor

/-
  The document's answers on encodings of a byte a sign.
-/
namespace Go.Proofs.YteingkjdemlhgaaGreatDoor
open Go.RowKit
set_option maxRecDepth 100000 in
theorem pointOf_any (user : Bool) (n : Int) (w : World) (h0 : 0 ≤ n) (h1 : n < 256) : Calls Tryz.prog 115 #[.bool user, .int .i64 n] w fun e w' => e = .returned (.int .i64 (M.pointOf user n.toNat)) ∧ Bel w w' := by
  obtain ⟨k, rfl⟩ := Int.eq_ofNat_of_zero_le h0
  rw [Int.toNat_natCast]
  have hk : k < 256 := by omega
  by_cases g1 : k < 128
  · have HP := Lib.hid (show M.pointOf user k = (k : Int) by rw [M.pointOf, if_pos g1])
    go_enter Tryz.func115, Tryz.ntmps115
    go_wp2_with fail
    go_ret
    rw [HP.out]
    exact ⟨rfl, Bel.refl _⟩
  · cases user
    · by_cases g2 : k < 160
      · have HP := Lib.hid (show M.pointOf false k = M.high[k - 128]?.getD 0 by rw [M.pointOf, if_neg g1, if_neg (by simp), if_pos g2])
        go_enter Tryz.func115, Tryz.ntmps115
        go_wp2_with (first | (go_at_call 149; refine (high_any _).mono ?_; rintro e w' ⟨rfl, hc, hb2⟩; have hc' := hc (k - 128) (by omega)))
        go_ret
        rw [HP.out]
        exact ⟨rfl, by assumption⟩
      · have HP := Lib.hid (show M.pointOf false k = (k : Int) by rw [M.pointOf, if_neg g1, if_neg (by simp), if_neg g2])
        go_enter Tryz.func115, Tryz.ntmps115
        go_wp2_with fail
        go_ret
        rw [HP.out]
        exact ⟨rfl, Bel.refl _⟩
    · have HP := Lib.hid (show M.pointOf true k = 63232 + (k : Int) by rw [M.pointOf, if_neg g1, if_pos rfl])
      go_enter Tryz.func115, Tryz.ntmps115
      go_wp2_with fail
      go_ret
      rw [HP.out]
      exact ⟨rfl, Bel.refl _⟩
set_option maxRecDepth 100000 in
theorem byteOf_any (user : Bool) (n : Int) (w : World) : Calls Tryz.prog 77 #[.bool user, .int .i64 n] w fun e w' => e = .returned (.int .i64 (M.byteOf user n)) ∧ Bel w w' := by
  go_enter Tryz.func77, Tryz.ntmps77
  go_wp2_with fail
  go_loopw [5] (fun i wr => ∃ k : Nat, k ≤ 256 ∧ i = .int .i64 k ∧ Hid (∀ j, j < k → M.pointOf user j ≠ n) ∧ Bel w wr) (fun i _ => 256 - (intOf i).toNat)
  case atStart => exact ⟨0, by omega, rfl, Lib.hid (fun j hj => by omega), Bel.refl _⟩
  case round =>
    obtain ⟨k, hk, rfl, hno, hb⟩ := hrel
    by_cases hlt : k < 256
    · by_cases he : M.pointOf user k = n
      · have he2 : (M.pointOf user k == n) = true := by simpa using he
        have HF := Lib.hid (show M.byteOf user n = (k : Int) from M.idx_found _ _ k (by rw [table_at user k hlt, he]) (fun j hj hh => by
          rw [table_at user j (by omega)] at hh; injection hh with hh; exact hno.out j hj hh))
        clear he
        go_wp2_with (go_at_call 115; refine (pointOf_any _ _ _ (by omega) (by omega)).mono ?_; rintro e w' ⟨rfl, hb2⟩; rw [Int.toNat_natCast])
        go_ret
        rw [HF.out]
        exact ⟨rfl, (by repeat (first | exact Bel.refl _ | refine Bel.drewN ?_ _ | refine Bel.drew ?_ | refine Bel.alloc ?_ _ | refine Bel.trans ?_ (by assumption) | refine Bel.setCell ?_ (by simp; omega) _))⟩
      · have he2 : (M.pointOf user k == n) = false := by simpa using he
        have HF := Lib.hid (show ∀ j, j < k + 1 → M.pointOf user j ≠ n from fun j hj hh => by
          by_cases hjk : j < k
          · exact hno.out j hjk hh
          · obtain rfl : j = k := by omega
            exact he hh)
        clear he
        go_wp2_with (go_at_call 115; refine (pointOf_any _ _ _ (by omega) (by omega)).mono ?_; rintro e w' ⟨rfl, hb2⟩; rw [Int.toNat_natCast])
        go_roundw
        case rel => exact ⟨k + 1, by omega, by go_num, HF, hb.trans (by assumption)⟩
        case measure => simp [intOf]; omega
    · obtain rfl : k = 256 := by omega
      have HF := Lib.hid (show M.byteOf user n = -1 from M.idx_none _ _ (fun j hj hh => by
        rw [table_len] at hj
        rw [table_at user j hj] at hh; injection hh with hh; exact hno.out j hj hh))
      go_wp2_with fail
      go_ret
      rw [HF.out]
      exact ⟨rfl, hb⟩
set_option maxRecDepth 100000 in
theorem decodeSingle_any (user : Bool) (s : ByteArray) (w : World) (hs : s.size ≤ 68719476735) : Calls Tryz.prog 128 #[.bool user, .string s] w fun e w' => ∃ v, e = .returned v ∧ Own w.heap.size 3 w' v ((M.decodeS user s.data.toList).map (Value.int .i64)) ∧ Bel w w' := by
  go_enter Tryz.func128, Tryz.ntmps128
  go_wp2_with fail
  go_loopw [5, 6] (fun v i wr => ∃ k : Nat, k ≤ s.size ∧ i = .int .i64 k ∧ Own w.heap.size 3 wr v (((M.decodeS user s.data.toList).take k).map (Value.int .i64)) ∧ Bel w wr) (fun _ i _ => s.size - (intOf i).toNat)
  case atStart => exact ⟨0, by omega, rfl, Own.nil _ _ _, Bel.refl _⟩
  case round =>
    obtain ⟨k, hk, rfl, hown, hb⟩ := hrel
    by_cases hlt : k < s.size
    · have HT := Lib.hid (take_snoc (Value.int .i64) (M.decodeS user s.data.toList) k (M.pointOf user s[k].toNat) (by rw [M.decodeS, List.getElem?_map, byte_at s k hlt]; rfl))
      have hlen : ((M.decodeS user s.data.toList).take k).length ≤ k := List.length_take_le _ _
      have hcl : s[k].toNat < 256 := s[k].toNat_lt
      go_wp2_with (first | (go_at_call 115; refine (pointOf_any _ _ _ (by omega) (by omega)).mono ?_; rintro e w' ⟨rfl, hb2⟩; rw [Int.toNat_natCast]; have hown2 := hown.bel hb2; have hb3 : Bel w _ := hb.trans hb2; have hB := hb3.size) | (at_builtin; refine wpList_app rfl (.tmp 13) (.tmp 20) 30 rfl elemInt (by decide) w.heap.size _ _ _ rfl rfl hown2 rfl (by simp; omega) (by first | exact Nat.le_refl _ | assumption | (have := hb.size; omega)) ?_; intro v' w1 hown' hb1))
      go_roundw
      case rel =>
        have HO : Own w.heap.size 3 w1 v' (((M.decodeS user s.data.toList).take (k + 1)).map (Value.int .i64)) := by rw [HT.out]; exact hown'
        have HB : Bel w w1 := hb3.upto hb1 (Nat.le_refl _)
        first | exact ⟨k + 1, by omega, by go_num, HO, HB⟩ | ((repeat apply Exists.intro); exact ⟨⟨k + 1, by omega, by go_num, HO, HB⟩, rfl⟩)
      case measure => simp [intOf]; omega
    · obtain rfl : k = s.size := by omega
      have HT := Lib.hid (show (M.decodeS user s.data.toList).take s.size = M.decodeS user s.data.toList by rw [List.take_of_length_le (by rw [M.decodeS, List.length_map, ← Lib.size_eq]; exact Nat.le_refl _)])
      go_wp2_with fail
      go_ret
      exact ⟨_, rfl, by rw [← HT.out]; exact hown, hb⟩
set_option maxRecDepth 100000 in
theorem encodeSingle_any (user : Bool) (v : Value) (xs : List Int) (w : World) (hv : IntSl w v xs) (hlen : xs.length ≤ 1000000) :
    Calls Tryz.prog 50 #[.bool user, v] w fun e w' => e = .returned (.tuple #[.string ⟨(M.rawS user xs).1.toArray⟩, .bool ((M.rawS user xs).2 == 0)]) ∧ Bel w w' := by
  obtain ⟨a, ca, rfl, hc1, hc2, hn, hx⟩ := hv
  unfold maxLen at hc2
  go_enter Tryz.func50, Tryz.ntmps50
  go_wp2_with fail
  go_loopw [6, 7] (fun v i wr => ∃ k : Nat, k ≤ xs.length ∧ i = .int .i64 k ∧ ∃ l, Hid (M.encodeS user (xs.take k) = some l) ∧ l.length ≤ k ∧ Own w.heap.size 5 wr v (l.map byteVal) ∧ Bel w wr) (fun _ i _ => xs.length - (intOf i).toNat)
  case atStart => exact ⟨0, by omega, rfl, [], Lib.hid rfl, by simp, Own.nil _ _ _, Bel.refl _⟩
  case round =>
    obtain ⟨k, hk, rfl, l, HL, hl, hown, hb⟩ := hrel
    by_cases hlt : k < xs.length
    · obtain ⟨n, hn1⟩ : ∃ n, xs[k]? = some n := ⟨_, List.getElem?_eq_getElem hlt⟩
      cases a with
      | none => exfalso; have h3 := hlt; rw [hn rfl, List.length_nil] at h3; omega
      | some x =>
        have hcw : w.cell? (x.add k) = some (.int .i64 n) := hx x rfl k n hn1
        have hcell : wr.cell? (x.add k) = some (.int .i64 n) := (hb.cell (World.block_lt_of_cell? w _ hcw)).trans hcw
        rcases M.byteOf_cases user n with ⟨hb1, hno⟩ | ⟨j, hj, hb1, hpj⟩
        · have HR := Lib.hid (show M.rawS user xs = ([], 5) by rw [M.rawS, M.encodeS_miss user xs k n hn1 hb1])
          have hneg : M.byteOf user n < 0 := by omega
          clear hx hn hno hn1 hb1 hcw
          go_wp2_with (go_at_call 77; refine (byteOf_any _ _ _).mono ?_; rintro e w' ⟨rfl, hb2⟩)
          go_ret2
          rw [HR.out]
          exact ⟨rfl, (by repeat (first | exact Bel.refl _ | refine Bel.drewN ?_ _ | refine Bel.drew ?_ | refine Bel.alloc ?_ _ | refine Bel.trans ?_ (by assumption) | refine Bel.setCell ?_ (by simp; omega) _))⟩
        · have HE := Lib.hid (M.encodeS_hit user xs k n j l hn1 hb1 HL.out)
          have HV := Lib.hid (show [UInt8.ofNat j].map byteVal = [.int .u8 (j : Int)] by simp [byteVal]; omega)
          have HB1 := Lib.hid hb1
          clear hx hn hn1 hb1 hcw hpj
          go_wp2_with (first | (go_at_call 77; refine (byteOf_any _ _ _).mono ?_; rintro e w' ⟨rfl, hb2⟩; rw [HB1.out]; have hown2 := hown.bel hb2; have hb3 : Bel w _ := hb.trans hb2; have hB := hb3.size) | (at_builtin; refine wpList_app rfl (.tmp 23) (.tmp 26) 120 rfl elemByte (by decide) w.heap.size _ _ _ rfl rfl hown2 rfl (by simp; omega) (by first | exact Nat.le_refl _ | assumption | (have := hb.size; omega)) ?_; intro v' w1 hown' hb1))
          go_roundw
          case rel =>
            have HO : Own w.heap.size 5 w1 v' ((l ++ [UInt8.ofNat j]).map byteVal) := by rw [List.map_append, HV.out]; exact hown'
            have HB : Bel w w1 := hb3.upto hb1 (Nat.le_refl _)
            first | exact ⟨k + 1, by omega, by go_num, _, HE, by simp; omega, HO, HB⟩ | ((repeat apply Exists.intro); exact ⟨⟨k + 1, by omega, by go_num, _, HE, by simp; omega, HO, HB⟩, rfl⟩)
          case measure => simp [intOf]; omega
    · obtain rfl : k = xs.length := by omega
      have HR := Lib.hid (show M.rawS user xs = (l, 0) by rw [M.rawS, ← List.take_length (l := xs), HL.out])
      go_wp2_with (first | ((with_reducible show wpList _ _ _ _ _ _); refine wpList_toString rfl (.tmp 28) _ _ 5 rfl Tryz.underlying120 Tryz.underlying5 Tryz.underlying9 w.heap.size _ l rfl hown ?_))
      go_ret2
      rw [HR.out]
      exact ⟨rfl, hb⟩
end Go.Proofs.YteingkjdemlhgaaGreatDoor

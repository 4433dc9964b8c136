/-
  Texts of the proof, laid together: Front2, Stream5, Front3, Front4, Front5, PlainBegun, RInts. No condition of its own.
-/
import Derived.Test.YtcgdecpjlggekaaGreatDoorG5
import Derived.Test.YtcgdecpjlggekaaGreatDoorG6
import Derived.Test.YtcgdecpjlggekaaGreatDoorG2
import Derived.KernelRfl
import Derived.Test.YtcgdecpjlggekaaGreatDoorG1

/-
  Package front: empty, wrong, Check.
-/
namespace Go.Proofs.YtcgdecpjlggekaaGreatDoor
open Go.RowKit
set_option maxRecDepth 1000000
set_option maxHeartbeats 2000000

theorem up_same {f : FuncId} {args : Array Value} {w : World} {v : Value} (u : Up w) (h : Calls Tryz.prog f args u.v fun e w' => e = .returned v ∧ u.v = w') : Calls Tryz.prog f args u.v fun e w'' => e = .returned v ∧ ∃ u' : Up w, w'' = u'.v :=
  h.mono fun _ _ ⟨he, hb⟩ => ⟨he, u, hb.symm⟩
theorem isF_to (n : Int) (b : Bool) (h : M.isEnc n = b) (w : World) : Calls Tryz.prog 61 #[.int .i64 n] w fun e w' => e = .returned (.bool b) ∧ w = w' := by
  have := isEnc_any n w; rw [h] at this; exact this
theorem emptyF_to (se : Int) (rs : ByteArray) (sg : Int) (fr st : Bool) (b : Bool) (h : M.emptySt ⟨se, rs.data.toList, sg, fr, st⟩ = b) (w : World) : Calls Tryz.prog 62 #[.agg #[.int .i64 se, .string rs, .int .i64 sg, .bool fr, .bool st]] w fun e w' => e = .returned (.bool b) ∧ Bel w w' := by
  have hS := Box.new w 23 [.int .i64 se, .string rs, .int .i64 sg, .bool fr, .bool st]
  have c0 := hS.cell 0 _ rfl
  have c1 := hS.cell 1 _ rfl
  have c2 := hS.cell 2 _ rfl
  have c3 := hS.cell 3 _ rfl
  have c4 := hS.cell 4 _ rfl
  have HR := Lib.hid h
  clear h
  go_enter Tryz.func62, Tryz.ntmps62
  go_wp2_with fail
  all_goals go_ret
  all_goals refine ⟨?_, (by repeat (first | exact Bel.refl _ | refine Bel.drewN ?_ _ | refine Bel.drew ?_ | refine Bel.alloc ?_ _ | refine Bel.trans ?_ (by assumption) | refine Bel.setCell ?_ (by simp; omega) _))⟩
  all_goals rw [← HR.out]
  all_goals simp_all [M.emptySt, Lib.toList_data]
theorem wrong_to (g : Nat) (lb : ByteArray) (en wy : Int) (wt : ByteArray) (se : Int) (rs : ByteArray) (sg : Int) (fr st : Bool) (k : Int) (hk : M.wrongF ⟨lb.data.toList, en, wy, wt.data.toList, ⟨se, rs.data.toList, sg, fr, st⟩⟩ = k) (hl : lb.size ≤ 68719476735) (w : World)
    (hB : Box w g 51 [.string lb, .int .i64 en, .int .i64 wy, .string wt, .int .i64 se, .string rs, .int .i64 sg, .bool fr, .bool st]) : Calls Tryz.prog 32 #[.pointer (some ⟨g, 0, none⟩)] w fun e w' => e = .returned (.int .i64 k) ∧ Bel w w' := by
  have hb := Bel.refl w
  have c0 := hB.cell 0 _ rfl; have c1 := hB.cell 1 _ rfl; have c2 := hB.cell 2 _ rfl; have c3 := hB.cell 3 _ rfl; have c4 := hB.cell 4 _ rfl; have c5 := hB.cell 5 _ rfl; have c6 := hB.cell 6 _ rfl; have c7 := hB.cell 7 _ rfl; have c8 := hB.cell 8 _ rfl; have u0 := Box.up hB 0 _ rfl; have u1 := Box.up hB 1 _ rfl; have u2 := Box.up hB 2 _ rfl; have u3 := Box.up hB 3 _ rfl; have u4 := Box.up hB 4 _ rfl; have u5 := Box.up hB 5 _ rfl; have u6 := Box.up hB 6 _ rfl; have u7 := Box.up hB 7 _ rfl; have u8 := Box.up hB 8 _ rfl
  have hk2 := hk
  have hc := M.wrong_cases ⟨lb.data.toList, en, wy, wt.data.toList, ⟨se, rs.data.toList, sg, fr, st⟩⟩
  rw [hk] at hc
  simp only at hc
  rcases hc with ⟨h1, rfl⟩ | ⟨h1, h2, rfl⟩ | ⟨rfl, h2, rfl⟩ | ⟨h1, rfl, rfl⟩ | ⟨rfl, rfl, h3, rfl⟩ | ⟨rfl, rfl, h3, h4, rfl⟩ | ⟨rfl, rfl, h3, h4, rfl⟩ | ⟨h1, h2, h3, rfl⟩ | ⟨h1, h2, h3, h4, rfl⟩ | ⟨h1, h2, h3, rfl, h5⟩
  · have g1 : (en != 0) = true := by simp; omega
    have HI := Lib.hid ((M.isEnc_not en).2 (by omega))
    clear h1
    clear hk
    go_enter Tryz.func32, Tryz.ntmps32
    repeat (go_wp2_with (first | (go_at_call 61; refine (isF_to _ _ HI.out _).mono ?_; rintro e w' ⟨rfl, rfl⟩) | (go_at_call 62; refine (emptyF_to _ _ _ _ _ _ HE.out _).mono ?_; rintro e w' ⟨rfl, b1⟩; have hb := hb.trans b1; have hB := hB.bel b1; clear b1; have c0 := hB.cell 0 _ rfl; have c1 := hB.cell 1 _ rfl; have c2 := hB.cell 2 _ rfl; have c3 := hB.cell 3 _ rfl; have c4 := hB.cell 4 _ rfl; have c5 := hB.cell 5 _ rfl; have c6 := hB.cell 6 _ rfl; have c7 := hB.cell 7 _ rfl; have c8 := hB.cell 8 _ rfl; have u0 := Box.up hB 0 _ rfl; have u1 := Box.up hB 1 _ rfl; have u2 := Box.up hB 2 _ rfl; have u3 := Box.up hB 3 _ rfl; have u4 := Box.up hB 4 _ rfl; have u5 := Box.up hB 5 _ rfl; have u6 := Box.up hB 6 _ rfl; have u7 := Box.up hB 7 _ rfl; have u8 := Box.up hB 8 _ rfl) | (go_at_call 63; refine (check_any _ _ _ _ _ _ HQ.out _).mono ?_; rintro e w' ⟨rfl, b1⟩; have hb := hb.trans b1; have hB := hB.bel b1; clear b1; have c0 := hB.cell 0 _ rfl; have c1 := hB.cell 1 _ rfl; have c2 := hB.cell 2 _ rfl; have c3 := hB.cell 3 _ rfl; have c4 := hB.cell 4 _ rfl; have c5 := hB.cell 5 _ rfl; have c6 := hB.cell 6 _ rfl; have c7 := hB.cell 7 _ rfl; have c8 := hB.cell 8 _ rfl; have u0 := Box.up hB 0 _ rfl; have u1 := Box.up hB 1 _ rfl; have u2 := Box.up hB 2 _ rfl; have u3 := Box.up hB 3 _ rfl; have u4 := Box.up hB 4 _ rfl; have u5 := Box.up hB 5 _ rfl; have u6 := Box.up hB 6 _ rfl; have u7 := Box.up hB 7 _ rfl; have u8 := Box.up hB 8 _ rfl)); refine region_up (by kernel_rfl) (by kernel_rfl) ?_; (repeat (go_big_quiet_step ((go_at_call 43; exact up_call _ (enough_to _ _ _ HN.out hl _))))); refine wpQuiet_nil ?_; intro _ hw'; obtain ⟨uu, rfl⟩ := hw'; have b1 := uu.b; generalize uu.v = wu at *; clear uu; have hb := hb.trans b1; have hB := hB.bel b1; clear b1; have c0 := hB.cell 0 _ rfl; have c1 := hB.cell 1 _ rfl; have c2 := hB.cell 2 _ rfl; have c3 := hB.cell 3 _ rfl; have c4 := hB.cell 4 _ rfl; have c5 := hB.cell 5 _ rfl; have c6 := hB.cell 6 _ rfl; have c7 := hB.cell 7 _ rfl; have c8 := hB.cell 8 _ rfl; have u0 := Box.up hB 0 _ rfl; have u1 := Box.up hB 1 _ rfl; have u2 := Box.up hB 2 _ rfl; have u3 := Box.up hB 3 _ rfl; have u4 := Box.up hB 4 _ rfl; have u5 := Box.up hB 5 _ rfl; have u6 := Box.up hB 6 _ rfl; have u7 := Box.up hB 7 _ rfl; have u8 := Box.up hB 8 _ rfl)
    go_wp2_with (first | (go_at_call 61; refine (isF_to _ _ HI.out _).mono ?_; rintro e w' ⟨rfl, rfl⟩) | (go_at_call 62; refine (emptyF_to _ _ _ _ _ _ HE.out _).mono ?_; rintro e w' ⟨rfl, b1⟩; have hb := hb.trans b1; have hB := hB.bel b1; clear b1; have c0 := hB.cell 0 _ rfl; have c1 := hB.cell 1 _ rfl; have c2 := hB.cell 2 _ rfl; have c3 := hB.cell 3 _ rfl; have c4 := hB.cell 4 _ rfl; have c5 := hB.cell 5 _ rfl; have c6 := hB.cell 6 _ rfl; have c7 := hB.cell 7 _ rfl; have c8 := hB.cell 8 _ rfl; have u0 := Box.up hB 0 _ rfl; have u1 := Box.up hB 1 _ rfl; have u2 := Box.up hB 2 _ rfl; have u3 := Box.up hB 3 _ rfl; have u4 := Box.up hB 4 _ rfl; have u5 := Box.up hB 5 _ rfl; have u6 := Box.up hB 6 _ rfl; have u7 := Box.up hB 7 _ rfl; have u8 := Box.up hB 8 _ rfl) | (go_at_call 63; refine (check_any _ _ _ _ _ _ HQ.out _).mono ?_; rintro e w' ⟨rfl, b1⟩; have hb := hb.trans b1; have hB := hB.bel b1; clear b1; have c0 := hB.cell 0 _ rfl; have c1 := hB.cell 1 _ rfl; have c2 := hB.cell 2 _ rfl; have c3 := hB.cell 3 _ rfl; have c4 := hB.cell 4 _ rfl; have c5 := hB.cell 5 _ rfl; have c6 := hB.cell 6 _ rfl; have c7 := hB.cell 7 _ rfl; have c8 := hB.cell 8 _ rfl; have u0 := Box.up hB 0 _ rfl; have u1 := Box.up hB 1 _ rfl; have u2 := Box.up hB 2 _ rfl; have u3 := Box.up hB 3 _ rfl; have u4 := Box.up hB 4 _ rfl; have u5 := Box.up hB 5 _ rfl; have u6 := Box.up hB 6 _ rfl; have u7 := Box.up hB 7 _ rfl; have u8 := Box.up hB 8 _ rfl))
    go_ret
    exact ⟨rfl, hb⟩
  · rcases h1 with rfl | h1
    · rcases h2 with h2 | h2
      · have g3 : decide (wy < 0) = true := by simp; omega
        clear h2
        clear hk
        go_enter Tryz.func32, Tryz.ntmps32
        repeat (go_wp2_with (first | (go_at_call 61; refine (isF_to _ _ HI.out _).mono ?_; rintro e w' ⟨rfl, rfl⟩) | (go_at_call 62; refine (emptyF_to _ _ _ _ _ _ HE.out _).mono ?_; rintro e w' ⟨rfl, b1⟩; have hb := hb.trans b1; have hB := hB.bel b1; clear b1; have c0 := hB.cell 0 _ rfl; have c1 := hB.cell 1 _ rfl; have c2 := hB.cell 2 _ rfl; have c3 := hB.cell 3 _ rfl; have c4 := hB.cell 4 _ rfl; have c5 := hB.cell 5 _ rfl; have c6 := hB.cell 6 _ rfl; have c7 := hB.cell 7 _ rfl; have c8 := hB.cell 8 _ rfl; have u0 := Box.up hB 0 _ rfl; have u1 := Box.up hB 1 _ rfl; have u2 := Box.up hB 2 _ rfl; have u3 := Box.up hB 3 _ rfl; have u4 := Box.up hB 4 _ rfl; have u5 := Box.up hB 5 _ rfl; have u6 := Box.up hB 6 _ rfl; have u7 := Box.up hB 7 _ rfl; have u8 := Box.up hB 8 _ rfl) | (go_at_call 63; refine (check_any _ _ _ _ _ _ HQ.out _).mono ?_; rintro e w' ⟨rfl, b1⟩; have hb := hb.trans b1; have hB := hB.bel b1; clear b1; have c0 := hB.cell 0 _ rfl; have c1 := hB.cell 1 _ rfl; have c2 := hB.cell 2 _ rfl; have c3 := hB.cell 3 _ rfl; have c4 := hB.cell 4 _ rfl; have c5 := hB.cell 5 _ rfl; have c6 := hB.cell 6 _ rfl; have c7 := hB.cell 7 _ rfl; have c8 := hB.cell 8 _ rfl; have u0 := Box.up hB 0 _ rfl; have u1 := Box.up hB 1 _ rfl; have u2 := Box.up hB 2 _ rfl; have u3 := Box.up hB 3 _ rfl; have u4 := Box.up hB 4 _ rfl; have u5 := Box.up hB 5 _ rfl; have u6 := Box.up hB 6 _ rfl; have u7 := Box.up hB 7 _ rfl; have u8 := Box.up hB 8 _ rfl)); refine region_up (by kernel_rfl) (by kernel_rfl) ?_; (repeat (go_big_quiet_step ((go_at_call 43; exact up_call _ (enough_to _ _ _ HN.out hl _))))); refine wpQuiet_nil ?_; intro _ hw'; obtain ⟨uu, rfl⟩ := hw'; have b1 := uu.b; generalize uu.v = wu at *; clear uu; have hb := hb.trans b1; have hB := hB.bel b1; clear b1; have c0 := hB.cell 0 _ rfl; have c1 := hB.cell 1 _ rfl; have c2 := hB.cell 2 _ rfl; have c3 := hB.cell 3 _ rfl; have c4 := hB.cell 4 _ rfl; have c5 := hB.cell 5 _ rfl; have c6 := hB.cell 6 _ rfl; have c7 := hB.cell 7 _ rfl; have c8 := hB.cell 8 _ rfl; have u0 := Box.up hB 0 _ rfl; have u1 := Box.up hB 1 _ rfl; have u2 := Box.up hB 2 _ rfl; have u3 := Box.up hB 3 _ rfl; have u4 := Box.up hB 4 _ rfl; have u5 := Box.up hB 5 _ rfl; have u6 := Box.up hB 6 _ rfl; have u7 := Box.up hB 7 _ rfl; have u8 := Box.up hB 8 _ rfl)
        go_wp2_with (first | (go_at_call 61; refine (isF_to _ _ HI.out _).mono ?_; rintro e w' ⟨rfl, rfl⟩) | (go_at_call 62; refine (emptyF_to _ _ _ _ _ _ HE.out _).mono ?_; rintro e w' ⟨rfl, b1⟩; have hb := hb.trans b1; have hB := hB.bel b1; clear b1; have c0 := hB.cell 0 _ rfl; have c1 := hB.cell 1 _ rfl; have c2 := hB.cell 2 _ rfl; have c3 := hB.cell 3 _ rfl; have c4 := hB.cell 4 _ rfl; have c5 := hB.cell 5 _ rfl; have c6 := hB.cell 6 _ rfl; have c7 := hB.cell 7 _ rfl; have c8 := hB.cell 8 _ rfl; have u0 := Box.up hB 0 _ rfl; have u1 := Box.up hB 1 _ rfl; have u2 := Box.up hB 2 _ rfl; have u3 := Box.up hB 3 _ rfl; have u4 := Box.up hB 4 _ rfl; have u5 := Box.up hB 5 _ rfl; have u6 := Box.up hB 6 _ rfl; have u7 := Box.up hB 7 _ rfl; have u8 := Box.up hB 8 _ rfl) | (go_at_call 63; refine (check_any _ _ _ _ _ _ HQ.out _).mono ?_; rintro e w' ⟨rfl, b1⟩; have hb := hb.trans b1; have hB := hB.bel b1; clear b1; have c0 := hB.cell 0 _ rfl; have c1 := hB.cell 1 _ rfl; have c2 := hB.cell 2 _ rfl; have c3 := hB.cell 3 _ rfl; have c4 := hB.cell 4 _ rfl; have c5 := hB.cell 5 _ rfl; have c6 := hB.cell 6 _ rfl; have c7 := hB.cell 7 _ rfl; have c8 := hB.cell 8 _ rfl; have u0 := Box.up hB 0 _ rfl; have u1 := Box.up hB 1 _ rfl; have u2 := Box.up hB 2 _ rfl; have u3 := Box.up hB 3 _ rfl; have u4 := Box.up hB 4 _ rfl; have u5 := Box.up hB 5 _ rfl; have u6 := Box.up hB 6 _ rfl; have u7 := Box.up hB 7 _ rfl; have u8 := Box.up hB 8 _ rfl))
        go_ret
        exact ⟨rfl, hb⟩
      · have g3 : decide (wy < 0) = false := by simp; omega
        have g4 : decide (4 < wy) = true := by simp; omega
        clear h2
        clear hk
        go_enter Tryz.func32, Tryz.ntmps32
        repeat (go_wp2_with (first | (go_at_call 61; refine (isF_to _ _ HI.out _).mono ?_; rintro e w' ⟨rfl, rfl⟩) | (go_at_call 62; refine (emptyF_to _ _ _ _ _ _ HE.out _).mono ?_; rintro e w' ⟨rfl, b1⟩; have hb := hb.trans b1; have hB := hB.bel b1; clear b1; have c0 := hB.cell 0 _ rfl; have c1 := hB.cell 1 _ rfl; have c2 := hB.cell 2 _ rfl; have c3 := hB.cell 3 _ rfl; have c4 := hB.cell 4 _ rfl; have c5 := hB.cell 5 _ rfl; have c6 := hB.cell 6 _ rfl; have c7 := hB.cell 7 _ rfl; have c8 := hB.cell 8 _ rfl; have u0 := Box.up hB 0 _ rfl; have u1 := Box.up hB 1 _ rfl; have u2 := Box.up hB 2 _ rfl; have u3 := Box.up hB 3 _ rfl; have u4 := Box.up hB 4 _ rfl; have u5 := Box.up hB 5 _ rfl; have u6 := Box.up hB 6 _ rfl; have u7 := Box.up hB 7 _ rfl; have u8 := Box.up hB 8 _ rfl) | (go_at_call 63; refine (check_any _ _ _ _ _ _ HQ.out _).mono ?_; rintro e w' ⟨rfl, b1⟩; have hb := hb.trans b1; have hB := hB.bel b1; clear b1; have c0 := hB.cell 0 _ rfl; have c1 := hB.cell 1 _ rfl; have c2 := hB.cell 2 _ rfl; have c3 := hB.cell 3 _ rfl; have c4 := hB.cell 4 _ rfl; have c5 := hB.cell 5 _ rfl; have c6 := hB.cell 6 _ rfl; have c7 := hB.cell 7 _ rfl; have c8 := hB.cell 8 _ rfl; have u0 := Box.up hB 0 _ rfl; have u1 := Box.up hB 1 _ rfl; have u2 := Box.up hB 2 _ rfl; have u3 := Box.up hB 3 _ rfl; have u4 := Box.up hB 4 _ rfl; have u5 := Box.up hB 5 _ rfl; have u6 := Box.up hB 6 _ rfl; have u7 := Box.up hB 7 _ rfl; have u8 := Box.up hB 8 _ rfl)); refine region_up (by kernel_rfl) (by kernel_rfl) ?_; (repeat (go_big_quiet_step ((go_at_call 43; exact up_call _ (enough_to _ _ _ HN.out hl _))))); refine wpQuiet_nil ?_; intro _ hw'; obtain ⟨uu, rfl⟩ := hw'; have b1 := uu.b; generalize uu.v = wu at *; clear uu; have hb := hb.trans b1; have hB := hB.bel b1; clear b1; have c0 := hB.cell 0 _ rfl; have c1 := hB.cell 1 _ rfl; have c2 := hB.cell 2 _ rfl; have c3 := hB.cell 3 _ rfl; have c4 := hB.cell 4 _ rfl; have c5 := hB.cell 5 _ rfl; have c6 := hB.cell 6 _ rfl; have c7 := hB.cell 7 _ rfl; have c8 := hB.cell 8 _ rfl; have u0 := Box.up hB 0 _ rfl; have u1 := Box.up hB 1 _ rfl; have u2 := Box.up hB 2 _ rfl; have u3 := Box.up hB 3 _ rfl; have u4 := Box.up hB 4 _ rfl; have u5 := Box.up hB 5 _ rfl; have u6 := Box.up hB 6 _ rfl; have u7 := Box.up hB 7 _ rfl; have u8 := Box.up hB 8 _ rfl)
        go_wp2_with (first | (go_at_call 61; refine (isF_to _ _ HI.out _).mono ?_; rintro e w' ⟨rfl, rfl⟩) | (go_at_call 62; refine (emptyF_to _ _ _ _ _ _ HE.out _).mono ?_; rintro e w' ⟨rfl, b1⟩; have hb := hb.trans b1; have hB := hB.bel b1; clear b1; have c0 := hB.cell 0 _ rfl; have c1 := hB.cell 1 _ rfl; have c2 := hB.cell 2 _ rfl; have c3 := hB.cell 3 _ rfl; have c4 := hB.cell 4 _ rfl; have c5 := hB.cell 5 _ rfl; have c6 := hB.cell 6 _ rfl; have c7 := hB.cell 7 _ rfl; have c8 := hB.cell 8 _ rfl; have u0 := Box.up hB 0 _ rfl; have u1 := Box.up hB 1 _ rfl; have u2 := Box.up hB 2 _ rfl; have u3 := Box.up hB 3 _ rfl; have u4 := Box.up hB 4 _ rfl; have u5 := Box.up hB 5 _ rfl; have u6 := Box.up hB 6 _ rfl; have u7 := Box.up hB 7 _ rfl; have u8 := Box.up hB 8 _ rfl) | (go_at_call 63; refine (check_any _ _ _ _ _ _ HQ.out _).mono ?_; rintro e w' ⟨rfl, b1⟩; have hb := hb.trans b1; have hB := hB.bel b1; clear b1; have c0 := hB.cell 0 _ rfl; have c1 := hB.cell 1 _ rfl; have c2 := hB.cell 2 _ rfl; have c3 := hB.cell 3 _ rfl; have c4 := hB.cell 4 _ rfl; have c5 := hB.cell 5 _ rfl; have c6 := hB.cell 6 _ rfl; have c7 := hB.cell 7 _ rfl; have c8 := hB.cell 8 _ rfl; have u0 := Box.up hB 0 _ rfl; have u1 := Box.up hB 1 _ rfl; have u2 := Box.up hB 2 _ rfl; have u3 := Box.up hB 3 _ rfl; have u4 := Box.up hB 4 _ rfl; have u5 := Box.up hB 5 _ rfl; have u6 := Box.up hB 6 _ rfl; have u7 := Box.up hB 7 _ rfl; have u8 := Box.up hB 8 _ rfl))
        go_ret
        exact ⟨rfl, hb⟩
    · have g1 : (en != 0) = true := by simp; omega
      have HI := Lib.hid ((M.isEnc_iff en).2 h1)
      rcases h2 with h2 | h2
      · have g3 : decide (wy < 0) = true := by simp; omega
        clear h1 h2
        clear hk
        go_enter Tryz.func32, Tryz.ntmps32
        repeat (go_wp2_with (first | (go_at_call 61; refine (isF_to _ _ HI.out _).mono ?_; rintro e w' ⟨rfl, rfl⟩) | (go_at_call 62; refine (emptyF_to _ _ _ _ _ _ HE.out _).mono ?_; rintro e w' ⟨rfl, b1⟩; have hb := hb.trans b1; have hB := hB.bel b1; clear b1; have c0 := hB.cell 0 _ rfl; have c1 := hB.cell 1 _ rfl; have c2 := hB.cell 2 _ rfl; have c3 := hB.cell 3 _ rfl; have c4 := hB.cell 4 _ rfl; have c5 := hB.cell 5 _ rfl; have c6 := hB.cell 6 _ rfl; have c7 := hB.cell 7 _ rfl; have c8 := hB.cell 8 _ rfl; have u0 := Box.up hB 0 _ rfl; have u1 := Box.up hB 1 _ rfl; have u2 := Box.up hB 2 _ rfl; have u3 := Box.up hB 3 _ rfl; have u4 := Box.up hB 4 _ rfl; have u5 := Box.up hB 5 _ rfl; have u6 := Box.up hB 6 _ rfl; have u7 := Box.up hB 7 _ rfl; have u8 := Box.up hB 8 _ rfl) | (go_at_call 63; refine (check_any _ _ _ _ _ _ HQ.out _).mono ?_; rintro e w' ⟨rfl, b1⟩; have hb := hb.trans b1; have hB := hB.bel b1; clear b1; have c0 := hB.cell 0 _ rfl; have c1 := hB.cell 1 _ rfl; have c2 := hB.cell 2 _ rfl; have c3 := hB.cell 3 _ rfl; have c4 := hB.cell 4 _ rfl; have c5 := hB.cell 5 _ rfl; have c6 := hB.cell 6 _ rfl; have c7 := hB.cell 7 _ rfl; have c8 := hB.cell 8 _ rfl; have u0 := Box.up hB 0 _ rfl; have u1 := Box.up hB 1 _ rfl; have u2 := Box.up hB 2 _ rfl; have u3 := Box.up hB 3 _ rfl; have u4 := Box.up hB 4 _ rfl; have u5 := Box.up hB 5 _ rfl; have u6 := Box.up hB 6 _ rfl; have u7 := Box.up hB 7 _ rfl; have u8 := Box.up hB 8 _ rfl)); refine region_up (by kernel_rfl) (by kernel_rfl) ?_; (repeat (go_big_quiet_step ((go_at_call 43; exact up_call _ (enough_to _ _ _ HN.out hl _))))); refine wpQuiet_nil ?_; intro _ hw'; obtain ⟨uu, rfl⟩ := hw'; have b1 := uu.b; generalize uu.v = wu at *; clear uu; have hb := hb.trans b1; have hB := hB.bel b1; clear b1; have c0 := hB.cell 0 _ rfl; have c1 := hB.cell 1 _ rfl; have c2 := hB.cell 2 _ rfl; have c3 := hB.cell 3 _ rfl; have c4 := hB.cell 4 _ rfl; have c5 := hB.cell 5 _ rfl; have c6 := hB.cell 6 _ rfl; have c7 := hB.cell 7 _ rfl; have c8 := hB.cell 8 _ rfl; have u0 := Box.up hB 0 _ rfl; have u1 := Box.up hB 1 _ rfl; have u2 := Box.up hB 2 _ rfl; have u3 := Box.up hB 3 _ rfl; have u4 := Box.up hB 4 _ rfl; have u5 := Box.up hB 5 _ rfl; have u6 := Box.up hB 6 _ rfl; have u7 := Box.up hB 7 _ rfl; have u8 := Box.up hB 8 _ rfl)
        go_wp2_with (first | (go_at_call 61; refine (isF_to _ _ HI.out _).mono ?_; rintro e w' ⟨rfl, rfl⟩) | (go_at_call 62; refine (emptyF_to _ _ _ _ _ _ HE.out _).mono ?_; rintro e w' ⟨rfl, b1⟩; have hb := hb.trans b1; have hB := hB.bel b1; clear b1; have c0 := hB.cell 0 _ rfl; have c1 := hB.cell 1 _ rfl; have c2 := hB.cell 2 _ rfl; have c3 := hB.cell 3 _ rfl; have c4 := hB.cell 4 _ rfl; have c5 := hB.cell 5 _ rfl; have c6 := hB.cell 6 _ rfl; have c7 := hB.cell 7 _ rfl; have c8 := hB.cell 8 _ rfl; have u0 := Box.up hB 0 _ rfl; have u1 := Box.up hB 1 _ rfl; have u2 := Box.up hB 2 _ rfl; have u3 := Box.up hB 3 _ rfl; have u4 := Box.up hB 4 _ rfl; have u5 := Box.up hB 5 _ rfl; have u6 := Box.up hB 6 _ rfl; have u7 := Box.up hB 7 _ rfl; have u8 := Box.up hB 8 _ rfl) | (go_at_call 63; refine (check_any _ _ _ _ _ _ HQ.out _).mono ?_; rintro e w' ⟨rfl, b1⟩; have hb := hb.trans b1; have hB := hB.bel b1; clear b1; have c0 := hB.cell 0 _ rfl; have c1 := hB.cell 1 _ rfl; have c2 := hB.cell 2 _ rfl; have c3 := hB.cell 3 _ rfl; have c4 := hB.cell 4 _ rfl; have c5 := hB.cell 5 _ rfl; have c6 := hB.cell 6 _ rfl; have c7 := hB.cell 7 _ rfl; have c8 := hB.cell 8 _ rfl; have u0 := Box.up hB 0 _ rfl; have u1 := Box.up hB 1 _ rfl; have u2 := Box.up hB 2 _ rfl; have u3 := Box.up hB 3 _ rfl; have u4 := Box.up hB 4 _ rfl; have u5 := Box.up hB 5 _ rfl; have u6 := Box.up hB 6 _ rfl; have u7 := Box.up hB 7 _ rfl; have u8 := Box.up hB 8 _ rfl))
        go_ret
        exact ⟨rfl, hb⟩
      · have g3 : decide (wy < 0) = false := by simp; omega
        have g4 : decide (4 < wy) = true := by simp; omega
        clear h1 h2
        clear hk
        go_enter Tryz.func32, Tryz.ntmps32
        repeat (go_wp2_with (first | (go_at_call 61; refine (isF_to _ _ HI.out _).mono ?_; rintro e w' ⟨rfl, rfl⟩) | (go_at_call 62; refine (emptyF_to _ _ _ _ _ _ HE.out _).mono ?_; rintro e w' ⟨rfl, b1⟩; have hb := hb.trans b1; have hB := hB.bel b1; clear b1; have c0 := hB.cell 0 _ rfl; have c1 := hB.cell 1 _ rfl; have c2 := hB.cell 2 _ rfl; have c3 := hB.cell 3 _ rfl; have c4 := hB.cell 4 _ rfl; have c5 := hB.cell 5 _ rfl; have c6 := hB.cell 6 _ rfl; have c7 := hB.cell 7 _ rfl; have c8 := hB.cell 8 _ rfl; have u0 := Box.up hB 0 _ rfl; have u1 := Box.up hB 1 _ rfl; have u2 := Box.up hB 2 _ rfl; have u3 := Box.up hB 3 _ rfl; have u4 := Box.up hB 4 _ rfl; have u5 := Box.up hB 5 _ rfl; have u6 := Box.up hB 6 _ rfl; have u7 := Box.up hB 7 _ rfl; have u8 := Box.up hB 8 _ rfl) | (go_at_call 63; refine (check_any _ _ _ _ _ _ HQ.out _).mono ?_; rintro e w' ⟨rfl, b1⟩; have hb := hb.trans b1; have hB := hB.bel b1; clear b1; have c0 := hB.cell 0 _ rfl; have c1 := hB.cell 1 _ rfl; have c2 := hB.cell 2 _ rfl; have c3 := hB.cell 3 _ rfl; have c4 := hB.cell 4 _ rfl; have c5 := hB.cell 5 _ rfl; have c6 := hB.cell 6 _ rfl; have c7 := hB.cell 7 _ rfl; have c8 := hB.cell 8 _ rfl; have u0 := Box.up hB 0 _ rfl; have u1 := Box.up hB 1 _ rfl; have u2 := Box.up hB 2 _ rfl; have u3 := Box.up hB 3 _ rfl; have u4 := Box.up hB 4 _ rfl; have u5 := Box.up hB 5 _ rfl; have u6 := Box.up hB 6 _ rfl; have u7 := Box.up hB 7 _ rfl; have u8 := Box.up hB 8 _ rfl)); refine region_up (by kernel_rfl) (by kernel_rfl) ?_; (repeat (go_big_quiet_step ((go_at_call 43; exact up_call _ (enough_to _ _ _ HN.out hl _))))); refine wpQuiet_nil ?_; intro _ hw'; obtain ⟨uu, rfl⟩ := hw'; have b1 := uu.b; generalize uu.v = wu at *; clear uu; have hb := hb.trans b1; have hB := hB.bel b1; clear b1; have c0 := hB.cell 0 _ rfl; have c1 := hB.cell 1 _ rfl; have c2 := hB.cell 2 _ rfl; have c3 := hB.cell 3 _ rfl; have c4 := hB.cell 4 _ rfl; have c5 := hB.cell 5 _ rfl; have c6 := hB.cell 6 _ rfl; have c7 := hB.cell 7 _ rfl; have c8 := hB.cell 8 _ rfl; have u0 := Box.up hB 0 _ rfl; have u1 := Box.up hB 1 _ rfl; have u2 := Box.up hB 2 _ rfl; have u3 := Box.up hB 3 _ rfl; have u4 := Box.up hB 4 _ rfl; have u5 := Box.up hB 5 _ rfl; have u6 := Box.up hB 6 _ rfl; have u7 := Box.up hB 7 _ rfl; have u8 := Box.up hB 8 _ rfl)
        go_wp2_with (first | (go_at_call 61; refine (isF_to _ _ HI.out _).mono ?_; rintro e w' ⟨rfl, rfl⟩) | (go_at_call 62; refine (emptyF_to _ _ _ _ _ _ HE.out _).mono ?_; rintro e w' ⟨rfl, b1⟩; have hb := hb.trans b1; have hB := hB.bel b1; clear b1; have c0 := hB.cell 0 _ rfl; have c1 := hB.cell 1 _ rfl; have c2 := hB.cell 2 _ rfl; have c3 := hB.cell 3 _ rfl; have c4 := hB.cell 4 _ rfl; have c5 := hB.cell 5 _ rfl; have c6 := hB.cell 6 _ rfl; have c7 := hB.cell 7 _ rfl; have c8 := hB.cell 8 _ rfl; have u0 := Box.up hB 0 _ rfl; have u1 := Box.up hB 1 _ rfl; have u2 := Box.up hB 2 _ rfl; have u3 := Box.up hB 3 _ rfl; have u4 := Box.up hB 4 _ rfl; have u5 := Box.up hB 5 _ rfl; have u6 := Box.up hB 6 _ rfl; have u7 := Box.up hB 7 _ rfl; have u8 := Box.up hB 8 _ rfl) | (go_at_call 63; refine (check_any _ _ _ _ _ _ HQ.out _).mono ?_; rintro e w' ⟨rfl, b1⟩; have hb := hb.trans b1; have hB := hB.bel b1; clear b1; have c0 := hB.cell 0 _ rfl; have c1 := hB.cell 1 _ rfl; have c2 := hB.cell 2 _ rfl; have c3 := hB.cell 3 _ rfl; have c4 := hB.cell 4 _ rfl; have c5 := hB.cell 5 _ rfl; have c6 := hB.cell 6 _ rfl; have c7 := hB.cell 7 _ rfl; have c8 := hB.cell 8 _ rfl; have u0 := Box.up hB 0 _ rfl; have u1 := Box.up hB 1 _ rfl; have u2 := Box.up hB 2 _ rfl; have u3 := Box.up hB 3 _ rfl; have u4 := Box.up hB 4 _ rfl; have u5 := Box.up hB 5 _ rfl; have u6 := Box.up hB 6 _ rfl; have u7 := Box.up hB 7 _ rfl; have u8 := Box.up hB 8 _ rfl))
        go_ret
        exact ⟨rfl, hb⟩
  · have g3 : decide (wy < 0) = false := by simp; omega
    have g4 : decide (4 < wy) = false := by simp; omega
    have g5 : (wy == 0) = false := by simp; omega
    clear h2
    clear hk
    go_enter Tryz.func32, Tryz.ntmps32
    repeat (go_wp2_with (first | (go_at_call 61; refine (isF_to _ _ HI.out _).mono ?_; rintro e w' ⟨rfl, rfl⟩) | (go_at_call 62; refine (emptyF_to _ _ _ _ _ _ HE.out _).mono ?_; rintro e w' ⟨rfl, b1⟩; have hb := hb.trans b1; have hB := hB.bel b1; clear b1; have c0 := hB.cell 0 _ rfl; have c1 := hB.cell 1 _ rfl; have c2 := hB.cell 2 _ rfl; have c3 := hB.cell 3 _ rfl; have c4 := hB.cell 4 _ rfl; have c5 := hB.cell 5 _ rfl; have c6 := hB.cell 6 _ rfl; have c7 := hB.cell 7 _ rfl; have c8 := hB.cell 8 _ rfl; have u0 := Box.up hB 0 _ rfl; have u1 := Box.up hB 1 _ rfl; have u2 := Box.up hB 2 _ rfl; have u3 := Box.up hB 3 _ rfl; have u4 := Box.up hB 4 _ rfl; have u5 := Box.up hB 5 _ rfl; have u6 := Box.up hB 6 _ rfl; have u7 := Box.up hB 7 _ rfl; have u8 := Box.up hB 8 _ rfl) | (go_at_call 63; refine (check_any _ _ _ _ _ _ HQ.out _).mono ?_; rintro e w' ⟨rfl, b1⟩; have hb := hb.trans b1; have hB := hB.bel b1; clear b1; have c0 := hB.cell 0 _ rfl; have c1 := hB.cell 1 _ rfl; have c2 := hB.cell 2 _ rfl; have c3 := hB.cell 3 _ rfl; have c4 := hB.cell 4 _ rfl; have c5 := hB.cell 5 _ rfl; have c6 := hB.cell 6 _ rfl; have c7 := hB.cell 7 _ rfl; have c8 := hB.cell 8 _ rfl; have u0 := Box.up hB 0 _ rfl; have u1 := Box.up hB 1 _ rfl; have u2 := Box.up hB 2 _ rfl; have u3 := Box.up hB 3 _ rfl; have u4 := Box.up hB 4 _ rfl; have u5 := Box.up hB 5 _ rfl; have u6 := Box.up hB 6 _ rfl; have u7 := Box.up hB 7 _ rfl; have u8 := Box.up hB 8 _ rfl)); refine region_up (by kernel_rfl) (by kernel_rfl) ?_; (repeat (go_big_quiet_step ((go_at_call 43; exact up_call _ (enough_to _ _ _ HN.out hl _))))); refine wpQuiet_nil ?_; intro _ hw'; obtain ⟨uu, rfl⟩ := hw'; have b1 := uu.b; generalize uu.v = wu at *; clear uu; have hb := hb.trans b1; have hB := hB.bel b1; clear b1; have c0 := hB.cell 0 _ rfl; have c1 := hB.cell 1 _ rfl; have c2 := hB.cell 2 _ rfl; have c3 := hB.cell 3 _ rfl; have c4 := hB.cell 4 _ rfl; have c5 := hB.cell 5 _ rfl; have c6 := hB.cell 6 _ rfl; have c7 := hB.cell 7 _ rfl; have c8 := hB.cell 8 _ rfl; have u0 := Box.up hB 0 _ rfl; have u1 := Box.up hB 1 _ rfl; have u2 := Box.up hB 2 _ rfl; have u3 := Box.up hB 3 _ rfl; have u4 := Box.up hB 4 _ rfl; have u5 := Box.up hB 5 _ rfl; have u6 := Box.up hB 6 _ rfl; have u7 := Box.up hB 7 _ rfl; have u8 := Box.up hB 8 _ rfl)
    go_wp2_with (first | (go_at_call 61; refine (isF_to _ _ HI.out _).mono ?_; rintro e w' ⟨rfl, rfl⟩) | (go_at_call 62; refine (emptyF_to _ _ _ _ _ _ HE.out _).mono ?_; rintro e w' ⟨rfl, b1⟩; have hb := hb.trans b1; have hB := hB.bel b1; clear b1; have c0 := hB.cell 0 _ rfl; have c1 := hB.cell 1 _ rfl; have c2 := hB.cell 2 _ rfl; have c3 := hB.cell 3 _ rfl; have c4 := hB.cell 4 _ rfl; have c5 := hB.cell 5 _ rfl; have c6 := hB.cell 6 _ rfl; have c7 := hB.cell 7 _ rfl; have c8 := hB.cell 8 _ rfl; have u0 := Box.up hB 0 _ rfl; have u1 := Box.up hB 1 _ rfl; have u2 := Box.up hB 2 _ rfl; have u3 := Box.up hB 3 _ rfl; have u4 := Box.up hB 4 _ rfl; have u5 := Box.up hB 5 _ rfl; have u6 := Box.up hB 6 _ rfl; have u7 := Box.up hB 7 _ rfl; have u8 := Box.up hB 8 _ rfl) | (go_at_call 63; refine (check_any _ _ _ _ _ _ HQ.out _).mono ?_; rintro e w' ⟨rfl, b1⟩; have hb := hb.trans b1; have hB := hB.bel b1; clear b1; have c0 := hB.cell 0 _ rfl; have c1 := hB.cell 1 _ rfl; have c2 := hB.cell 2 _ rfl; have c3 := hB.cell 3 _ rfl; have c4 := hB.cell 4 _ rfl; have c5 := hB.cell 5 _ rfl; have c6 := hB.cell 6 _ rfl; have c7 := hB.cell 7 _ rfl; have c8 := hB.cell 8 _ rfl; have u0 := Box.up hB 0 _ rfl; have u1 := Box.up hB 1 _ rfl; have u2 := Box.up hB 2 _ rfl; have u3 := Box.up hB 3 _ rfl; have u4 := Box.up hB 4 _ rfl; have u5 := Box.up hB 5 _ rfl; have u6 := Box.up hB 6 _ rfl; have u7 := Box.up hB 7 _ rfl; have u8 := Box.up hB 8 _ rfl))
    go_ret
    exact ⟨rfl, hb⟩
  · have g1 : (en != 0) = true := by simp; omega
    have g2 : (en == 0) = false := by simp; omega
    have HI := Lib.hid ((M.isEnc_iff en).2 h1)
    clear h1
    clear hk
    go_enter Tryz.func32, Tryz.ntmps32
    repeat (go_wp2_with (first | (go_at_call 61; refine (isF_to _ _ HI.out _).mono ?_; rintro e w' ⟨rfl, rfl⟩) | (go_at_call 62; refine (emptyF_to _ _ _ _ _ _ HE.out _).mono ?_; rintro e w' ⟨rfl, b1⟩; have hb := hb.trans b1; have hB := hB.bel b1; clear b1; have c0 := hB.cell 0 _ rfl; have c1 := hB.cell 1 _ rfl; have c2 := hB.cell 2 _ rfl; have c3 := hB.cell 3 _ rfl; have c4 := hB.cell 4 _ rfl; have c5 := hB.cell 5 _ rfl; have c6 := hB.cell 6 _ rfl; have c7 := hB.cell 7 _ rfl; have c8 := hB.cell 8 _ rfl; have u0 := Box.up hB 0 _ rfl; have u1 := Box.up hB 1 _ rfl; have u2 := Box.up hB 2 _ rfl; have u3 := Box.up hB 3 _ rfl; have u4 := Box.up hB 4 _ rfl; have u5 := Box.up hB 5 _ rfl; have u6 := Box.up hB 6 _ rfl; have u7 := Box.up hB 7 _ rfl; have u8 := Box.up hB 8 _ rfl) | (go_at_call 63; refine (check_any _ _ _ _ _ _ HQ.out _).mono ?_; rintro e w' ⟨rfl, b1⟩; have hb := hb.trans b1; have hB := hB.bel b1; clear b1; have c0 := hB.cell 0 _ rfl; have c1 := hB.cell 1 _ rfl; have c2 := hB.cell 2 _ rfl; have c3 := hB.cell 3 _ rfl; have c4 := hB.cell 4 _ rfl; have c5 := hB.cell 5 _ rfl; have c6 := hB.cell 6 _ rfl; have c7 := hB.cell 7 _ rfl; have c8 := hB.cell 8 _ rfl; have u0 := Box.up hB 0 _ rfl; have u1 := Box.up hB 1 _ rfl; have u2 := Box.up hB 2 _ rfl; have u3 := Box.up hB 3 _ rfl; have u4 := Box.up hB 4 _ rfl; have u5 := Box.up hB 5 _ rfl; have u6 := Box.up hB 6 _ rfl; have u7 := Box.up hB 7 _ rfl; have u8 := Box.up hB 8 _ rfl)); refine region_up (by kernel_rfl) (by kernel_rfl) ?_; (repeat (go_big_quiet_step ((go_at_call 43; exact up_call _ (enough_to _ _ _ HN.out hl _))))); refine wpQuiet_nil ?_; intro _ hw'; obtain ⟨uu, rfl⟩ := hw'; have b1 := uu.b; generalize uu.v = wu at *; clear uu; have hb := hb.trans b1; have hB := hB.bel b1; clear b1; have c0 := hB.cell 0 _ rfl; have c1 := hB.cell 1 _ rfl; have c2 := hB.cell 2 _ rfl; have c3 := hB.cell 3 _ rfl; have c4 := hB.cell 4 _ rfl; have c5 := hB.cell 5 _ rfl; have c6 := hB.cell 6 _ rfl; have c7 := hB.cell 7 _ rfl; have c8 := hB.cell 8 _ rfl; have u0 := Box.up hB 0 _ rfl; have u1 := Box.up hB 1 _ rfl; have u2 := Box.up hB 2 _ rfl; have u3 := Box.up hB 3 _ rfl; have u4 := Box.up hB 4 _ rfl; have u5 := Box.up hB 5 _ rfl; have u6 := Box.up hB 6 _ rfl; have u7 := Box.up hB 7 _ rfl; have u8 := Box.up hB 8 _ rfl)
    go_wp2_with (first | (go_at_call 61; refine (isF_to _ _ HI.out _).mono ?_; rintro e w' ⟨rfl, rfl⟩) | (go_at_call 62; refine (emptyF_to _ _ _ _ _ _ HE.out _).mono ?_; rintro e w' ⟨rfl, b1⟩; have hb := hb.trans b1; have hB := hB.bel b1; clear b1; have c0 := hB.cell 0 _ rfl; have c1 := hB.cell 1 _ rfl; have c2 := hB.cell 2 _ rfl; have c3 := hB.cell 3 _ rfl; have c4 := hB.cell 4 _ rfl; have c5 := hB.cell 5 _ rfl; have c6 := hB.cell 6 _ rfl; have c7 := hB.cell 7 _ rfl; have c8 := hB.cell 8 _ rfl; have u0 := Box.up hB 0 _ rfl; have u1 := Box.up hB 1 _ rfl; have u2 := Box.up hB 2 _ rfl; have u3 := Box.up hB 3 _ rfl; have u4 := Box.up hB 4 _ rfl; have u5 := Box.up hB 5 _ rfl; have u6 := Box.up hB 6 _ rfl; have u7 := Box.up hB 7 _ rfl; have u8 := Box.up hB 8 _ rfl) | (go_at_call 63; refine (check_any _ _ _ _ _ _ HQ.out _).mono ?_; rintro e w' ⟨rfl, b1⟩; have hb := hb.trans b1; have hB := hB.bel b1; clear b1; have c0 := hB.cell 0 _ rfl; have c1 := hB.cell 1 _ rfl; have c2 := hB.cell 2 _ rfl; have c3 := hB.cell 3 _ rfl; have c4 := hB.cell 4 _ rfl; have c5 := hB.cell 5 _ rfl; have c6 := hB.cell 6 _ rfl; have c7 := hB.cell 7 _ rfl; have c8 := hB.cell 8 _ rfl; have u0 := Box.up hB 0 _ rfl; have u1 := Box.up hB 1 _ rfl; have u2 := Box.up hB 2 _ rfl; have u3 := Box.up hB 3 _ rfl; have u4 := Box.up hB 4 _ rfl; have u5 := Box.up hB 5 _ rfl; have u6 := Box.up hB 6 _ rfl; have u7 := Box.up hB 7 _ rfl; have u8 := Box.up hB 8 _ rfl))
    go_ret
    exact ⟨rfl, hb⟩
  · have HE := Lib.hid h3
    clear h3
    clear hk
    go_enter Tryz.func32, Tryz.ntmps32
    repeat (go_wp2_with (first | (go_at_call 61; refine (isF_to _ _ HI.out _).mono ?_; rintro e w' ⟨rfl, rfl⟩) | (go_at_call 62; refine (emptyF_to _ _ _ _ _ _ HE.out _).mono ?_; rintro e w' ⟨rfl, b1⟩; have hb := hb.trans b1; have hB := hB.bel b1; clear b1; have c0 := hB.cell 0 _ rfl; have c1 := hB.cell 1 _ rfl; have c2 := hB.cell 2 _ rfl; have c3 := hB.cell 3 _ rfl; have c4 := hB.cell 4 _ rfl; have c5 := hB.cell 5 _ rfl; have c6 := hB.cell 6 _ rfl; have c7 := hB.cell 7 _ rfl; have c8 := hB.cell 8 _ rfl; have u0 := Box.up hB 0 _ rfl; have u1 := Box.up hB 1 _ rfl; have u2 := Box.up hB 2 _ rfl; have u3 := Box.up hB 3 _ rfl; have u4 := Box.up hB 4 _ rfl; have u5 := Box.up hB 5 _ rfl; have u6 := Box.up hB 6 _ rfl; have u7 := Box.up hB 7 _ rfl; have u8 := Box.up hB 8 _ rfl) | (go_at_call 63; refine (check_any _ _ _ _ _ _ HQ.out _).mono ?_; rintro e w' ⟨rfl, b1⟩; have hb := hb.trans b1; have hB := hB.bel b1; clear b1; have c0 := hB.cell 0 _ rfl; have c1 := hB.cell 1 _ rfl; have c2 := hB.cell 2 _ rfl; have c3 := hB.cell 3 _ rfl; have c4 := hB.cell 4 _ rfl; have c5 := hB.cell 5 _ rfl; have c6 := hB.cell 6 _ rfl; have c7 := hB.cell 7 _ rfl; have c8 := hB.cell 8 _ rfl; have u0 := Box.up hB 0 _ rfl; have u1 := Box.up hB 1 _ rfl; have u2 := Box.up hB 2 _ rfl; have u3 := Box.up hB 3 _ rfl; have u4 := Box.up hB 4 _ rfl; have u5 := Box.up hB 5 _ rfl; have u6 := Box.up hB 6 _ rfl; have u7 := Box.up hB 7 _ rfl; have u8 := Box.up hB 8 _ rfl)); refine region_up (by kernel_rfl) (by kernel_rfl) ?_; (repeat (go_big_quiet_step ((go_at_call 43; exact up_call _ (enough_to _ _ _ HN.out hl _))))); refine wpQuiet_nil ?_; intro _ hw'; obtain ⟨uu, rfl⟩ := hw'; have b1 := uu.b; generalize uu.v = wu at *; clear uu; have hb := hb.trans b1; have hB := hB.bel b1; clear b1; have c0 := hB.cell 0 _ rfl; have c1 := hB.cell 1 _ rfl; have c2 := hB.cell 2 _ rfl; have c3 := hB.cell 3 _ rfl; have c4 := hB.cell 4 _ rfl; have c5 := hB.cell 5 _ rfl; have c6 := hB.cell 6 _ rfl; have c7 := hB.cell 7 _ rfl; have c8 := hB.cell 8 _ rfl; have u0 := Box.up hB 0 _ rfl; have u1 := Box.up hB 1 _ rfl; have u2 := Box.up hB 2 _ rfl; have u3 := Box.up hB 3 _ rfl; have u4 := Box.up hB 4 _ rfl; have u5 := Box.up hB 5 _ rfl; have u6 := Box.up hB 6 _ rfl; have u7 := Box.up hB 7 _ rfl; have u8 := Box.up hB 8 _ rfl)
    go_wp2_with (first | (go_at_call 61; refine (isF_to _ _ HI.out _).mono ?_; rintro e w' ⟨rfl, rfl⟩) | (go_at_call 62; refine (emptyF_to _ _ _ _ _ _ HE.out _).mono ?_; rintro e w' ⟨rfl, b1⟩; have hb := hb.trans b1; have hB := hB.bel b1; clear b1; have c0 := hB.cell 0 _ rfl; have c1 := hB.cell 1 _ rfl; have c2 := hB.cell 2 _ rfl; have c3 := hB.cell 3 _ rfl; have c4 := hB.cell 4 _ rfl; have c5 := hB.cell 5 _ rfl; have c6 := hB.cell 6 _ rfl; have c7 := hB.cell 7 _ rfl; have c8 := hB.cell 8 _ rfl; have u0 := Box.up hB 0 _ rfl; have u1 := Box.up hB 1 _ rfl; have u2 := Box.up hB 2 _ rfl; have u3 := Box.up hB 3 _ rfl; have u4 := Box.up hB 4 _ rfl; have u5 := Box.up hB 5 _ rfl; have u6 := Box.up hB 6 _ rfl; have u7 := Box.up hB 7 _ rfl; have u8 := Box.up hB 8 _ rfl) | (go_at_call 63; refine (check_any _ _ _ _ _ _ HQ.out _).mono ?_; rintro e w' ⟨rfl, b1⟩; have hb := hb.trans b1; have hB := hB.bel b1; clear b1; have c0 := hB.cell 0 _ rfl; have c1 := hB.cell 1 _ rfl; have c2 := hB.cell 2 _ rfl; have c3 := hB.cell 3 _ rfl; have c4 := hB.cell 4 _ rfl; have c5 := hB.cell 5 _ rfl; have c6 := hB.cell 6 _ rfl; have c7 := hB.cell 7 _ rfl; have c8 := hB.cell 8 _ rfl; have u0 := Box.up hB 0 _ rfl; have u1 := Box.up hB 1 _ rfl; have u2 := Box.up hB 2 _ rfl; have u3 := Box.up hB 3 _ rfl; have u4 := Box.up hB 4 _ rfl; have u5 := Box.up hB 5 _ rfl; have u6 := Box.up hB 6 _ rfl; have u7 := Box.up hB 7 _ rfl; have u8 := Box.up hB 8 _ rfl))
    go_ret
    exact ⟨rfl, hb⟩
  · have HE := Lib.hid h3
    have HN := Lib.hid h4
    clear h3 h4
    clear hk
    go_enter Tryz.func32, Tryz.ntmps32
    repeat (go_wp2_with (first | (go_at_call 61; refine (isF_to _ _ HI.out _).mono ?_; rintro e w' ⟨rfl, rfl⟩) | (go_at_call 62; refine (emptyF_to _ _ _ _ _ _ HE.out _).mono ?_; rintro e w' ⟨rfl, b1⟩; have hb := hb.trans b1; have hB := hB.bel b1; clear b1; have c0 := hB.cell 0 _ rfl; have c1 := hB.cell 1 _ rfl; have c2 := hB.cell 2 _ rfl; have c3 := hB.cell 3 _ rfl; have c4 := hB.cell 4 _ rfl; have c5 := hB.cell 5 _ rfl; have c6 := hB.cell 6 _ rfl; have c7 := hB.cell 7 _ rfl; have c8 := hB.cell 8 _ rfl; have u0 := Box.up hB 0 _ rfl; have u1 := Box.up hB 1 _ rfl; have u2 := Box.up hB 2 _ rfl; have u3 := Box.up hB 3 _ rfl; have u4 := Box.up hB 4 _ rfl; have u5 := Box.up hB 5 _ rfl; have u6 := Box.up hB 6 _ rfl; have u7 := Box.up hB 7 _ rfl; have u8 := Box.up hB 8 _ rfl) | (go_at_call 63; refine (check_any _ _ _ _ _ _ HQ.out _).mono ?_; rintro e w' ⟨rfl, b1⟩; have hb := hb.trans b1; have hB := hB.bel b1; clear b1; have c0 := hB.cell 0 _ rfl; have c1 := hB.cell 1 _ rfl; have c2 := hB.cell 2 _ rfl; have c3 := hB.cell 3 _ rfl; have c4 := hB.cell 4 _ rfl; have c5 := hB.cell 5 _ rfl; have c6 := hB.cell 6 _ rfl; have c7 := hB.cell 7 _ rfl; have c8 := hB.cell 8 _ rfl; have u0 := Box.up hB 0 _ rfl; have u1 := Box.up hB 1 _ rfl; have u2 := Box.up hB 2 _ rfl; have u3 := Box.up hB 3 _ rfl; have u4 := Box.up hB 4 _ rfl; have u5 := Box.up hB 5 _ rfl; have u6 := Box.up hB 6 _ rfl; have u7 := Box.up hB 7 _ rfl; have u8 := Box.up hB 8 _ rfl)); refine region_up (by kernel_rfl) (by kernel_rfl) ?_; (repeat (go_big_quiet_step ((go_at_call 43; exact up_call _ (enough_to _ _ _ HN.out hl _))))); refine wpQuiet_nil ?_; intro _ hw'; obtain ⟨uu, rfl⟩ := hw'; have b1 := uu.b; generalize uu.v = wu at *; clear uu; have hb := hb.trans b1; have hB := hB.bel b1; clear b1; have c0 := hB.cell 0 _ rfl; have c1 := hB.cell 1 _ rfl; have c2 := hB.cell 2 _ rfl; have c3 := hB.cell 3 _ rfl; have c4 := hB.cell 4 _ rfl; have c5 := hB.cell 5 _ rfl; have c6 := hB.cell 6 _ rfl; have c7 := hB.cell 7 _ rfl; have c8 := hB.cell 8 _ rfl; have u0 := Box.up hB 0 _ rfl; have u1 := Box.up hB 1 _ rfl; have u2 := Box.up hB 2 _ rfl; have u3 := Box.up hB 3 _ rfl; have u4 := Box.up hB 4 _ rfl; have u5 := Box.up hB 5 _ rfl; have u6 := Box.up hB 6 _ rfl; have u7 := Box.up hB 7 _ rfl; have u8 := Box.up hB 8 _ rfl)
    go_wp2_with (first | (go_at_call 61; refine (isF_to _ _ HI.out _).mono ?_; rintro e w' ⟨rfl, rfl⟩) | (go_at_call 62; refine (emptyF_to _ _ _ _ _ _ HE.out _).mono ?_; rintro e w' ⟨rfl, b1⟩; have hb := hb.trans b1; have hB := hB.bel b1; clear b1; have c0 := hB.cell 0 _ rfl; have c1 := hB.cell 1 _ rfl; have c2 := hB.cell 2 _ rfl; have c3 := hB.cell 3 _ rfl; have c4 := hB.cell 4 _ rfl; have c5 := hB.cell 5 _ rfl; have c6 := hB.cell 6 _ rfl; have c7 := hB.cell 7 _ rfl; have c8 := hB.cell 8 _ rfl; have u0 := Box.up hB 0 _ rfl; have u1 := Box.up hB 1 _ rfl; have u2 := Box.up hB 2 _ rfl; have u3 := Box.up hB 3 _ rfl; have u4 := Box.up hB 4 _ rfl; have u5 := Box.up hB 5 _ rfl; have u6 := Box.up hB 6 _ rfl; have u7 := Box.up hB 7 _ rfl; have u8 := Box.up hB 8 _ rfl) | (go_at_call 63; refine (check_any _ _ _ _ _ _ HQ.out _).mono ?_; rintro e w' ⟨rfl, b1⟩; have hb := hb.trans b1; have hB := hB.bel b1; clear b1; have c0 := hB.cell 0 _ rfl; have c1 := hB.cell 1 _ rfl; have c2 := hB.cell 2 _ rfl; have c3 := hB.cell 3 _ rfl; have c4 := hB.cell 4 _ rfl; have c5 := hB.cell 5 _ rfl; have c6 := hB.cell 6 _ rfl; have c7 := hB.cell 7 _ rfl; have c8 := hB.cell 8 _ rfl; have u0 := Box.up hB 0 _ rfl; have u1 := Box.up hB 1 _ rfl; have u2 := Box.up hB 2 _ rfl; have u3 := Box.up hB 3 _ rfl; have u4 := Box.up hB 4 _ rfl; have u5 := Box.up hB 5 _ rfl; have u6 := Box.up hB 6 _ rfl; have u7 := Box.up hB 7 _ rfl; have u8 := Box.up hB 8 _ rfl))
    go_ret
    exact ⟨rfl, hb⟩
  · have HE := Lib.hid h3
    have HN := Lib.hid h4
    clear h3 h4
    clear hk
    go_enter Tryz.func32, Tryz.ntmps32
    repeat (go_wp2_with (first | (go_at_call 61; refine (isF_to _ _ HI.out _).mono ?_; rintro e w' ⟨rfl, rfl⟩) | (go_at_call 62; refine (emptyF_to _ _ _ _ _ _ HE.out _).mono ?_; rintro e w' ⟨rfl, b1⟩; have hb := hb.trans b1; have hB := hB.bel b1; clear b1; have c0 := hB.cell 0 _ rfl; have c1 := hB.cell 1 _ rfl; have c2 := hB.cell 2 _ rfl; have c3 := hB.cell 3 _ rfl; have c4 := hB.cell 4 _ rfl; have c5 := hB.cell 5 _ rfl; have c6 := hB.cell 6 _ rfl; have c7 := hB.cell 7 _ rfl; have c8 := hB.cell 8 _ rfl; have u0 := Box.up hB 0 _ rfl; have u1 := Box.up hB 1 _ rfl; have u2 := Box.up hB 2 _ rfl; have u3 := Box.up hB 3 _ rfl; have u4 := Box.up hB 4 _ rfl; have u5 := Box.up hB 5 _ rfl; have u6 := Box.up hB 6 _ rfl; have u7 := Box.up hB 7 _ rfl; have u8 := Box.up hB 8 _ rfl) | (go_at_call 63; refine (check_any _ _ _ _ _ _ HQ.out _).mono ?_; rintro e w' ⟨rfl, b1⟩; have hb := hb.trans b1; have hB := hB.bel b1; clear b1; have c0 := hB.cell 0 _ rfl; have c1 := hB.cell 1 _ rfl; have c2 := hB.cell 2 _ rfl; have c3 := hB.cell 3 _ rfl; have c4 := hB.cell 4 _ rfl; have c5 := hB.cell 5 _ rfl; have c6 := hB.cell 6 _ rfl; have c7 := hB.cell 7 _ rfl; have c8 := hB.cell 8 _ rfl; have u0 := Box.up hB 0 _ rfl; have u1 := Box.up hB 1 _ rfl; have u2 := Box.up hB 2 _ rfl; have u3 := Box.up hB 3 _ rfl; have u4 := Box.up hB 4 _ rfl; have u5 := Box.up hB 5 _ rfl; have u6 := Box.up hB 6 _ rfl; have u7 := Box.up hB 7 _ rfl; have u8 := Box.up hB 8 _ rfl)); refine region_up (by kernel_rfl) (by kernel_rfl) ?_; (repeat (go_big_quiet_step ((go_at_call 43; exact up_call _ (enough_to _ _ _ HN.out hl _))))); refine wpQuiet_nil ?_; intro _ hw'; obtain ⟨uu, rfl⟩ := hw'; have b1 := uu.b; generalize uu.v = wu at *; clear uu; have hb := hb.trans b1; have hB := hB.bel b1; clear b1; have c0 := hB.cell 0 _ rfl; have c1 := hB.cell 1 _ rfl; have c2 := hB.cell 2 _ rfl; have c3 := hB.cell 3 _ rfl; have c4 := hB.cell 4 _ rfl; have c5 := hB.cell 5 _ rfl; have c6 := hB.cell 6 _ rfl; have c7 := hB.cell 7 _ rfl; have c8 := hB.cell 8 _ rfl; have u0 := Box.up hB 0 _ rfl; have u1 := Box.up hB 1 _ rfl; have u2 := Box.up hB 2 _ rfl; have u3 := Box.up hB 3 _ rfl; have u4 := Box.up hB 4 _ rfl; have u5 := Box.up hB 5 _ rfl; have u6 := Box.up hB 6 _ rfl; have u7 := Box.up hB 7 _ rfl; have u8 := Box.up hB 8 _ rfl)
    go_wp2_with (first | (go_at_call 61; refine (isF_to _ _ HI.out _).mono ?_; rintro e w' ⟨rfl, rfl⟩) | (go_at_call 62; refine (emptyF_to _ _ _ _ _ _ HE.out _).mono ?_; rintro e w' ⟨rfl, b1⟩; have hb := hb.trans b1; have hB := hB.bel b1; clear b1; have c0 := hB.cell 0 _ rfl; have c1 := hB.cell 1 _ rfl; have c2 := hB.cell 2 _ rfl; have c3 := hB.cell 3 _ rfl; have c4 := hB.cell 4 _ rfl; have c5 := hB.cell 5 _ rfl; have c6 := hB.cell 6 _ rfl; have c7 := hB.cell 7 _ rfl; have c8 := hB.cell 8 _ rfl; have u0 := Box.up hB 0 _ rfl; have u1 := Box.up hB 1 _ rfl; have u2 := Box.up hB 2 _ rfl; have u3 := Box.up hB 3 _ rfl; have u4 := Box.up hB 4 _ rfl; have u5 := Box.up hB 5 _ rfl; have u6 := Box.up hB 6 _ rfl; have u7 := Box.up hB 7 _ rfl; have u8 := Box.up hB 8 _ rfl) | (go_at_call 63; refine (check_any _ _ _ _ _ _ HQ.out _).mono ?_; rintro e w' ⟨rfl, b1⟩; have hb := hb.trans b1; have hB := hB.bel b1; clear b1; have c0 := hB.cell 0 _ rfl; have c1 := hB.cell 1 _ rfl; have c2 := hB.cell 2 _ rfl; have c3 := hB.cell 3 _ rfl; have c4 := hB.cell 4 _ rfl; have c5 := hB.cell 5 _ rfl; have c6 := hB.cell 6 _ rfl; have c7 := hB.cell 7 _ rfl; have c8 := hB.cell 8 _ rfl; have u0 := Box.up hB 0 _ rfl; have u1 := Box.up hB 1 _ rfl; have u2 := Box.up hB 2 _ rfl; have u3 := Box.up hB 3 _ rfl; have u4 := Box.up hB 4 _ rfl; have u5 := Box.up hB 5 _ rfl; have u6 := Box.up hB 6 _ rfl; have u7 := Box.up hB 7 _ rfl; have u8 := Box.up hB 8 _ rfl))
    go_ret
    exact ⟨rfl, hb⟩
  · have g1 : (en != 0) = true := by simp; omega
    have g2 : (en == 0) = false := by simp; omega
    have g3 : decide (wy < 0) = false := by simp; omega
    have g4 : decide (4 < wy) = false := by simp; omega
    have g5 : (wy == 0) = false := by simp; omega
    have g6 : (wy != 0) = true := by simp; omega
    have HI := Lib.hid ((M.isEnc_iff en).2 h1)
    have g7 : wt.toList.isEmpty = false := by rw [Lib.toList_data]; cases hq : wt.data.toList with | nil => exact absurd hq h3 | cons a l => rfl
    clear h1 h2 h3
    clear hk
    go_enter Tryz.func32, Tryz.ntmps32
    repeat (go_wp2_with (first | (go_at_call 61; refine (isF_to _ _ HI.out _).mono ?_; rintro e w' ⟨rfl, rfl⟩) | (go_at_call 62; refine (emptyF_to _ _ _ _ _ _ HE.out _).mono ?_; rintro e w' ⟨rfl, b1⟩; have hb := hb.trans b1; have hB := hB.bel b1; clear b1; have c0 := hB.cell 0 _ rfl; have c1 := hB.cell 1 _ rfl; have c2 := hB.cell 2 _ rfl; have c3 := hB.cell 3 _ rfl; have c4 := hB.cell 4 _ rfl; have c5 := hB.cell 5 _ rfl; have c6 := hB.cell 6 _ rfl; have c7 := hB.cell 7 _ rfl; have c8 := hB.cell 8 _ rfl; have u0 := Box.up hB 0 _ rfl; have u1 := Box.up hB 1 _ rfl; have u2 := Box.up hB 2 _ rfl; have u3 := Box.up hB 3 _ rfl; have u4 := Box.up hB 4 _ rfl; have u5 := Box.up hB 5 _ rfl; have u6 := Box.up hB 6 _ rfl; have u7 := Box.up hB 7 _ rfl; have u8 := Box.up hB 8 _ rfl) | (go_at_call 63; refine (check_any _ _ _ _ _ _ HQ.out _).mono ?_; rintro e w' ⟨rfl, b1⟩; have hb := hb.trans b1; have hB := hB.bel b1; clear b1; have c0 := hB.cell 0 _ rfl; have c1 := hB.cell 1 _ rfl; have c2 := hB.cell 2 _ rfl; have c3 := hB.cell 3 _ rfl; have c4 := hB.cell 4 _ rfl; have c5 := hB.cell 5 _ rfl; have c6 := hB.cell 6 _ rfl; have c7 := hB.cell 7 _ rfl; have c8 := hB.cell 8 _ rfl; have u0 := Box.up hB 0 _ rfl; have u1 := Box.up hB 1 _ rfl; have u2 := Box.up hB 2 _ rfl; have u3 := Box.up hB 3 _ rfl; have u4 := Box.up hB 4 _ rfl; have u5 := Box.up hB 5 _ rfl; have u6 := Box.up hB 6 _ rfl; have u7 := Box.up hB 7 _ rfl; have u8 := Box.up hB 8 _ rfl)); refine region_up (by kernel_rfl) (by kernel_rfl) ?_; (repeat (go_big_quiet_step ((go_at_call 43; exact up_call _ (enough_to _ _ _ HN.out hl _))))); refine wpQuiet_nil ?_; intro _ hw'; obtain ⟨uu, rfl⟩ := hw'; have b1 := uu.b; generalize uu.v = wu at *; clear uu; have hb := hb.trans b1; have hB := hB.bel b1; clear b1; have c0 := hB.cell 0 _ rfl; have c1 := hB.cell 1 _ rfl; have c2 := hB.cell 2 _ rfl; have c3 := hB.cell 3 _ rfl; have c4 := hB.cell 4 _ rfl; have c5 := hB.cell 5 _ rfl; have c6 := hB.cell 6 _ rfl; have c7 := hB.cell 7 _ rfl; have c8 := hB.cell 8 _ rfl; have u0 := Box.up hB 0 _ rfl; have u1 := Box.up hB 1 _ rfl; have u2 := Box.up hB 2 _ rfl; have u3 := Box.up hB 3 _ rfl; have u4 := Box.up hB 4 _ rfl; have u5 := Box.up hB 5 _ rfl; have u6 := Box.up hB 6 _ rfl; have u7 := Box.up hB 7 _ rfl; have u8 := Box.up hB 8 _ rfl)
    go_wp2_with (first | (go_at_call 61; refine (isF_to _ _ HI.out _).mono ?_; rintro e w' ⟨rfl, rfl⟩) | (go_at_call 62; refine (emptyF_to _ _ _ _ _ _ HE.out _).mono ?_; rintro e w' ⟨rfl, b1⟩; have hb := hb.trans b1; have hB := hB.bel b1; clear b1; have c0 := hB.cell 0 _ rfl; have c1 := hB.cell 1 _ rfl; have c2 := hB.cell 2 _ rfl; have c3 := hB.cell 3 _ rfl; have c4 := hB.cell 4 _ rfl; have c5 := hB.cell 5 _ rfl; have c6 := hB.cell 6 _ rfl; have c7 := hB.cell 7 _ rfl; have c8 := hB.cell 8 _ rfl; have u0 := Box.up hB 0 _ rfl; have u1 := Box.up hB 1 _ rfl; have u2 := Box.up hB 2 _ rfl; have u3 := Box.up hB 3 _ rfl; have u4 := Box.up hB 4 _ rfl; have u5 := Box.up hB 5 _ rfl; have u6 := Box.up hB 6 _ rfl; have u7 := Box.up hB 7 _ rfl; have u8 := Box.up hB 8 _ rfl) | (go_at_call 63; refine (check_any _ _ _ _ _ _ HQ.out _).mono ?_; rintro e w' ⟨rfl, b1⟩; have hb := hb.trans b1; have hB := hB.bel b1; clear b1; have c0 := hB.cell 0 _ rfl; have c1 := hB.cell 1 _ rfl; have c2 := hB.cell 2 _ rfl; have c3 := hB.cell 3 _ rfl; have c4 := hB.cell 4 _ rfl; have c5 := hB.cell 5 _ rfl; have c6 := hB.cell 6 _ rfl; have c7 := hB.cell 7 _ rfl; have c8 := hB.cell 8 _ rfl; have u0 := Box.up hB 0 _ rfl; have u1 := Box.up hB 1 _ rfl; have u2 := Box.up hB 2 _ rfl; have u3 := Box.up hB 3 _ rfl; have u4 := Box.up hB 4 _ rfl; have u5 := Box.up hB 5 _ rfl; have u6 := Box.up hB 6 _ rfl; have u7 := Box.up hB 7 _ rfl; have u8 := Box.up hB 8 _ rfl))
    go_ret
    exact ⟨rfl, hb⟩
  · have g1 : (en != 0) = true := by simp; omega
    have g2 : (en == 0) = false := by simp; omega
    have g3 : decide (wy < 0) = false := by simp; omega
    have g4 : decide (4 < wy) = false := by simp; omega
    have g5 : (wy == 0) = false := by simp; omega
    have g6 : (wy != 0) = true := by simp; omega
    have g8 : (se != en) = true := by simpa using h4
    have HI := Lib.hid ((M.isEnc_iff en).2 h1)
    obtain rfl : wt = ⟨#[]⟩ := by
      apply ByteArray.ext
      simpa using h3
    clear h1 h2 h3 h4
    clear hk
    go_enter Tryz.func32, Tryz.ntmps32
    repeat (go_wp2_with (first | (go_at_call 61; refine (isF_to _ _ HI.out _).mono ?_; rintro e w' ⟨rfl, rfl⟩) | (go_at_call 62; refine (emptyF_to _ _ _ _ _ _ HE.out _).mono ?_; rintro e w' ⟨rfl, b1⟩; have hb := hb.trans b1; have hB := hB.bel b1; clear b1; have c0 := hB.cell 0 _ rfl; have c1 := hB.cell 1 _ rfl; have c2 := hB.cell 2 _ rfl; have c3 := hB.cell 3 _ rfl; have c4 := hB.cell 4 _ rfl; have c5 := hB.cell 5 _ rfl; have c6 := hB.cell 6 _ rfl; have c7 := hB.cell 7 _ rfl; have c8 := hB.cell 8 _ rfl; have u0 := Box.up hB 0 _ rfl; have u1 := Box.up hB 1 _ rfl; have u2 := Box.up hB 2 _ rfl; have u3 := Box.up hB 3 _ rfl; have u4 := Box.up hB 4 _ rfl; have u5 := Box.up hB 5 _ rfl; have u6 := Box.up hB 6 _ rfl; have u7 := Box.up hB 7 _ rfl; have u8 := Box.up hB 8 _ rfl) | (go_at_call 63; refine (check_any _ _ _ _ _ _ HQ.out _).mono ?_; rintro e w' ⟨rfl, b1⟩; have hb := hb.trans b1; have hB := hB.bel b1; clear b1; have c0 := hB.cell 0 _ rfl; have c1 := hB.cell 1 _ rfl; have c2 := hB.cell 2 _ rfl; have c3 := hB.cell 3 _ rfl; have c4 := hB.cell 4 _ rfl; have c5 := hB.cell 5 _ rfl; have c6 := hB.cell 6 _ rfl; have c7 := hB.cell 7 _ rfl; have c8 := hB.cell 8 _ rfl; have u0 := Box.up hB 0 _ rfl; have u1 := Box.up hB 1 _ rfl; have u2 := Box.up hB 2 _ rfl; have u3 := Box.up hB 3 _ rfl; have u4 := Box.up hB 4 _ rfl; have u5 := Box.up hB 5 _ rfl; have u6 := Box.up hB 6 _ rfl; have u7 := Box.up hB 7 _ rfl; have u8 := Box.up hB 8 _ rfl)); refine region_up (by kernel_rfl) (by kernel_rfl) ?_; (repeat (go_big_quiet_step ((go_at_call 43; exact up_call _ (enough_to _ _ _ HN.out hl _))))); refine wpQuiet_nil ?_; intro _ hw'; obtain ⟨uu, rfl⟩ := hw'; have b1 := uu.b; generalize uu.v = wu at *; clear uu; have hb := hb.trans b1; have hB := hB.bel b1; clear b1; have c0 := hB.cell 0 _ rfl; have c1 := hB.cell 1 _ rfl; have c2 := hB.cell 2 _ rfl; have c3 := hB.cell 3 _ rfl; have c4 := hB.cell 4 _ rfl; have c5 := hB.cell 5 _ rfl; have c6 := hB.cell 6 _ rfl; have c7 := hB.cell 7 _ rfl; have c8 := hB.cell 8 _ rfl; have u0 := Box.up hB 0 _ rfl; have u1 := Box.up hB 1 _ rfl; have u2 := Box.up hB 2 _ rfl; have u3 := Box.up hB 3 _ rfl; have u4 := Box.up hB 4 _ rfl; have u5 := Box.up hB 5 _ rfl; have u6 := Box.up hB 6 _ rfl; have u7 := Box.up hB 7 _ rfl; have u8 := Box.up hB 8 _ rfl)
    go_wp2_with (first | (go_at_call 61; refine (isF_to _ _ HI.out _).mono ?_; rintro e w' ⟨rfl, rfl⟩) | (go_at_call 62; refine (emptyF_to _ _ _ _ _ _ HE.out _).mono ?_; rintro e w' ⟨rfl, b1⟩; have hb := hb.trans b1; have hB := hB.bel b1; clear b1; have c0 := hB.cell 0 _ rfl; have c1 := hB.cell 1 _ rfl; have c2 := hB.cell 2 _ rfl; have c3 := hB.cell 3 _ rfl; have c4 := hB.cell 4 _ rfl; have c5 := hB.cell 5 _ rfl; have c6 := hB.cell 6 _ rfl; have c7 := hB.cell 7 _ rfl; have c8 := hB.cell 8 _ rfl; have u0 := Box.up hB 0 _ rfl; have u1 := Box.up hB 1 _ rfl; have u2 := Box.up hB 2 _ rfl; have u3 := Box.up hB 3 _ rfl; have u4 := Box.up hB 4 _ rfl; have u5 := Box.up hB 5 _ rfl; have u6 := Box.up hB 6 _ rfl; have u7 := Box.up hB 7 _ rfl; have u8 := Box.up hB 8 _ rfl) | (go_at_call 63; refine (check_any _ _ _ _ _ _ HQ.out _).mono ?_; rintro e w' ⟨rfl, b1⟩; have hb := hb.trans b1; have hB := hB.bel b1; clear b1; have c0 := hB.cell 0 _ rfl; have c1 := hB.cell 1 _ rfl; have c2 := hB.cell 2 _ rfl; have c3 := hB.cell 3 _ rfl; have c4 := hB.cell 4 _ rfl; have c5 := hB.cell 5 _ rfl; have c6 := hB.cell 6 _ rfl; have c7 := hB.cell 7 _ rfl; have c8 := hB.cell 8 _ rfl; have u0 := Box.up hB 0 _ rfl; have u1 := Box.up hB 1 _ rfl; have u2 := Box.up hB 2 _ rfl; have u3 := Box.up hB 3 _ rfl; have u4 := Box.up hB 4 _ rfl; have u5 := Box.up hB 5 _ rfl; have u6 := Box.up hB 6 _ rfl; have u7 := Box.up hB 7 _ rfl; have u8 := Box.up hB 8 _ rfl))
    go_ret
    exact ⟨rfl, hb⟩
  · have g1 : (se != 0) = true := by simp; omega
    have g2 : (se == 0) = false := by simp; omega
    have g3 : decide (wy < 0) = false := by simp; omega
    have g4 : decide (4 < wy) = false := by simp; omega
    have g5 : (wy == 0) = false := by simp; omega
    have g6 : (wy != 0) = true := by simp; omega
    have HI := Lib.hid ((M.isEnc_iff se).2 h1)
    obtain rfl : wt = ⟨#[]⟩ := by
      apply ByteArray.ext
      simpa using h3
    have HQ := Lib.hid h5.symm
    clear h1 h2 h3 h5
    clear hk
    go_enter Tryz.func32, Tryz.ntmps32
    repeat (go_wp2_with (first | (go_at_call 61; refine (isF_to _ _ HI.out _).mono ?_; rintro e w' ⟨rfl, rfl⟩) | (go_at_call 62; refine (emptyF_to _ _ _ _ _ _ HE.out _).mono ?_; rintro e w' ⟨rfl, b1⟩; have hb := hb.trans b1; have hB := hB.bel b1; clear b1; have c0 := hB.cell 0 _ rfl; have c1 := hB.cell 1 _ rfl; have c2 := hB.cell 2 _ rfl; have c3 := hB.cell 3 _ rfl; have c4 := hB.cell 4 _ rfl; have c5 := hB.cell 5 _ rfl; have c6 := hB.cell 6 _ rfl; have c7 := hB.cell 7 _ rfl; have c8 := hB.cell 8 _ rfl; have u0 := Box.up hB 0 _ rfl; have u1 := Box.up hB 1 _ rfl; have u2 := Box.up hB 2 _ rfl; have u3 := Box.up hB 3 _ rfl; have u4 := Box.up hB 4 _ rfl; have u5 := Box.up hB 5 _ rfl; have u6 := Box.up hB 6 _ rfl; have u7 := Box.up hB 7 _ rfl; have u8 := Box.up hB 8 _ rfl) | (go_at_call 63; refine (check_any _ _ _ _ _ _ HQ.out _).mono ?_; rintro e w' ⟨rfl, b1⟩; have hb := hb.trans b1; have hB := hB.bel b1; clear b1; have c0 := hB.cell 0 _ rfl; have c1 := hB.cell 1 _ rfl; have c2 := hB.cell 2 _ rfl; have c3 := hB.cell 3 _ rfl; have c4 := hB.cell 4 _ rfl; have c5 := hB.cell 5 _ rfl; have c6 := hB.cell 6 _ rfl; have c7 := hB.cell 7 _ rfl; have c8 := hB.cell 8 _ rfl; have u0 := Box.up hB 0 _ rfl; have u1 := Box.up hB 1 _ rfl; have u2 := Box.up hB 2 _ rfl; have u3 := Box.up hB 3 _ rfl; have u4 := Box.up hB 4 _ rfl; have u5 := Box.up hB 5 _ rfl; have u6 := Box.up hB 6 _ rfl; have u7 := Box.up hB 7 _ rfl; have u8 := Box.up hB 8 _ rfl)); refine region_up (by kernel_rfl) (by kernel_rfl) ?_; (repeat (go_big_quiet_step ((go_at_call 43; exact up_call _ (enough_to _ _ _ HN.out hl _))))); refine wpQuiet_nil ?_; intro _ hw'; obtain ⟨uu, rfl⟩ := hw'; have b1 := uu.b; generalize uu.v = wu at *; clear uu; have hb := hb.trans b1; have hB := hB.bel b1; clear b1; have c0 := hB.cell 0 _ rfl; have c1 := hB.cell 1 _ rfl; have c2 := hB.cell 2 _ rfl; have c3 := hB.cell 3 _ rfl; have c4 := hB.cell 4 _ rfl; have c5 := hB.cell 5 _ rfl; have c6 := hB.cell 6 _ rfl; have c7 := hB.cell 7 _ rfl; have c8 := hB.cell 8 _ rfl; have u0 := Box.up hB 0 _ rfl; have u1 := Box.up hB 1 _ rfl; have u2 := Box.up hB 2 _ rfl; have u3 := Box.up hB 3 _ rfl; have u4 := Box.up hB 4 _ rfl; have u5 := Box.up hB 5 _ rfl; have u6 := Box.up hB 6 _ rfl; have u7 := Box.up hB 7 _ rfl; have u8 := Box.up hB 8 _ rfl)
    go_wp2_with (first | (go_at_call 61; refine (isF_to _ _ HI.out _).mono ?_; rintro e w' ⟨rfl, rfl⟩) | (go_at_call 62; refine (emptyF_to _ _ _ _ _ _ HE.out _).mono ?_; rintro e w' ⟨rfl, b1⟩; have hb := hb.trans b1; have hB := hB.bel b1; clear b1; have c0 := hB.cell 0 _ rfl; have c1 := hB.cell 1 _ rfl; have c2 := hB.cell 2 _ rfl; have c3 := hB.cell 3 _ rfl; have c4 := hB.cell 4 _ rfl; have c5 := hB.cell 5 _ rfl; have c6 := hB.cell 6 _ rfl; have c7 := hB.cell 7 _ rfl; have c8 := hB.cell 8 _ rfl; have u0 := Box.up hB 0 _ rfl; have u1 := Box.up hB 1 _ rfl; have u2 := Box.up hB 2 _ rfl; have u3 := Box.up hB 3 _ rfl; have u4 := Box.up hB 4 _ rfl; have u5 := Box.up hB 5 _ rfl; have u6 := Box.up hB 6 _ rfl; have u7 := Box.up hB 7 _ rfl; have u8 := Box.up hB 8 _ rfl) | (go_at_call 63; refine (check_any _ _ _ _ _ _ HQ.out _).mono ?_; rintro e w' ⟨rfl, b1⟩; have hb := hb.trans b1; have hB := hB.bel b1; clear b1; have c0 := hB.cell 0 _ rfl; have c1 := hB.cell 1 _ rfl; have c2 := hB.cell 2 _ rfl; have c3 := hB.cell 3 _ rfl; have c4 := hB.cell 4 _ rfl; have c5 := hB.cell 5 _ rfl; have c6 := hB.cell 6 _ rfl; have c7 := hB.cell 7 _ rfl; have c8 := hB.cell 8 _ rfl; have u0 := Box.up hB 0 _ rfl; have u1 := Box.up hB 1 _ rfl; have u2 := Box.up hB 2 _ rfl; have u3 := Box.up hB 3 _ rfl; have u4 := Box.up hB 4 _ rfl; have u5 := Box.up hB 5 _ rfl; have u6 := Box.up hB 6 _ rfl; have u7 := Box.up hB 7 _ rfl; have u8 := Box.up hB 8 _ rfl))
    go_ret
    exact ⟨rfl, hb⟩
end Go.Proofs.YtcgdecpjlggekaaGreatDoor

/-
  Package stream: Feed.
-/
namespace Go.Proofs.YtcgdecpjlggekaaGreatDoor
open Go.RowKit
set_option maxRecDepth 1000000

theorem check_to (n : Int) (r : ByteArray) (sg : Int) (fr st : Bool) (k : Int) (hk : M.checkM ⟨n, r.data.toList, sg, fr, st⟩ = k) (w : World) : Calls Tryz.prog 63 #[.agg #[.int .i64 n, .string r, .int .i64 sg, .bool fr, .bool st]] w fun e w' => e = .returned (.int .i64 k) ∧ Bel w w' := check_any n r sg fr st k hk w
end Go.Proofs.YtcgdecpjlggekaaGreatDoor

/-
  Package front: the chooser is fed.
-/
namespace Go.Proofs.YtcgdecpjlggekaaGreatDoor
open Go.RowKit
set_option maxRecDepth 1000000
set_option maxHeartbeats 1000000

def ftC (F : M.Ft) : List Value := [.string ⟨F.label.toArray⟩, .int .i64 F.enc, .int .i64 F.why, .string ⟨F.wait.toArray⟩, .int .i64 F.state.enc, .string ⟨F.state.rest.toArray⟩, .int .i64 F.state.signs, .bool F.state.fresh, .bool F.state.stopped]
theorem str_back (a : ByteArray) : (⟨a.data.toList.toArray⟩ : ByteArray) = a := by apply ByteArray.ext; simp
theorem str_app (a b : ByteArray) : (⟨(a.data.toList ++ b.data.toList).toArray⟩ : ByteArray) = a ++ b := by apply ByteArray.ext; simp
/-- Bytes wait. -/
theorem feedA_wait (g : Nat) (lb wt : ByteArray) (b : ByteArray) (hl : lb.size ≤ 3000) (hw : wt.size ≤ 3000) (hb3 : b.size ≤ 3000) (hn : M.enough lb.data.toList (wt ++ b).data.toList = false) (w : World)
    (hB : Box w g 51 [.string lb, .int .i64 0, .int .i64 0, .string wt, .int .i64 0, .string ⟨#[]⟩, .int .i64 0, .bool false, .bool false]) :
    Calls Tryz.prog 23 #[.pointer (some ⟨g, 0, none⟩), .string b, .bool false] w fun e w' => e = .returned (.slice none 0 0) ∧ Box w' g 51 [.string lb, .int .i64 0, .int .i64 0, .string (wt ++ b), .int .i64 0, .string ⟨#[]⟩, .int .i64 0, .bool false, .bool false] ∧ Below g w w' := by
  have HN := Lib.hid hn
  have hlt := hB.lt
  have c0 := hB.cell 0 _ rfl; have c1 := hB.cell 1 _ rfl; have c2 := hB.cell 2 _ rfl; have c3 := hB.cell 3 _ rfl; have c4 := hB.cell 4 _ rfl; have c5 := hB.cell 5 _ rfl; have c6 := hB.cell 6 _ rfl; have c7 := hB.cell 7 _ rfl; have c8 := hB.cell 8 _ rfl; have f0 := hB.frozen 0; have f1 := hB.frozen 1; have f2 := hB.frozen 2; have f3 := hB.frozen 3; have f4 := hB.frozen 4; have f5 := hB.frozen 5; have f6 := hB.frozen 6; have f7 := hB.frozen 7; have f8 := hB.frozen 8
  clear hn
  go_enter Tryz.func23, Tryz.ntmps23
  go_wp2_with fail
  refine (enough_to lb (wt ++ b) _ HN.out (by omega) _).mono ?_
  rintro e w1 ⟨rfl, b1⟩
  have hB1 := Box.bel (hB.set 3 (.string (wt ++ b))) b1
  have k1 : Below g w (w.setCell ⟨g, 3, none⟩ (.string (wt ++ b))) := Below.setCell (Below.refl g w) (Nat.le_refl _) _
  have k2 : Below g w w1 := Below.trans k1 (Below.mono b1 (by simp; omega))
  go_wp2_with fail
  go_ret
  exact ⟨rfl, hB1, k2⟩
/-- Bytes come to a decoder that is chosen. -/
theorem feedC_on (g : Nat) (lb : ByteArray) (en wy : Int) (se : Int) (rs : ByteArray) (sg : Int) (fr st : Bool) (b : ByteArray) (last : Bool) (hy : wy ≠ 0) (hr : M.Right ⟨se, rs.data.toList, sg, fr, st⟩) (hsz : b.size ≤ 9000) (xs : List Int) (d2 : M.St) (h : M.rawM ⟨se, rs.data.toList, sg, fr, st⟩ b.data.toList last = (xs, d2)) (w : World)
    (hB : Box w g 51 [.string lb, .int .i64 en, .int .i64 wy, .string ⟨#[]⟩, .int .i64 se, .string rs, .int .i64 sg, .bool fr, .bool st]) :
    Calls Tryz.prog 23 #[.pointer (some ⟨g, 0, none⟩), .string b, .bool last] w fun e w' => ∃ v, e = .returned v ∧ Own w.heap.size 3 w' v (xs.map (Value.int .i64)) ∧ Box w' g 51 [.string lb, .int .i64 en, .int .i64 wy, .string ⟨#[]⟩, .int .i64 d2.enc, .string ⟨d2.rest.toArray⟩, .int .i64 d2.signs, .bool d2.fresh, .bool d2.stopped] ∧ Below g w w' := by
  have HR := Lib.hid hr
  have HW := Lib.hid h
  have g5 : (wy == 0) = false := by simpa using hy
  have hlt := hB.lt
  clear hr h hy
  have c0 := hB.cell 0 _ rfl; have c1 := hB.cell 1 _ rfl; have c2 := hB.cell 2 _ rfl; have c3 := hB.cell 3 _ rfl; have c4 := hB.cell 4 _ rfl; have c5 := hB.cell 5 _ rfl; have c6 := hB.cell 6 _ rfl; have c7 := hB.cell 7 _ rfl; have c8 := hB.cell 8 _ rfl; have f0 := hB.frozen 0; have f1 := hB.frozen 1; have f2 := hB.frozen 2; have f3 := hB.frozen 3; have f4 := hB.frozen 4; have f5 := hB.frozen 5; have f6 := hB.frozen 6; have f7 := hB.frozen 7; have f8 := hB.frozen 8
  go_enter Tryz.func23, Tryz.ntmps23
  go_wp2_with fail
  refine (rawS_any _ _ _ _ _ _ _ HR.out hsz _ _ HW.out _).mono ?_
  rintro e w3 ⟨v2, rfl, o2, b2⟩
  rw [stV]
  have hB2 := hB
  have hB3 := Box.bel hB2 b2
  have hN := Box.new w3 23 [.int .i64 d2.enc, .string ⟨d2.rest.toArray⟩, .int .i64 d2.signs, .bool d2.fresh, .bool d2.stopped]
  have hB4 := hB3.bel ((Bel.refl w3).alloc (.cells #[.int .i64 d2.enc, .string ⟨d2.rest.toArray⟩, .int .i64 d2.signs, .bool d2.fresh, .bool d2.stopped] 23))
  have hlt3 := hB3.lt
  have hgN : g ≠ w3.heap.size := by omega
  have k1 : Below g w (w3.alloc (.cells #[.int .i64 d2.enc, .string ⟨d2.rest.toArray⟩, .int .i64 d2.signs, .bool d2.fresh, .bool d2.stopped] 23)) := Below.mono (b2.alloc _) (by omega)
  have o4 := o2.alloc (.cells #[.int .i64 d2.enc, .string ⟨d2.rest.toArray⟩, .int .i64 d2.signs, .bool d2.fresh, .bool d2.stopped] 23)
  clear hB hB2 hB3 o2 b2
  go_upto_region 10 with fail
  generalize (w3.alloc (.cells #[.int .i64 d2.enc, .string ⟨d2.rest.toArray⟩, .int .i64 d2.signs, .bool d2.fresh, .bool d2.stopped] 23)) = W at *
  generalize w3.heap.size = q at *
  have gq : ¬ q = g := fun h9 => hgN h9.symm
  have c0 := hB4.cell 0 _ rfl; have c1 := hB4.cell 1 _ rfl; have c2 := hB4.cell 2 _ rfl; have c3 := hB4.cell 3 _ rfl; have c4 := hB4.cell 4 _ rfl; have c5 := hB4.cell 5 _ rfl; have c6 := hB4.cell 6 _ rfl; have c7 := hB4.cell 7 _ rfl; have c8 := hB4.cell 8 _ rfl; have f0 := hB4.frozen 0; have f1 := hB4.frozen 1; have f2 := hB4.frozen 2; have f3 := hB4.frozen 3; have f4 := hB4.frozen 4; have f5 := hB4.frozen 5; have f6 := hB4.frozen 6; have f7 := hB4.frozen 7; have f8 := hB4.frozen 8
  have n0 := hN.cell 0 _ rfl
  have n1 := hN.cell 1 _ rfl
  have n2 := hN.cell 2 _ rfl
  have n3 := hN.cell 3 _ rfl
  have n4 := hN.cell 4 _ rfl
  clear hN
  go_wp2_with fail
  go_ret
  exact ⟨_, rfl, ((((o4.setCell (p := ⟨g, 4, none⟩) hlt _).setCell (p := ⟨g, 5, none⟩) hlt _).setCell (p := ⟨g, 6, none⟩) hlt _).setCell (p := ⟨g, 7, none⟩) hlt _).setCell (p := ⟨g, 8, none⟩) hlt _,
    ((((hB4.set 4 _).set 5 _).set 6 _).set 7 _).set 8 _, ((((k1.setCell (p := ⟨g, 4, none⟩) (Nat.le_refl _) _).setCell (p := ⟨g, 5, none⟩) (Nat.le_refl _) _).setCell (p := ⟨g, 6, none⟩) (Nat.le_refl _) _).setCell (p := ⟨g, 7, none⟩) (Nat.le_refl _) _).setCell (p := ⟨g, 8, none⟩) (Nat.le_refl _) _⟩
theorem Len.far {w : World} {g : Nat} {s : ByteArray} (h : Len w) (hc : w.cell? ⟨g, 0, none⟩ = some (.string s)) (i : Nat) (v : Value) : Len (w.setCell ⟨g, i, none⟩ v) := by
  obtain ⟨m, hm⟩ := h
  have hne : 0 ≠ g := by
    intro e
    rw [← e, hm] at hc
    cases hc
  refine ⟨m, ?_⟩
  unfold World.cell? at hm ⊢
  rw [Below.heap_setCell w ⟨g, i, none⟩ v _ hne]
  exact hm
/-- Bytes come, and it is chosen. -/
theorem feedB_ch (g : Nat) (lb wt : ByteArray) (b : ByteArray) (last : Bool) (hl : lb.size ≤ 3000) (hw : wt.size ≤ 3000) (hb3 : b.size ≤ 3000) (hn : last = true ∨ M.enough lb.data.toList (wt ++ b).data.toList = true)
    (n y : Int) (k : Nat) (hc : M.chosen lb.data.toList (wt ++ b).data.toList = (n, y, (k : Int))) (hkz : k ≤ (wt ++ b).size) (hi : M.isEnc n = true) (xs : List Int) (d2 : M.St)
    (h : M.rawM (M.opn n) ((wt ++ b).extract k (wt ++ b).size).data.toList last = (xs, d2)) (w : World) (hL : Len w)
    (hB : Box w g 51 [.string lb, .int .i64 0, .int .i64 0, .string wt, .int .i64 0, .string ⟨#[]⟩, .int .i64 0, .bool false, .bool false]) :
    Calls Tryz.prog 23 #[.pointer (some ⟨g, 0, none⟩), .string b, .bool last] w fun e w' => ∃ v, e = .returned v ∧ Own w.heap.size 3 w' v (xs.map (Value.int .i64)) ∧ Box w' g 51 [.string lb, .int .i64 n, .int .i64 y, .string ⟨#[]⟩, .int .i64 d2.enc, .string ⟨d2.rest.toArray⟩, .int .i64 d2.signs, .bool d2.fresh, .bool d2.stopped] ∧ Below g w w' := by
  have hz1 : (wt ++ b).size = wt.size + b.size := by rw [Lib.size_eq, data_append, List.length_append, ← Lib.size_eq, ← Lib.size_eq]
  obtain ⟨z, hz⟩ : ∃ z, wt ++ b = z := ⟨_, rfl⟩
  rw [hz] at hn hc hkz h hz1
  have HR := Lib.hid (show M.Right ⟨n, (⟨#[]⟩ : ByteArray).data.toList, 0, false, false⟩ from M.right_opn n hi)
  have HC := Lib.hid hc
  have HW := Lib.hid (show M.rawM ⟨n, (⟨#[]⟩ : ByteArray).data.toList, 0, false, false⟩ (z.extract k z.size).data.toList last = (xs, d2) from h)
  have hkk : (0 : Int) ≤ (k : Int) ∧ (k : Int) ≤ (z.size : Int) := by omega
  have hsz : (z.extract k z.size).size ≤ 9000 := by rw [ByteArray.size_extract]; omega
  have hlt := hB.lt
  have hL1 := hL.far (hB.cell 0 _ rfl) 3 (.string z)
  have k1 : Below g w (w.setCell ⟨g, 3, none⟩ (.string z)) := Below.setCell (Below.refl g w) (Nat.le_refl _) _
  have hB1 := hB.set 3 (.string z)
  have hz6 : z.size ≤ 6000 := by omega
  have hkk2 : k ≤ z.size := hkz
  clear hc h hi hz1
  have c0 := hB.cell 0 _ rfl; have c1 := hB.cell 1 _ rfl; have c2 := hB.cell 2 _ rfl; have c3 := hB.cell 3 _ rfl; have c4 := hB.cell 4 _ rfl; have c5 := hB.cell 5 _ rfl; have c6 := hB.cell 6 _ rfl; have c7 := hB.cell 7 _ rfl; have c8 := hB.cell 8 _ rfl; have f0 := hB.frozen 0; have f1 := hB.frozen 1; have f2 := hB.frozen 2; have f3 := hB.frozen 3; have f4 := hB.frozen 4; have f5 := hB.frozen 5; have f6 := hB.frozen 6; have f7 := hB.frozen 7; have f8 := hB.frozen 8
  cases last with
  | true =>
    clear hn
    go_enter Tryz.func23, Tryz.ntmps23
    go_wp2_with fail
    refine (chosen_to lb z _ _ _ HC.out (by omega) (by omega) _ hL1).mono ?_
    rintro e w2 ⟨rfl, b2⟩
    have hB2 := Box.bel hB1 b2
    have hlt2 := hB2.lt
    have k2 : Below g w w2 := Below.trans k1 (Below.mono b2 (by simp; omega))
    clear b2
    have c0 := hB2.cell 0 _ rfl; have c1 := hB2.cell 1 _ rfl; have c2 := hB2.cell 2 _ rfl; have c3 := hB2.cell 3 _ rfl; have c4 := hB2.cell 4 _ rfl; have c5 := hB2.cell 5 _ rfl; have c6 := hB2.cell 6 _ rfl; have c7 := hB2.cell 7 _ rfl; have c8 := hB2.cell 8 _ rfl; have f0 := hB2.frozen 0; have f1 := hB2.frozen 1; have f2 := hB2.frozen 2; have f3 := hB2.frozen 3; have f4 := hB2.frozen 4; have f5 := hB2.frozen 5; have f6 := hB2.frozen 6; have f7 := hB2.frozen 7; have f8 := hB2.frozen 8
    go_wp2_with fail
    refine (rawS_any n ⟨#[]⟩ 0 false false (z.extract k z.size) _ HR.out hsz _ _ HW.out _).mono ?_
    rintro e w3 ⟨v2, rfl, o2, b3⟩
    rw [stV]
    have hB3 := Box.bel ((((((((hB2.set 1 (.int .i64 n)).set 2 (.int .i64 y)).set 3 (.string ⟨#[]⟩)).set 4 (.int .i64 n)).set 5 (.string ⟨#[]⟩)).set 6 (.int .i64 0)).set 7 (.bool false)).set 8 (.bool false)) b3
    have k3 : Below g w w3 := Below.trans ((((((((k2.setCell (p := ⟨g, 1, none⟩) (Nat.le_refl _) (.int .i64 n)).setCell (p := ⟨g, 2, none⟩) (Nat.le_refl _) (.int .i64 y)).setCell (p := ⟨g, 3, none⟩) (Nat.le_refl _) (.string ⟨#[]⟩)).setCell (p := ⟨g, 4, none⟩) (Nat.le_refl _) (.int .i64 n)).setCell (p := ⟨g, 5, none⟩) (Nat.le_refl _) (.string ⟨#[]⟩)).setCell (p := ⟨g, 6, none⟩) (Nat.le_refl _) (.int .i64 0)).setCell (p := ⟨g, 7, none⟩) (Nat.le_refl _) (.bool false)).setCell (p := ⟨g, 8, none⟩) (Nat.le_refl _) (.bool false)) (Below.mono b3 (by simp; omega))
    have o3 := o2.mono (show w.heap.size ≤ _ by simp; exact k2.size)
    clear o2 b3 hB2 k2
    have hB4 := hB3.bel ((Bel.refl w3).alloc (.cells #[.int .i64 d2.enc, .string ⟨d2.rest.toArray⟩, .int .i64 d2.signs, .bool d2.fresh, .bool d2.stopped] 23))
    have hlt3 := hB3.lt
    have hgN : g ≠ w3.heap.size := by omega
    have hN := Box.new w3 23 [.int .i64 d2.enc, .string ⟨d2.rest.toArray⟩, .int .i64 d2.signs, .bool d2.fresh, .bool d2.stopped]
    have k4 : Below g w (w3.alloc (.cells #[.int .i64 d2.enc, .string ⟨d2.rest.toArray⟩, .int .i64 d2.signs, .bool d2.fresh, .bool d2.stopped] 23)) := Below.trans k3 (Below.mono ((Bel.refl w3).alloc _) (by omega))
    have o4 := o3.alloc (.cells #[.int .i64 d2.enc, .string ⟨d2.rest.toArray⟩, .int .i64 d2.signs, .bool d2.fresh, .bool d2.stopped] 23)
    clear hB3 o3 k3
    go_upto_region 10 with fail
    generalize (w3.alloc (.cells #[.int .i64 d2.enc, .string ⟨d2.rest.toArray⟩, .int .i64 d2.signs, .bool d2.fresh, .bool d2.stopped] 23)) = W at *
    generalize w3.heap.size = q at *
    have gq : ¬ q = g := fun h9 => hgN h9.symm
    have c0 := hB4.cell 0 _ rfl; have c1 := hB4.cell 1 _ rfl; have c2 := hB4.cell 2 _ rfl; have c3 := hB4.cell 3 _ rfl; have c4 := hB4.cell 4 _ rfl; have c5 := hB4.cell 5 _ rfl; have c6 := hB4.cell 6 _ rfl; have c7 := hB4.cell 7 _ rfl; have c8 := hB4.cell 8 _ rfl; have f0 := hB4.frozen 0; have f1 := hB4.frozen 1; have f2 := hB4.frozen 2; have f3 := hB4.frozen 3; have f4 := hB4.frozen 4; have f5 := hB4.frozen 5; have f6 := hB4.frozen 6; have f7 := hB4.frozen 7; have f8 := hB4.frozen 8
    have n0 := hN.cell 0 _ rfl
    have n1 := hN.cell 1 _ rfl
    have n2 := hN.cell 2 _ rfl
    have n3 := hN.cell 3 _ rfl
    have n4 := hN.cell 4 _ rfl
    clear hN
    go_wp2_with fail
    go_ret
    exact ⟨_, rfl, ((((o4.setCell (p := ⟨g, 4, none⟩) hlt _).setCell (p := ⟨g, 5, none⟩) hlt _).setCell (p := ⟨g, 6, none⟩) hlt _).setCell (p := ⟨g, 7, none⟩) hlt _).setCell (p := ⟨g, 8, none⟩) hlt _,
      ((((hB4.set 4 _).set 5 _).set 6 _).set 7 _).set 8 _, ((((k4.setCell (p := ⟨g, 4, none⟩) (Nat.le_refl _) _).setCell (p := ⟨g, 5, none⟩) (Nat.le_refl _) _).setCell (p := ⟨g, 6, none⟩) (Nat.le_refl _) _).setCell (p := ⟨g, 7, none⟩) (Nat.le_refl _) _).setCell (p := ⟨g, 8, none⟩) (Nat.le_refl _) _⟩
  | false =>
    have HN := Lib.hid (show M.enough lb.data.toList z.data.toList = true by rcases hn with h | h; cases h; exact h)
    clear hn
    go_enter Tryz.func23, Tryz.ntmps23
    go_wp2_with fail
    refine (enough_to lb z _ HN.out (by omega) _).mono ?_
    rintro e w1 ⟨rfl, b1⟩
    have hL2 := hL1.bel b1
    have hB5 := hB1.bel b1
    have hlt5 := hB5.lt
    have k5 : Below g w w1 := Below.trans k1 (Below.mono b1 (by simp; omega))
    have c0 := hB5.cell 0 _ rfl; have c1 := hB5.cell 1 _ rfl; have c2 := hB5.cell 2 _ rfl; have c3 := hB5.cell 3 _ rfl; have c4 := hB5.cell 4 _ rfl; have c5 := hB5.cell 5 _ rfl; have c6 := hB5.cell 6 _ rfl; have c7 := hB5.cell 7 _ rfl; have c8 := hB5.cell 8 _ rfl; have f0 := hB5.frozen 0; have f1 := hB5.frozen 1; have f2 := hB5.frozen 2; have f3 := hB5.frozen 3; have f4 := hB5.frozen 4; have f5 := hB5.frozen 5; have f6 := hB5.frozen 6; have f7 := hB5.frozen 7; have f8 := hB5.frozen 8
    go_wp2_with fail
    refine (chosen_to lb z _ _ _ HC.out (by omega) (by omega) _ hL2).mono ?_
    rintro e w2 ⟨rfl, b2⟩
    have hB2 := Box.bel hB5 b2
    have hlt2 := hB2.lt
    have k2 : Below g w w2 := Below.trans k5 (Below.mono b2 (by omega))
    clear b2
    have c0 := hB2.cell 0 _ rfl; have c1 := hB2.cell 1 _ rfl; have c2 := hB2.cell 2 _ rfl; have c3 := hB2.cell 3 _ rfl; have c4 := hB2.cell 4 _ rfl; have c5 := hB2.cell 5 _ rfl; have c6 := hB2.cell 6 _ rfl; have c7 := hB2.cell 7 _ rfl; have c8 := hB2.cell 8 _ rfl; have f0 := hB2.frozen 0; have f1 := hB2.frozen 1; have f2 := hB2.frozen 2; have f3 := hB2.frozen 3; have f4 := hB2.frozen 4; have f5 := hB2.frozen 5; have f6 := hB2.frozen 6; have f7 := hB2.frozen 7; have f8 := hB2.frozen 8
    go_wp2_with fail
    refine (rawS_any n ⟨#[]⟩ 0 false false (z.extract k z.size) _ HR.out hsz _ _ HW.out _).mono ?_
    rintro e w3 ⟨v2, rfl, o2, b3⟩
    rw [stV]
    have hB3 := Box.bel ((((((((hB2.set 1 (.int .i64 n)).set 2 (.int .i64 y)).set 3 (.string ⟨#[]⟩)).set 4 (.int .i64 n)).set 5 (.string ⟨#[]⟩)).set 6 (.int .i64 0)).set 7 (.bool false)).set 8 (.bool false)) b3
    have k3 : Below g w w3 := Below.trans ((((((((k2.setCell (p := ⟨g, 1, none⟩) (Nat.le_refl _) (.int .i64 n)).setCell (p := ⟨g, 2, none⟩) (Nat.le_refl _) (.int .i64 y)).setCell (p := ⟨g, 3, none⟩) (Nat.le_refl _) (.string ⟨#[]⟩)).setCell (p := ⟨g, 4, none⟩) (Nat.le_refl _) (.int .i64 n)).setCell (p := ⟨g, 5, none⟩) (Nat.le_refl _) (.string ⟨#[]⟩)).setCell (p := ⟨g, 6, none⟩) (Nat.le_refl _) (.int .i64 0)).setCell (p := ⟨g, 7, none⟩) (Nat.le_refl _) (.bool false)).setCell (p := ⟨g, 8, none⟩) (Nat.le_refl _) (.bool false)) (Below.mono b3 (by simp; omega))
    have o3 := o2.mono (show w.heap.size ≤ _ by simp; exact k2.size)
    clear o2 b3 hB2 k2
    have hB4 := hB3.bel ((Bel.refl w3).alloc (.cells #[.int .i64 d2.enc, .string ⟨d2.rest.toArray⟩, .int .i64 d2.signs, .bool d2.fresh, .bool d2.stopped] 23))
    have hlt3 := hB3.lt
    have hgN : g ≠ w3.heap.size := by omega
    have hN := Box.new w3 23 [.int .i64 d2.enc, .string ⟨d2.rest.toArray⟩, .int .i64 d2.signs, .bool d2.fresh, .bool d2.stopped]
    have k4 : Below g w (w3.alloc (.cells #[.int .i64 d2.enc, .string ⟨d2.rest.toArray⟩, .int .i64 d2.signs, .bool d2.fresh, .bool d2.stopped] 23)) := Below.trans k3 (Below.mono ((Bel.refl w3).alloc _) (by omega))
    have o4 := o3.alloc (.cells #[.int .i64 d2.enc, .string ⟨d2.rest.toArray⟩, .int .i64 d2.signs, .bool d2.fresh, .bool d2.stopped] 23)
    clear hB3 o3 k3
    go_upto_region 10 with fail
    generalize (w3.alloc (.cells #[.int .i64 d2.enc, .string ⟨d2.rest.toArray⟩, .int .i64 d2.signs, .bool d2.fresh, .bool d2.stopped] 23)) = W at *
    generalize w3.heap.size = q at *
    have gq : ¬ q = g := fun h9 => hgN h9.symm
    have c0 := hB4.cell 0 _ rfl; have c1 := hB4.cell 1 _ rfl; have c2 := hB4.cell 2 _ rfl; have c3 := hB4.cell 3 _ rfl; have c4 := hB4.cell 4 _ rfl; have c5 := hB4.cell 5 _ rfl; have c6 := hB4.cell 6 _ rfl; have c7 := hB4.cell 7 _ rfl; have c8 := hB4.cell 8 _ rfl; have f0 := hB4.frozen 0; have f1 := hB4.frozen 1; have f2 := hB4.frozen 2; have f3 := hB4.frozen 3; have f4 := hB4.frozen 4; have f5 := hB4.frozen 5; have f6 := hB4.frozen 6; have f7 := hB4.frozen 7; have f8 := hB4.frozen 8
    have n0 := hN.cell 0 _ rfl
    have n1 := hN.cell 1 _ rfl
    have n2 := hN.cell 2 _ rfl
    have n3 := hN.cell 3 _ rfl
    have n4 := hN.cell 4 _ rfl
    clear hN
    go_wp2_with fail
    go_ret
    exact ⟨_, rfl, ((((o4.setCell (p := ⟨g, 4, none⟩) hlt _).setCell (p := ⟨g, 5, none⟩) hlt _).setCell (p := ⟨g, 6, none⟩) hlt _).setCell (p := ⟨g, 7, none⟩) hlt _).setCell (p := ⟨g, 8, none⟩) hlt _,
      ((((hB4.set 4 _).set 5 _).set 6 _).set 7 _).set 8 _, ((((k4.setCell (p := ⟨g, 4, none⟩) (Nat.le_refl _) _).setCell (p := ⟨g, 5, none⟩) (Nat.le_refl _) _).setCell (p := ⟨g, 6, none⟩) (Nat.le_refl _) _).setCell (p := ⟨g, 7, none⟩) (Nat.le_refl _) _).setCell (p := ⟨g, 8, none⟩) (Nat.le_refl _) _⟩
end Go.Proofs.YtcgdecpjlggekaaGreatDoor

/-
  Package front: Begin, Check, Feed.
-/
namespace Go.Proofs.YtcgdecpjlggekaaGreatDoor
open Go.RowKit
set_option maxRecDepth 1000000
set_option maxHeartbeats 4000000

theorem drop_extF (s : ByteArray) (k : Nat) : (s.extract k s.size).data.toList = s.data.toList.drop k := by
  rw [Lib.extract_data, List.take_of_length_le]
  rw [List.length_drop, ← Lib.size_eq]
  exact Nat.le_refl _
theorem begin_yes (nm : ByteArray) (h : nm.size ≤ 3000) (w : World) : Calls Tryz.prog 6 #[.string nm] w fun e w' => e = .returned (.tuple #[.agg #[.string nm, .int .i64 0, .int .i64 0, .string ⟨#[]⟩, .int .i64 0, .string ⟨#[]⟩, .int .i64 0, .bool false, .bool false], .int .i64 0]) ∧ Bel w w' := by
  have H1 := Lib.hid (decide_eq_false (show ¬ 3000 < nm.size by omega))
  clear h
  go_enter Tryz.func6, Tryz.ntmps6
  go_wp2_with (go_at_call 21; refine (longF_to nm _ H1.out _).mono ?_; rintro e w' ⟨rfl, rfl⟩)
  refine bodyPost_ret (v := .tuple #[.agg #[.string nm, .int .i64 0, .int .i64 0, .string ⟨#[]⟩, .int .i64 0, .string ⟨#[]⟩, .int .i64 0, .bool false, .bool false], .int .i64 0]) (by simp [results, Tryz.results6, go_sem]) rfl ?_
  exact ⟨rfl, (by repeat (first | exact Bel.refl _ | refine Bel.drewN ?_ _ | refine Bel.drew ?_ | refine Bel.alloc ?_ _ | refine Bel.trans ?_ (by assumption) | refine Bel.setCell ?_ (by simp; omega) _))⟩
theorem begin_no (nm : ByteArray) (h : 3000 < nm.size) (w : World) : Calls Tryz.prog 6 #[.string nm] w fun e w' => e = .returned (.tuple #[.agg #[.string ⟨#[]⟩, .int .i64 0, .int .i64 0, .string ⟨#[]⟩, .int .i64 0, .string ⟨#[]⟩, .int .i64 0, .bool false, .bool false], .int .i64 2]) ∧ Bel w w' := by
  have H1 := Lib.hid (decide_eq_true h)
  clear h
  go_enter Tryz.func6, Tryz.ntmps6
  go_wp2_with (go_at_call 21; refine (longF_to nm _ H1.out _).mono ?_; rintro e w' ⟨rfl, rfl⟩)
  refine bodyPost_ret (v := .tuple #[.agg #[.string ⟨#[]⟩, .int .i64 0, .int .i64 0, .string ⟨#[]⟩, .int .i64 0, .string ⟨#[]⟩, .int .i64 0, .bool false, .bool false], .int .i64 2]) (by simp [results, Tryz.results6, go_sem]) rfl ?_
  exact ⟨rfl, (by repeat (first | exact Bel.refl _ | refine Bel.drewN ?_ _ | refine Bel.drew ?_ | refine Bel.alloc ?_ _ | refine Bel.trans ?_ (by assumption) | refine Bel.setCell ?_ (by simp; omega) _))⟩
theorem checkFr_to (lb : ByteArray) (en wy : Int) (wt : ByteArray) (se : Int) (rs : ByteArray) (sg : Int) (fr st : Bool) (k : Int) (hk : M.checkF ⟨lb.data.toList, en, wy, wt.data.toList, ⟨se, rs.data.toList, sg, fr, st⟩⟩ = k) (w : World) :
    Calls Tryz.prog 13 #[.agg #[.string lb, .int .i64 en, .int .i64 wy, .string wt, .int .i64 se, .string rs, .int .i64 sg, .bool fr, .bool st]] w fun e w' => e = .returned (.int .i64 k) ∧ Bel w w' := by
  have hb : Bel w (w.alloc (.cells #[.string lb, .int .i64 en, .int .i64 wy, .string wt, .int .i64 se, .string rs, .int .i64 sg, .bool fr, .bool st] 25)) := (by repeat (first | exact Bel.refl _ | refine Bel.drewN ?_ _ | refine Bel.drew ?_ | refine Bel.alloc ?_ _ | refine Bel.trans ?_ (by assumption) | refine Bel.setCell ?_ (by simp; omega) _))
  have hB := Box.new w 25 [.string lb, .int .i64 en, .int .i64 wy, .string wt, .int .i64 se, .string rs, .int .i64 sg, .bool fr, .bool st]
  have c0 := hB.cell 0 _ rfl; have c1 := hB.cell 1 _ rfl; have c2 := hB.cell 2 _ rfl; have c3 := hB.cell 3 _ rfl; have c4 := hB.cell 4 _ rfl; have c5 := hB.cell 5 _ rfl; have c6 := hB.cell 6 _ rfl; have c7 := hB.cell 7 _ rfl; have c8 := hB.cell 8 _ rfl
  rw [M.checkF_wrong] at hk
  simp only [← Lib.size_eq] at hk
  by_cases hx : 3000 < lb.size
  · rw [if_pos (.inl hx)] at hk
    subst hk
    have H1 := Lib.hid (decide_eq_true hx)
    clear hx
    go_enter Tryz.func13, Tryz.ntmps13
    go_wp2_with fail
    refine (longF_to lb _ H1.out _).mono ?_
    rintro e _ ⟨rfl, rfl⟩
    go_wp2_with fail
    go_ret
    exact ⟨rfl, hb⟩
  · have H1 := Lib.hid (decide_eq_false hx)
    by_cases hy : 3000 < wt.size
    · rw [if_pos (.inr hy)] at hk
      subst hk
      have H2 := Lib.hid (decide_eq_true hy)
      clear hx hy
      go_enter Tryz.func13, Tryz.ntmps13
      go_wp2_with fail
      refine (longF_to lb _ H1.out _).mono ?_
      rintro e _ ⟨rfl, rfl⟩
      go_wp2_with fail
      refine (longF_to wt _ H2.out _).mono ?_
      rintro e _ ⟨rfl, rfl⟩
      go_wp2_with fail
      go_ret
      exact ⟨rfl, hb⟩
    · have H2 := Lib.hid (decide_eq_false hy)
      rw [if_neg (fun h => h.elim hx hy)] at hk
      have HK := Lib.hid hk
      have hl : lb.size ≤ 68719476735 := by omega
      have hC : Box ((w.alloc (.cells #[.string lb, .int .i64 en, .int .i64 wy, .string wt, .int .i64 se, .string rs, .int .i64 sg, .bool fr, .bool st] 25)).alloc (.cells #[.string lb, .int .i64 en, .int .i64 wy, .string wt, .int .i64 se, .string rs, .int .i64 sg, .bool fr, .bool st] 51)) (w.heap.size + 1) 51 [.string lb, .int .i64 en, .int .i64 wy, .string wt, .int .i64 se, .string rs, .int .i64 sg, .bool fr, .bool st] := by have := Box.new (w.alloc (.cells #[.string lb, .int .i64 en, .int .i64 wy, .string wt, .int .i64 se, .string rs, .int .i64 sg, .bool fr, .bool st] 25)) 51 [.string lb, .int .i64 en, .int .i64 wy, .string wt, .int .i64 se, .string rs, .int .i64 sg, .bool fr, .bool st]; simpa using this
      clear hx hy hk
      go_enter Tryz.func13, Tryz.ntmps13
      go_wp2_with fail
      refine (longF_to lb _ H1.out _).mono ?_
      rintro e _ ⟨rfl, rfl⟩
      go_wp2_with fail
      refine (longF_to wt _ H2.out _).mono ?_
      rintro e _ ⟨rfl, rfl⟩
      go_wp2_with fail
      refine (wrong_to (w.heap.size + 1) lb en wy wt se rs sg fr st _ HK.out hl _ hC).mono ?_
      rintro e w1 ⟨rfl, b1⟩
      go_wp2_with fail
      go_ret
      exact ⟨rfl, (hb.alloc _).trans b1⟩
/-- What a front's Feed says: the slice and the next front. -/
def FeedPost (B : Nat) (w : World) (xs : List Int) (F : M.Ft) (k : Int) (e : Ending) (w' : World) : Prop :=
  ∃ v, e = .returned (.tuple #[v, .agg (ftC F).toArray, .int .i64 k]) ∧ Own B 3 w' v (xs.map (Value.int .i64)) ∧ Bel w w'
/-- What comes to a right front, in one contract. -/
theorem feedM_to (g : Nat) (lb : ByteArray) (en wy : Int) (wt : ByteArray) (se : Int) (rs : ByteArray) (sg : Int) (fr st : Bool) (b : ByteArray) (last : Bool) (hb3 : b.size ≤ 3000) (hc : M.checkF ⟨lb.data.toList, en, wy, wt.data.toList, ⟨se, rs.data.toList, sg, fr, st⟩⟩ = 0) (xs : List Int) (F2 : M.Ft)
    (h : M.rawF ⟨lb.data.toList, en, wy, wt.data.toList, ⟨se, rs.data.toList, sg, fr, st⟩⟩ b.data.toList last = (xs, F2)) (w : World) (hL : Len w) (hB : Box w g 51 [.string lb, .int .i64 en, .int .i64 wy, .string wt, .int .i64 se, .string rs, .int .i64 sg, .bool fr, .bool st]) :
    Calls Tryz.prog 23 #[.pointer (some ⟨g, 0, none⟩), .string b, .bool last] w fun e w' => ∃ v, e = .returned v ∧ Own w.heap.size 3 w' v (xs.map (Value.int .i64)) ∧ Box w' g 51 (ftC F2) ∧ Below g w w' := by
  obtain ⟨hl, hcase⟩ := M.right_front _ hc
  simp only [← Lib.size_eq] at hl hcase
  rcases hcase with ⟨rfl, rfl, hz, hn, hwl⟩ | ⟨he, hy, hw0, hse, hk⟩
  · simp only [M.zst, M.St.mk.injEq] at hz
    obtain ⟨rfl, hrs, rfl, rfl, rfl⟩ := hz
    obtain rfl : rs = ⟨#[]⟩ := by
      apply ByteArray.ext
      simpa using hrs
    have hsw : wt.size ≤ 3000 := by omega
    have hcat : (wt ++ b).data.toList = wt.data.toList ++ b.data.toList := data_append _ _
    simp only [M.rawF, if_true] at h
    rw [← hcat] at h
    by_cases hq : last = false ∧ M.enough lb.data.toList (wt ++ b).data.toList = false
    · rw [if_pos hq] at h
      obtain ⟨rfl, hq2⟩ := hq
      simp only [Prod.mk.injEq] at h
      obtain ⟨rfl, rfl⟩ := h
      refine (feedA_wait g lb wt b hl hsw hb3 hq2 w hB).mono ?_
      rintro e w' ⟨rfl, h2, h3⟩
      refine ⟨_, rfl, Own.nil _ _ _, ?_, h3⟩
      simp only [ftC, str_back, hcat, str_app]
      exact h2
    · rw [if_neg hq] at h
      have hq2 : last = true ∨ M.enough lb.data.toList (wt ++ b).data.toList = true := by
        cases last with
        | true => exact .inl rfl
        | false =>
          refine .inr ?_
          cases hx : M.enough lb.data.toList (wt ++ b).data.toList with
          | true => rfl
          | false => exact absurd ⟨rfl, hx⟩ hq
      obtain ⟨n, y, k, hch⟩ : ∃ n y k, M.chosen lb.data.toList (wt ++ b).data.toList = (n, y, k) := ⟨_, _, _, rfl⟩
      obtain ⟨q1, q2, q3, q4, q5, q6⟩ := M.chosen_ok lb.data.toList (wt ++ b).data.toList
      rw [hch] at q1 q2 q3 q4 q5 q6 h
      simp only at q1 q2 q3 q4 q5 q6 h
      obtain ⟨kn, rfl⟩ : ∃ kn : Nat, k = (kn : Int) := ⟨k.toNat, by omega⟩
      rw [← Lib.size_eq] at q5
      have hkz : kn ≤ (wt ++ b).size := by omega
      rw [Int.toNat_natCast, ← drop_extF (wt ++ b) kn] at h
      obtain ⟨ys, d2, hraw⟩ : ∃ ys d2, M.rawM (M.opn n) ((wt ++ b).extract kn (wt ++ b).size).data.toList last = (ys, d2) := ⟨_, _, rfl⟩
      rw [hraw] at h
      simp only [Prod.mk.injEq] at h
      obtain ⟨rfl, rfl⟩ := h
      refine (feedB_ch g lb wt b last hl hsw hb3 hq2 n y kn hch hkz q1 _ d2 hraw w hL hB).mono ?_
      rintro e w' ⟨v, rfl, h1, h2, h3⟩
      refine ⟨_, rfl, h1, ?_, h3⟩
      simp only [ftC, str_back]
      exact h2
  · obtain rfl : wt = ⟨#[]⟩ := by
      apply ByteArray.ext
      simpa using hw0
    have hyn : wy ≠ 0 := by omega
    simp only [M.rawF] at h
    rw [if_neg hyn] at h
    obtain ⟨ys, d2, hraw⟩ : ∃ ys d2, M.rawM ⟨se, rs.data.toList, sg, fr, st⟩ b.data.toList last = (ys, d2) := ⟨_, _, rfl⟩
    rw [hraw] at h
    simp only [Prod.mk.injEq] at h
    obtain ⟨rfl, rfl⟩ := h
    refine (feedC_on g lb en wy se rs sg fr st b last hyn ((M.check_right _).1 hk) (by omega) _ d2 hraw w hB).mono ?_
    rintro e w' ⟨v, rfl, h1, h2, h3⟩
    refine ⟨_, rfl, h1, ?_, h3⟩
    simp only [ftC, str_back]
    exact h2
end Go.Proofs.YtcgdecpjlggekaaGreatDoor

/-
  Package front: Feed.
-/
namespace Go.Proofs.YtcgdecpjlggekaaGreatDoor
open Go.RowKit
set_option maxRecDepth 1000000
set_option maxHeartbeats 1000000

theorem feedF_to (lb : ByteArray) (en wy : Int) (wt : ByteArray) (se : Int) (rs : ByteArray) (sg : Int) (fr st : Bool) (b : ByteArray) (last : Bool) (xs : List Int) (F2 : M.Ft) (k : Int)
    (hf : M.feedFE ⟨lb.data.toList, en, wy, wt.data.toList, ⟨se, rs.data.toList, sg, fr, st⟩⟩ b.data.toList last = (xs, F2, k)) (w : World) (hL : Len w) :
    Calls Tryz.prog 7 #[.agg #[.string lb, .int .i64 en, .int .i64 wy, .string wt, .int .i64 se, .string rs, .int .i64 sg, .bool fr, .bool st], .string b, .bool last] w fun e w' => ∃ v, e = .returned (.tuple #[v, .agg (ftC F2).toArray, .int .i64 k]) ∧ Own w.heap.size 3 w' v (xs.map (Value.int .i64)) ∧ Bel w w' := by
  obtain ⟨q, hq⟩ : ∃ q, M.checkF ⟨lb.data.toList, en, wy, wt.data.toList, ⟨se, rs.data.toList, sg, fr, st⟩⟩ = q := ⟨_, rfl⟩
  have HQ := Lib.hid hq
  have hR0 : Box ((w.alloc (.cells #[.string lb, .int .i64 en, .int .i64 wy, .string wt, .int .i64 se, .string rs, .int .i64 sg, .bool fr, .bool st] 25)).alloc (.cells #[.string ⟨#[]⟩, .int .i64 0, .int .i64 0, .string ⟨#[]⟩, .int .i64 0, .string ⟨#[]⟩, .int .i64 0, .bool false, .bool false] 25)) (w.heap.size + 1) 25 [.string ⟨#[]⟩, .int .i64 0, .int .i64 0, .string ⟨#[]⟩, .int .i64 0, .string ⟨#[]⟩, .int .i64 0, .bool false, .bool false] := by have := Box.new (w.alloc (.cells #[.string lb, .int .i64 en, .int .i64 wy, .string wt, .int .i64 se, .string rs, .int .i64 sg, .bool fr, .bool st] 25)) 25 [.string ⟨#[]⟩, .int .i64 0, .int .i64 0, .string ⟨#[]⟩, .int .i64 0, .string ⟨#[]⟩, .int .i64 0, .bool false, .bool false]; simpa using this
  have hS0 : Box ((w.alloc (.cells #[.string lb, .int .i64 en, .int .i64 wy, .string wt, .int .i64 se, .string rs, .int .i64 sg, .bool fr, .bool st] 25)).alloc (.cells #[.string ⟨#[]⟩, .int .i64 0, .int .i64 0, .string ⟨#[]⟩, .int .i64 0, .string ⟨#[]⟩, .int .i64 0, .bool false, .bool false] 25)) w.heap.size 25 [.string lb, .int .i64 en, .int .i64 wy, .string wt, .int .i64 se, .string rs, .int .i64 sg, .bool fr, .bool st] := (Box.new w _ _).bel ((Bel.refl _).alloc _)
  have hb0 : Bel w ((w.alloc (.cells #[.string lb, .int .i64 en, .int .i64 wy, .string wt, .int .i64 se, .string rs, .int .i64 sg, .bool fr, .bool st] 25)).alloc (.cells #[.string ⟨#[]⟩, .int .i64 0, .int .i64 0, .string ⟨#[]⟩, .int .i64 0, .string ⟨#[]⟩, .int .i64 0, .bool false, .bool false] 25)) := (by repeat (first | exact Bel.refl _ | refine Bel.drewN ?_ _ | refine Bel.drew ?_ | refine Bel.alloc ?_ _ | refine Bel.trans ?_ (by assumption) | refine Bel.setCell ?_ (by simp; omega) _))
  have sc0 := hS0.cell 0 _ rfl; have sc1 := hS0.cell 1 _ rfl; have sc2 := hS0.cell 2 _ rfl; have sc3 := hS0.cell 3 _ rfl; have sc4 := hS0.cell 4 _ rfl; have sc5 := hS0.cell 5 _ rfl; have sc6 := hS0.cell 6 _ rfl; have sc7 := hS0.cell 7 _ rfl; have sc8 := hS0.cell 8 _ rfl
  by_cases h0 : q = 0
  · subst h0
    by_cases hb : 3000 < b.size
    · rw [M.feedFE, if_pos hq, if_pos (by rw [← Lib.size_eq]; exact hb)] at hf
      simp only [Prod.mk.injEq] at hf
      obtain ⟨rfl, rfl, rfl⟩ := hf
      have H1 := Lib.hid (decide_eq_true hb)
      clear hq hb
      go_enter Tryz.func7, Tryz.ntmps7
      go_wp2_with fail
      refine (checkFr_to lb en wy wt se rs sg fr st _ HQ.out _).mono ?_
      rintro e w1 ⟨rfl, b1⟩
      have hR1 := hR0.bel b1
      have hbw := hb0.trans b1
      go_wp2_with fail
      refine (longF_to b _ H1.out _).mono ?_
      rintro e _ ⟨rfl, rfl⟩
      have rc0 := hR1.cell 0 _ rfl; have rc1 := hR1.cell 1 _ rfl; have rc2 := hR1.cell 2 _ rfl; have rc3 := hR1.cell 3 _ rfl; have rc4 := hR1.cell 4 _ rfl; have rc5 := hR1.cell 5 _ rfl; have rc6 := hR1.cell 6 _ rfl; have rc7 := hR1.cell 7 _ rfl; have rc8 := hR1.cell 8 _ rfl
      have rf0 := hR1.frozen 0; have rf1 := hR1.frozen 1; have rf2 := hR1.frozen 2; have rf3 := hR1.frozen 3; have rf4 := hR1.frozen 4; have rf5 := hR1.frozen 5; have rf6 := hR1.frozen 6; have rf7 := hR1.frozen 7; have rf8 := hR1.frozen 8
      go_wp2_with fail
      have hF := ((((((((hR1.set 0 (.string ⟨#[]⟩)).set 1 (.int .i64 0)).set 2 (.int .i64 0)).set 3 (.string ⟨#[]⟩)).set 4 (.int .i64 0)).set 5 (.string ⟨#[]⟩)).set 6 (.int .i64 0)).set 7 (.bool false)).set 8 (.bool false)
      have uc0 := hF.cell 0 _ rfl; have uc1 := hF.cell 1 _ rfl; have uc2 := hF.cell 2 _ rfl; have uc3 := hF.cell 3 _ rfl; have uc4 := hF.cell 4 _ rfl; have uc5 := hF.cell 5 _ rfl; have uc6 := hF.cell 6 _ rfl; have uc7 := hF.cell 7 _ rfl; have uc8 := hF.cell 8 _ rfl
      refine bodyPost_ret (v := .tuple #[.slice none 0 0, .agg #[.string ⟨#[]⟩, .int .i64 0, .int .i64 0, .string ⟨#[]⟩, .int .i64 0, .string ⟨#[]⟩, .int .i64 0, .bool false, .bool false], .int .i64 2]) (by simp [results, Tryz.results7, go_sem, uc0, uc1, uc2, uc3, uc4, uc5, uc6, uc7, uc8]) rfl ?_
      exact ⟨_, rfl, Own.nil _ _ _, (((((((((hbw.setCell (p := ⟨w.heap.size + 1, 0, none⟩) (by simp) _).setCell (p := ⟨w.heap.size + 1, 1, none⟩) (by simp) _).setCell (p := ⟨w.heap.size + 1, 2, none⟩) (by simp) _).setCell (p := ⟨w.heap.size + 1, 3, none⟩) (by simp) _).setCell (p := ⟨w.heap.size + 1, 4, none⟩) (by simp) _).setCell (p := ⟨w.heap.size + 1, 5, none⟩) (by simp) _).setCell (p := ⟨w.heap.size + 1, 6, none⟩) (by simp) _).setCell (p := ⟨w.heap.size + 1, 7, none⟩) (by simp) _).setCell (p := ⟨w.heap.size + 1, 8, none⟩) (by simp) _)⟩
    · have hb3 : b.size ≤ 3000 := by omega
      obtain ⟨ys, F3, hraw⟩ : ∃ ys F3, M.rawF ⟨lb.data.toList, en, wy, wt.data.toList, ⟨se, rs.data.toList, sg, fr, st⟩⟩ b.data.toList last = (ys, F3) := ⟨_, _, rfl⟩
      rw [M.feedFE, if_pos hq, if_neg (by rw [← Lib.size_eq]; exact hb), M.feedF, hraw] at hf
      simp only [Prod.mk.injEq] at hf
      obtain ⟨rfl, rfl, rfl⟩ := hf
      have H1 := Lib.hid (decide_eq_false hb)
      have HW := Lib.hid hraw
      clear hq hb hraw
      go_enter Tryz.func7, Tryz.ntmps7
      go_wp2_with fail
      refine (checkFr_to lb en wy wt se rs sg fr st _ HQ.out _).mono ?_
      rintro e w1 ⟨rfl, b1⟩
      have hR1 := hR0.bel b1
      have hS1 := hS0.bel b1
      have hb1 := hb0.trans b1
      have sc0 := hS1.cell 0 _ rfl; have sc1 := hS1.cell 1 _ rfl; have sc2 := hS1.cell 2 _ rfl; have sc3 := hS1.cell 3 _ rfl; have sc4 := hS1.cell 4 _ rfl; have sc5 := hS1.cell 5 _ rfl; have sc6 := hS1.cell 6 _ rfl; have sc7 := hS1.cell 7 _ rfl; have sc8 := hS1.cell 8 _ rfl
      go_wp2_with fail
      refine (longF_to b _ H1.out _).mono ?_
      rintro e _ ⟨rfl, rfl⟩
      go_wp2_with fail
      have hC := Box.new w1 51 [.string lb, .int .i64 en, .int .i64 wy, .string wt, .int .i64 se, .string rs, .int .i64 sg, .bool fr, .bool st]
      refine (feedM_to w1.heap.size lb en wy wt se rs sg fr st b last hb3 HQ.out _ _ HW.out _ (hL.bel (hb1.alloc _)) hC).mono ?_
      rintro e w2 ⟨v2, rfl, o2, hC2, k2⟩
      have hb2 : Bel w1 w2 := Below.trans ((Bel.refl w1).alloc _) k2
      have hR2 := hR1.bel hb2
      have hS2 := hS1.bel hb2
      have hbw := hb1.trans hb2
      have hrB : w.heap.size + 1 < (w1.alloc (.cells #[.string lb, .int .i64 en, .int .i64 wy, .string wt, .int .i64 se, .string rs, .int .i64 sg, .bool fr, .bool st] 51)).heap.size := by have := hR1.lt; simp; omega
      have hwB : w.heap.size ≤ (w1.alloc (.cells #[.string lb, .int .i64 en, .int .i64 wy, .string wt, .int .i64 se, .string rs, .int .i64 sg, .bool fr, .bool st] 51)).heap.size := by have := hS1.lt; simp; omega
      have hgr : ¬ w1.heap.size = w.heap.size + 1 := by have := hR1.lt; omega
      have hrg : ¬ w.heap.size + 1 = w1.heap.size := by have := hR1.lt; omega
      obtain ⟨l3, en3, wy3, wt3, ⟨se3, rs3, sg3, fr3, st3⟩⟩ := F3
      rw [ftC] at hC2
      have rc0 := hR2.cell 0 _ rfl; have rc1 := hR2.cell 1 _ rfl; have rc2 := hR2.cell 2 _ rfl; have rc3 := hR2.cell 3 _ rfl; have rc4 := hR2.cell 4 _ rfl; have rc5 := hR2.cell 5 _ rfl; have rc6 := hR2.cell 6 _ rfl; have rc7 := hR2.cell 7 _ rfl; have rc8 := hR2.cell 8 _ rfl
      have rf0 := hR2.frozen 0; have rf1 := hR2.frozen 1; have rf2 := hR2.frozen 2; have rf3 := hR2.frozen 3; have rf4 := hR2.frozen 4; have rf5 := hR2.frozen 5; have rf6 := hR2.frozen 6; have rf7 := hR2.frozen 7; have rf8 := hR2.frozen 8
      have sc0 := hS2.cell 0 _ rfl; have sc1 := hS2.cell 1 _ rfl; have sc2 := hS2.cell 2 _ rfl; have sc3 := hS2.cell 3 _ rfl; have sc4 := hS2.cell 4 _ rfl; have sc5 := hS2.cell 5 _ rfl; have sc6 := hS2.cell 6 _ rfl; have sc7 := hS2.cell 7 _ rfl; have sc8 := hS2.cell 8 _ rfl
      have dc0 := hC2.cell 0 _ rfl; have dc1 := hC2.cell 1 _ rfl; have dc2 := hC2.cell 2 _ rfl; have dc3 := hC2.cell 3 _ rfl; have dc4 := hC2.cell 4 _ rfl; have dc5 := hC2.cell 5 _ rfl; have dc6 := hC2.cell 6 _ rfl; have dc7 := hC2.cell 7 _ rfl; have dc8 := hC2.cell 8 _ rfl
      clear hR0 hR1 hS0 hS1 hS2 hb0 hb1 b1 hC hC2 k2 hb2
      cases last with
      | true =>
        go_wp2_with fail
        go_region
        go_wp2_with fail
        have hF := Box.drew (((((((((hR2.set 0 (.string lb)).set 1 (.int .i64 0)).set 2 (.int .i64 0)).set 3 (.string ⟨#[]⟩)).set 4 (.int .i64 0)).set 5 (.string ⟨#[]⟩)).set 6 (.int .i64 0)).set 7 (.bool false)).set 8 (.bool false))
        have uc0 := hF.cell 0 _ rfl; have uc1 := hF.cell 1 _ rfl; have uc2 := hF.cell 2 _ rfl; have uc3 := hF.cell 3 _ rfl; have uc4 := hF.cell 4 _ rfl; have uc5 := hF.cell 5 _ rfl; have uc6 := hF.cell 6 _ rfl; have uc7 := hF.cell 7 _ rfl; have uc8 := hF.cell 8 _ rfl
        refine bodyPost_ret (v := .tuple #[v2, .agg #[.string lb, .int .i64 0, .int .i64 0, .string ⟨#[]⟩, .int .i64 0, .string ⟨#[]⟩, .int .i64 0, .bool false, .bool false], .int .i64 0]) (by simp [results, Tryz.results7, go_sem, uc0, uc1, uc2, uc3, uc4, uc5, uc6, uc7, uc8]) rfl ?_
        exact ⟨_, by simp [ftC, M.bgn, M.zst], (((((((((o2.setCell (p := ⟨w.heap.size + 1, 0, none⟩) hrB _).setCell (p := ⟨w.heap.size + 1, 1, none⟩) hrB _).setCell (p := ⟨w.heap.size + 1, 2, none⟩) hrB _).setCell (p := ⟨w.heap.size + 1, 3, none⟩) hrB _).setCell (p := ⟨w.heap.size + 1, 4, none⟩) hrB _).setCell (p := ⟨w.heap.size + 1, 5, none⟩) hrB _).setCell (p := ⟨w.heap.size + 1, 6, none⟩) hrB _).setCell (p := ⟨w.heap.size + 1, 7, none⟩) hrB _).setCell (p := ⟨w.heap.size + 1, 8, none⟩) hrB _).drew.mono hwB, (((((((((hbw.setCell (p := ⟨w.heap.size + 1, 0, none⟩) (by simp) _).setCell (p := ⟨w.heap.size + 1, 1, none⟩) (by simp) _).setCell (p := ⟨w.heap.size + 1, 2, none⟩) (by simp) _).setCell (p := ⟨w.heap.size + 1, 3, none⟩) (by simp) _).setCell (p := ⟨w.heap.size + 1, 4, none⟩) (by simp) _).setCell (p := ⟨w.heap.size + 1, 5, none⟩) (by simp) _).setCell (p := ⟨w.heap.size + 1, 6, none⟩) (by simp) _).setCell (p := ⟨w.heap.size + 1, 7, none⟩) (by simp) _).setCell (p := ⟨w.heap.size + 1, 8, none⟩) (by simp) _).drew⟩
      | false =>
        go_wp2_with fail
        go_region
        go_wp2_with fail
        have hF := Box.drew (((((((((hR2.set 0 (.string ⟨l3.toArray⟩)).set 1 (.int .i64 en3)).set 2 (.int .i64 wy3)).set 3 (.string ⟨wt3.toArray⟩)).set 4 (.int .i64 se3)).set 5 (.string ⟨rs3.toArray⟩)).set 6 (.int .i64 sg3)).set 7 (.bool fr3)).set 8 (.bool st3))
        have uc0 := hF.cell 0 _ rfl; have uc1 := hF.cell 1 _ rfl; have uc2 := hF.cell 2 _ rfl; have uc3 := hF.cell 3 _ rfl; have uc4 := hF.cell 4 _ rfl; have uc5 := hF.cell 5 _ rfl; have uc6 := hF.cell 6 _ rfl; have uc7 := hF.cell 7 _ rfl; have uc8 := hF.cell 8 _ rfl
        refine bodyPost_ret (v := .tuple #[v2, .agg #[.string ⟨l3.toArray⟩, .int .i64 en3, .int .i64 wy3, .string ⟨wt3.toArray⟩, .int .i64 se3, .string ⟨rs3.toArray⟩, .int .i64 sg3, .bool fr3, .bool st3], .int .i64 0]) (by simp [results, Tryz.results7, go_sem, uc0, uc1, uc2, uc3, uc4, uc5, uc6, uc7, uc8]) rfl ?_
        exact ⟨_, by simp [ftC], (((((((((o2.setCell (p := ⟨w.heap.size + 1, 0, none⟩) hrB _).setCell (p := ⟨w.heap.size + 1, 1, none⟩) hrB _).setCell (p := ⟨w.heap.size + 1, 2, none⟩) hrB _).setCell (p := ⟨w.heap.size + 1, 3, none⟩) hrB _).setCell (p := ⟨w.heap.size + 1, 4, none⟩) hrB _).setCell (p := ⟨w.heap.size + 1, 5, none⟩) hrB _).setCell (p := ⟨w.heap.size + 1, 6, none⟩) hrB _).setCell (p := ⟨w.heap.size + 1, 7, none⟩) hrB _).setCell (p := ⟨w.heap.size + 1, 8, none⟩) hrB _).drew.mono hwB, (((((((((hbw.setCell (p := ⟨w.heap.size + 1, 0, none⟩) (by simp) _).setCell (p := ⟨w.heap.size + 1, 1, none⟩) (by simp) _).setCell (p := ⟨w.heap.size + 1, 2, none⟩) (by simp) _).setCell (p := ⟨w.heap.size + 1, 3, none⟩) (by simp) _).setCell (p := ⟨w.heap.size + 1, 4, none⟩) (by simp) _).setCell (p := ⟨w.heap.size + 1, 5, none⟩) (by simp) _).setCell (p := ⟨w.heap.size + 1, 6, none⟩) (by simp) _).setCell (p := ⟨w.heap.size + 1, 7, none⟩) (by simp) _).setCell (p := ⟨w.heap.size + 1, 8, none⟩) (by simp) _).drew⟩
  · rw [M.feedFE, hq, if_neg h0] at hf
    simp only [Prod.mk.injEq] at hf
    obtain ⟨rfl, rfl, rfl⟩ := hf
    have g1 : (q == 0) = false := by simpa using h0
    have g2 : (q != 0) = true := by simpa using h0
    clear hq h0
    go_enter Tryz.func7, Tryz.ntmps7
    go_wp2_with fail
    refine (checkFr_to lb en wy wt se rs sg fr st _ HQ.out _).mono ?_
    rintro e w1 ⟨rfl, b1⟩
    have hR1 := hR0.bel b1
    have hbw := hb0.trans b1
    have rc0 := hR1.cell 0 _ rfl; have rc1 := hR1.cell 1 _ rfl; have rc2 := hR1.cell 2 _ rfl; have rc3 := hR1.cell 3 _ rfl; have rc4 := hR1.cell 4 _ rfl; have rc5 := hR1.cell 5 _ rfl; have rc6 := hR1.cell 6 _ rfl; have rc7 := hR1.cell 7 _ rfl; have rc8 := hR1.cell 8 _ rfl
    have rf0 := hR1.frozen 0; have rf1 := hR1.frozen 1; have rf2 := hR1.frozen 2; have rf3 := hR1.frozen 3; have rf4 := hR1.frozen 4; have rf5 := hR1.frozen 5; have rf6 := hR1.frozen 6; have rf7 := hR1.frozen 7; have rf8 := hR1.frozen 8
    go_wp2_with fail
    have hF := ((((((((hR1.set 0 (.string ⟨#[]⟩)).set 1 (.int .i64 0)).set 2 (.int .i64 0)).set 3 (.string ⟨#[]⟩)).set 4 (.int .i64 0)).set 5 (.string ⟨#[]⟩)).set 6 (.int .i64 0)).set 7 (.bool false)).set 8 (.bool false)
    have uc0 := hF.cell 0 _ rfl; have uc1 := hF.cell 1 _ rfl; have uc2 := hF.cell 2 _ rfl; have uc3 := hF.cell 3 _ rfl; have uc4 := hF.cell 4 _ rfl; have uc5 := hF.cell 5 _ rfl; have uc6 := hF.cell 6 _ rfl; have uc7 := hF.cell 7 _ rfl; have uc8 := hF.cell 8 _ rfl
    refine bodyPost_ret (v := .tuple #[.slice none 0 0, .agg #[.string ⟨#[]⟩, .int .i64 0, .int .i64 0, .string ⟨#[]⟩, .int .i64 0, .string ⟨#[]⟩, .int .i64 0, .bool false, .bool false], .int .i64 q]) (by simp [results, Tryz.results7, go_sem, uc0, uc1, uc2, uc3, uc4, uc5, uc6, uc7, uc8]) rfl ?_
    exact ⟨_, rfl, Own.nil _ _ _, (((((((((hbw.setCell (p := ⟨w.heap.size + 1, 0, none⟩) (by simp) _).setCell (p := ⟨w.heap.size + 1, 1, none⟩) (by simp) _).setCell (p := ⟨w.heap.size + 1, 2, none⟩) (by simp) _).setCell (p := ⟨w.heap.size + 1, 3, none⟩) (by simp) _).setCell (p := ⟨w.heap.size + 1, 4, none⟩) (by simp) _).setCell (p := ⟨w.heap.size + 1, 5, none⟩) (by simp) _).setCell (p := ⟨w.heap.size + 1, 6, none⟩) (by simp) _).setCell (p := ⟨w.heap.size + 1, 7, none⟩) (by simp) _).setCell (p := ⟨w.heap.size + 1, 8, none⟩) (by simp) _)⟩
end Go.Proofs.YtcgdecpjlggekaaGreatDoor

/-
  What must be in any case, of fronts and whole texts: plain facts on constants.
-/
namespace Go.Proofs.YtcgdecpjlggekaaGreatDoor.M
open Go

abbrev lab8 : Bs := [117, 116, 102, 45, 56]
theorem fb1 : chooseE [108, 97, 116, 105, 110, 49] [239, 187, 191, 97] = (1, 1, 3, 0) := by decide +kernel
theorem fb2 : feedFE (bgn lab8) [97, 98] false = ([], ⟨lab8, 0, 0, [97, 98], zst⟩, 0) := by kernel_rfl
theorem fb3 : feedFE ⟨lab8, 0, 0, [97, 98], zst⟩ [99, 226] false = ([97, 98, 99], ⟨lab8, 1, 2, [], ⟨1, [226], 0, false, false⟩⟩, 0) := by kernel_rfl
theorem fb4 : feedFE ⟨lab8, 1, 2, [], ⟨1, [226], 0, false, false⟩⟩ [] true = ([65533], bgn lab8, 0) := by kernel_rfl
theorem fb5 : checkF ⟨lab8, 1, 2, [], ⟨1, [226], 0, false, false⟩⟩ = 0 := by decide +kernel
theorem tb1 : decT [] [255, 254, 97, 0] = ([97], 2, 1, 0) := by decide +kernel
theorem tb2 : recT lab8 [226, 130, 172] 6 = ([38, 35, 56, 51, 54, 52, 59], 0) := by decide +kernel
theorem tb3 : countE [97, 65533, 228] = (1, 2, 0) := by decide +kernel
end Go.Proofs.YtcgdecpjlggekaaGreatDoor.M

/-
  Are two lists of numbers the same? What the references' SameInts and the laws' intsAre answer.
-/
namespace Go.Proofs.YtcgdecpjlggekaaGreatDoor
open Go.RowKit

set_option maxRecDepth 100000 in
theorem sameInts_any (v1 v2 : Value) (xs ys : List Int) (w : World) (h1 : IntSl w v1 xs) (h2 : IntSl w v2 ys) : Calls Tryz.prog 31 #[v1, v2] w fun e w' => e = .returned (.bool (xs == ys)) ∧ Bel w w' := by
  obtain ⟨a, ca, rfl, hc1, hc2, hn, hx⟩ := h1
  obtain ⟨b, cb, rfl, hc3, hc4, hn2, hy⟩ := h2
  unfold maxLen at hc2 hc4
  by_cases hl : xs.length = ys.length
  · have hl1 : xs.length ≤ ys.length := by omega
    have hl2 : ys.length ≤ xs.length := by omega
    have hlb : ((xs.length : Int) != (ys.length : Int)) = false := by rw [bne_eq_false_iff_eq]; omega
    have HL := Lib.hid hl
    clear hl
    go_enter Tryz.func31, Tryz.ntmps31
    go_wp2_with fail
    go_loopw [5] (fun i wr => ∃ k : Nat, k ≤ xs.length ∧ i = .int .i64 k ∧ Hid (∀ j, j < k → xs[j]? = ys[j]?) ∧ ∃ q, wr = w.drewN q) (fun i _ => xs.length - (intOf i).toNat)
    case atStart => exact ⟨0, by omega, rfl, Lib.hid (fun j hj => by omega), 0, rfl⟩
    case round =>
      obtain ⟨k, hk, rfl, HE, q, rfl⟩ := hrel
      by_cases hlt : k < xs.length
      · obtain ⟨m, hm⟩ : ∃ m, xs[k]? = some m := ⟨_, List.getElem?_eq_getElem hlt⟩
        obtain ⟨n, hn1⟩ : ∃ n, ys[k]? = some n := ⟨_, List.getElem?_eq_getElem (by omega)⟩
        cases a with
        | none => rw [hn rfl] at hlt; simp at hlt
        | some x =>
          cases b with
          | none => exfalso; have hl3 := hl1; rw [hn2 rfl, List.length_nil] at hl3; omega
          | some y =>
            have hcx := hx x rfl k m hm
            have hcy := hy y rfl k n hn1
            have i1 : (k : Int) < (xs.length : Int) := by omega
            have i2 : (k : Int) < (ys.length : Int) := by omega
            have i0 : (0 : Int) ≤ (k : Int) := by omega
            by_cases he : m = n
            · subst he
              have HF := Lib.hid (show ∀ j, j < k + 1 → xs[j]? = ys[j]? from fun j hj => by
                by_cases hjk : j < k
                · exact HE.out j hjk
                · obtain rfl : j = k := by omega
                  rw [hm, hn1])
              clear hx hy hn hn2 hm hn1
              go_wp2_with fail
              go_quiet (fail)
              go_wp2_with fail
              go_roundw
              case rel => exact ⟨k + 1, by omega, by go_num, HF, _, rfl⟩
              case measure => simp [intOf]; omega
            · have hne : (m != n) = true := by simpa using he
              have HF := Lib.hid (show (xs == ys) = false by
                rw [beq_eq_false_iff_ne]; rintro rfl
                rw [hm] at hn1; injection hn1 with hn1; exact he hn1)
              clear hx hy hn hn2 hm hn1 he
              go_wp2_with fail
              go_quiet (fail)
              go_wp2_with fail
              go_ret
              rw [HF.out]
              exact ⟨rfl, (by repeat (first | exact Bel.refl _ | refine Bel.drewN ?_ _ | refine Bel.drew ?_ | refine Bel.alloc ?_ _ | refine Bel.trans ?_ (by assumption) | refine Bel.setCell ?_ (by simp; omega) _))⟩
      · obtain rfl : k = xs.length := by omega
        have HF := Lib.hid (show (xs == ys) = true by
          rw [beq_iff_eq]
          refine List.ext_getElem? fun j => ?_
          by_cases hj : j < xs.length
          · exact HE.out j hj
          · rw [List.getElem?_eq_none (by omega), List.getElem?_eq_none (by omega)])
        go_wp2_with fail
        go_ret
        rw [HF.out]
        exact ⟨rfl, (by repeat (first | exact Bel.refl _ | refine Bel.drewN ?_ _ | refine Bel.drew ?_ | refine Bel.alloc ?_ _ | refine Bel.trans ?_ (by assumption) | refine Bel.setCell ?_ (by simp; omega) _))⟩
  · have hlb : ((xs.length : Int) != (ys.length : Int)) = true := by rw [bne_iff_ne]; omega
    have HF := Lib.hid (show (xs == ys) = false by rw [beq_eq_false_iff_ne]; rintro rfl; exact hl rfl)
    clear hl
    go_enter Tryz.func31, Tryz.ntmps31
    go_wp2_with fail
    go_ret
    rw [HF.out]
    exact ⟨rfl, Bel.refl _⟩
theorem sameInts_yes (v1 v2 : Value) (xs ys : List Int) (w : World) (h1 : IntSl w v1 xs) (h2 : IntSl w v2 ys) (h : xs = ys) : Calls Tryz.prog 31 #[v1, v2] w fun e w' => e = .returned (.bool true) ∧ Bel w w' := by
  have := sameInts_any v1 v2 xs ys w h1 h2
  rw [h] at this
  simpa using this
/-- What the laws ask: the errno is the one that is told, and the list is what it must be (none, if it is an error). -/
theorem intsAre_yes (v1 v2 : Value) (xs ys : List Int) (n : Int) (w : World) (h1 : IntSl w v1 xs) (h2 : IntSl w v2 ys) (h : xs = if n = 0 then ys else []) : Calls Tryz.prog 14 #[v1, .int .i64 n, .int .i64 n, v2] w fun e w' => e = .returned (.bool true) ∧ Bel w w' := by
  by_cases hn : n = 0
  · subst hn
    rw [if_pos rfl] at h
    have c1 := sameInts_yes v1 v2 xs ys w h1 h2 h
    obtain ⟨a, ca, rfl, _⟩ := h1
    obtain ⟨b, cb, rfl, _⟩ := h2
    have C1 := Lib.hid c1
    clear c1 h
    go_enter Tryz.func14, Tryz.ntmps14
    go_wp2_with (go_at_call 31; refine (C1.out).mono ?_; rintro e w' ⟨rfl, hb⟩)
    go_ret
    exact ⟨rfl, by assumption⟩
  · rw [if_neg hn] at h
    have hne : (n != 0) = true := by simpa using hn
    have c1 := sameInts_yes v1 (.slice .none 0 0) xs [] w h1 (IntSl.nil_ w) h
    obtain ⟨a, ca, rfl, _⟩ := h1
    obtain ⟨b, cb, rfl, _⟩ := h2
    have C1 := Lib.hid c1
    clear c1 h hn
    go_enter Tryz.func14, Tryz.ntmps14
    go_wp2_with (go_at_call 31; refine (C1.out).mono ?_; rintro e w' ⟨rfl, hb⟩)
    go_ret
    exact ⟨rfl, by assumption⟩
end Go.Proofs.YtcgdecpjlggekaaGreatDoor

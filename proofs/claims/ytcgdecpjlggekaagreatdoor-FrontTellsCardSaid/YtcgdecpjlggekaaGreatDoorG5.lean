/-
  Texts of the proof, laid together: Scan5, Mark, Front1, Up, PlainFront2, Bits, Utf8, Utf8b, Utf16, Utf8c, Utf16b, Single, Kana. No condition of its own.
-/
import Derived.Test.YtcgdecpjlggekaaGreatDoorG4
import Derived.Test.YtcgdecpjlggekaaGreatDoorProg
import Derived.Test.YtcgdecpjlggekaaGreatDoorG2
import Derived.Test.YtcgdecpjlggekaaGreatDoorG1
import Derived.Test.YtcgdecpjlggekaaGreatDoorG3
import Derived.WalkLawsBesides
import Derived.WalkSpells
import Derived.Deep.QuietTactic
import Derived.BigQuiet
import Derived.WalkKit
import Derived.Laws.BitsAllLaws
import Derived.Laws.BitsLemmas
import Derived.Maps.OwnSet
import Derived.RegionTactic
import Derived.BigRegion

/-
  Package scan: Of, Scan.
-/
namespace Go.Proofs.YtcgdecpjlggekaaGreatDoor
open Go.RowKit
set_option maxRecDepth 1000000
set_option maxHeartbeats 4000000

theorem scanOf_any (s : ByteArray) (hs : s.size ≤ 9000) (w : World) (hL : Len w) : Calls Tryz.prog 42 #[.string s] w fun e w' => e = .returned (.int .i64 (M.scanA s.data.toList)) ∧ Bel w w' := by
  obtain ⟨mn, hmn⟩ : ∃ mn : Nat, mn = min s.size 256 := ⟨_, rfl⟩
  have hmi : min (s.size : Int) 256 = (mn : Int) := by omega
  have hms : mn ≤ s.size := by omega
  have hbd : (0 : Int) ≤ (mn : Int) ∧ (mn : Int) ≤ (s.size : Int) := by omega
  obtain ⟨u, hu⟩ : ∃ u : ByteArray, s.extract 0 mn = u := ⟨_, rfl⟩
  have hul : u.data.toList = s.data.toList.take 256 := by
    rw [← hu, Lib.extract_data, List.drop_zero, Nat.sub_zero, hmn, Lib.size_eq]
    by_cases h9 : s.data.toList.length ≤ 256
    · rw [Nat.min_eq_left h9, List.take_length, List.take_of_length_le h9]
    · rw [Nat.min_eq_right (by omega)]
  have hus : u.size ≤ 256 := by rw [Lib.size_eq, hul, List.length_take]; omega
  have HA := Lib.hid (show M.scanA s.data.toList = M.scan0 u.data.toList by rw [M.scanA, hul])
  clear hul hmn
  go_enter Tryz.func42, Tryz.ntmps42
  go_wp2_with fail
  clear hu hmi hbd
  refine (folded_any u w (by omega)).mono ?_
  rintro e W0 ⟨rfl, b0⟩
  obtain ⟨low, hlow⟩ : ∃ low : ByteArray, low = ⟨(M.fold u.data.toList).toArray⟩ := ⟨_, rfl⟩
  have hl : Low u low := by rw [hlow, Low]
  rw [← hlow]
  clear hlow
  go_wp2_with fail
  have hr1 : Lk (W0.alloc (.cells #[.string u, .string low, .int .i64 0] 104)) W0.heap.size u low 0 := Box.new W0 104 [.string u, .string low, .int .i64 0]
  have hb2 := b0.alloc (.cells #[.string u, .string low, .int .i64 0] 104)
  have hgs := b0.size
  generalize (W0.alloc (.cells #[.string u, .string low, .int .i64 0] 104)) = W1 at *
  generalize W0.heap.size = g at *
  go_loopg [4] (u.size + 1) (fun gg _ wr => ∃ (j : Nat), j ≤ u.size ∧ u.size - j ≤ gg ∧ Lk wr g u low j ∧ Bel w wr ∧ Hid (M.scanA s.data.toList = M.scan0 (u.data.toList.drop j)))
  case atStart => exact ⟨0, by omega, by omega, hr1, hb2, HA⟩
  case round =>
    clear hr1 hb2
    obtain ⟨j, hj, hg, hr, hb, HJ⟩ := hrel
    have c2 := Box.cell hr 2 _ rfl
    by_cases hlt : j < u.size
    · obtain ⟨n, t, hst⟩ : ∃ n t, M.stepS (u.data.toList.drop j) = (n, t) := ⟨_, _, rfl⟩
      have st := step_any g u low j wr hr hl hj hlt (by omega) (hL.bel hb) n t hst
      obtain ⟨c, l, hcl⟩ : ∃ c l, u.data.toList.drop j = c :: l := by
        cases hd : u.data.toList.drop j with
        | nil =>
          have := congrArg List.length hd
          rw [List.length_drop, ← Lib.size_eq, List.length_nil] at this
          omega
        | cons c l => exact ⟨c, l, rfl⟩
      have hless := M.stepS_less c l
      rw [← hcl, hst, List.length_drop, ← Lib.size_eq] at hless
      have hless : t.length < u.size - j := hless
      have hsc := M.scan0_cons c l
      rw [← hcl, hst] at hsc
      have hs2 : M.scan0 (u.data.toList.drop j) = if n = 0 then M.scan0 t else n := hsc
      clear hst hcl hsc
      by_cases hn : n = 0
      · rw [if_pos hn] at hs2
        subst hn
        have HR := Lib.hid (HJ.out.trans hs2)
        clear hs2 HJ
        go_wp2_with fail
        refine st.mono ?_
        rintro e W2 ⟨rfl, ⟨k', hk', hr2, hd⟩, hB⟩
        have hlen := congrArg List.length hd
        rw [List.length_drop, ← Lib.size_eq] at hlen
        have HD := Lib.hid hd
        clear hd
        go_wp2_with fail
        go_roundg (u.size - k')
        case measure => omega
        case rel => exact ⟨k', hk', Nat.le_refl _, hr2, hB.bel hb hgs, Lib.hid (by rw [HR.out, HD.out])⟩
      · rw [if_neg hn] at hs2
        have HR := Lib.hid (HJ.out.trans hs2)
        have hn9 : (n == 0) = false := by simp [hn]
        clear hs2 HJ hn
        go_wp2_with fail
        refine st.mono ?_
        rintro e W2 ⟨rfl, ⟨k', hk', hr2, hd⟩, hB⟩
        clear hd
        go_wp2_with fail
        go_ret
        exact ⟨by rw [HR.out]; rfl, hB.bel hb hgs⟩
    · obtain rfl : j = u.size := by omega
      have HR := Lib.hid (show M.scanA s.data.toList = 0 by rw [HJ.out, List.drop_eq_nil_of_le (by rw [← Lib.size_eq]; exact Nat.le_refl _)]; rfl)
      go_wp2_with fail
      go_ret
      exact ⟨by rw [HR.out]; rfl, hb⟩
theorem scan_to (s : ByteArray) (n x : Int) (h : M.scanE s.data.toList = (n, x)) (w : World) (hL : Len w) : Calls Tryz.prog 20 #[.string s] w fun e w' => e = .returned (.tuple #[.int .i64 n, .int .i64 x]) ∧ Bel w w' := by
  by_cases hl : 3000 < s.size
  · rw [M.scanE, if_pos (by rw [← Lib.size_eq]; exact hl)] at h
    injection h with h1 h2
    subst h1; subst h2
    go_enter Tryz.func20, Tryz.ntmps20
    go_wp2
    go_ret2
    exact ⟨rfl, Bel.refl _⟩
  · rw [M.scanE, if_neg (by rw [← Lib.size_eq]; exact hl)] at h
    injection h with h1 h2
    subst h1; subst h2
    go_enter Tryz.func20, Tryz.ntmps20
    go_wp2_with (go_at_call 42; refine (scanOf_any s (by omega) _ hL).mono ?_; rintro e w' ⟨rfl, hb⟩)
    go_ret2
    exact ⟨rfl, hb⟩
end Go.Proofs.YtcgdecpjlggekaaGreatDoor

/-
  Package mark: what Sniff, May, Ahead and Put compute.
-/
namespace Go.Proofs.YtcgdecpjlggekaaGreatDoor
open Go.RowKit

theorem litePrefix (s p : ByteArray) (w : World) : Calls Tryz.prog 72 #[.string s, .string p] w fun e w' => e = .returned (.bool (Lib.hasPrefix s.data.toList p.data.toList)) ∧ w = w' := by
  have H := Lib.hid (Lib.hasPrefix_raw s p)
  by_cases h : p.size ≤ s.size
  · go_enter Tryz.func72, Tryz.ntmps72
    go_wp2
    go_ret
    refine ⟨?_, rfl⟩
    rw [← H.out]; simp [h]
  · go_enter Tryz.func72, Tryz.ntmps72
    go_wp2
    go_ret
    refine ⟨?_, rfl⟩
    rw [← H.out]; simp [h]
theorem hasPrefix_any (s p : ByteArray) (w : World) : Calls Tryz.prog 40 #[.string s, .string p] w fun e w' => e = .returned (.bool (Lib.hasPrefix s.data.toList p.data.toList)) ∧ w = w' := by
  go_enter Tryz.func40, Tryz.ntmps40
  go_wp2_with (go_at_call 72; refine (litePrefix _ _ _).mono ?_; rintro e w' ⟨rfl, rfl⟩)
  go_ret
  exact ⟨rfl, rfl⟩
theorem marks_any (w : World) : Calls Tryz.prog 39 #[] w fun e w' => e = .returned (.slice (some ⟨w.heap.size, 0, none⟩) 3 3) ∧ w.alloc (.cells #[.int .i64 1, .string ⟨#[239, 187, 191]⟩, .int .i64 3, .string ⟨#[254, 255]⟩, .int .i64 2, .string ⟨#[255, 254]⟩] 71) = w' := by
  go_enter Tryz.func39, Tryz.ntmps39
  go_wp2
  go_ret
  exact ⟨rfl, rfl⟩

theorem may_any (s : ByteArray) (w : World) : Calls Tryz.prog 34 #[.string s] w fun e w' => e = .returned (.bool (M.may s.data.toList)) ∧ Bel w w' := by
  have H := Lib.hid (show M.may s.data.toList = ((decide ((s.size : Int) < 3) && Lib.hasPrefix [239, 187, 191] s.data.toList) || (decide ((s.size : Int) < 2) && Lib.hasPrefix [254, 255] s.data.toList) || (decide ((s.size : Int) < 2) && Lib.hasPrefix [255, 254] s.data.toList)) by
    rw [Lib.size_eq]; unfold M.may; norm_cast)
  go_enter Tryz.func34, Tryz.ntmps34
  go_wp2_with (first | (go_at_call 39; refine (marks_any _).mono ?_; rintro e w' ⟨rfl, rfl⟩) | (go_at_call 40; refine (hasPrefix_any _ _ _).mono ?_; rintro e w' ⟨rfl, rfl⟩))
  refine wp_loop_rounds 4 ?_
  rw [rounds_succ]
  go_wp2_with (first | (go_at_call 39; refine (marks_any _).mono ?_; rintro e w' ⟨rfl, rfl⟩) | (go_at_call 40; refine (hasPrefix_any _ _ _).mono ?_; rintro e w' ⟨rfl, rfl⟩))
  all_goals try (rw [rounds_succ]; go_wp2_with (first | (go_at_call 39; refine (marks_any _).mono ?_; rintro e w' ⟨rfl, rfl⟩) | (go_at_call 40; refine (hasPrefix_any _ _ _).mono ?_; rintro e w' ⟨rfl, rfl⟩)))
  all_goals try (rw [rounds_succ]; go_wp2_with (first | (go_at_call 39; refine (marks_any _).mono ?_; rintro e w' ⟨rfl, rfl⟩) | (go_at_call 40; refine (hasPrefix_any _ _ _).mono ?_; rintro e w' ⟨rfl, rfl⟩)))
  all_goals try (rw [rounds_succ]; go_wp2_with (first | (go_at_call 39; refine (marks_any _).mono ?_; rintro e w' ⟨rfl, rfl⟩) | (go_at_call 40; refine (hasPrefix_any _ _ _).mono ?_; rintro e w' ⟨rfl, rfl⟩)))
  all_goals go_ret
  all_goals refine ⟨?_, (by repeat (first | exact Bel.refl _ | refine Bel.drewN ?_ _ | refine Bel.drew ?_ | refine Bel.alloc ?_ _ | refine Bel.trans ?_ (by assumption) | refine Bel.setCell ?_ (by simp; omega) _))⟩
  all_goals (try have n2 : decide ((s.size : Int) < 2) = false := by (simp; omega))
  all_goals (try have n3 : decide ((s.size : Int) < 3) = false := by (simp; omega))
  all_goals (rw [H.out]; simp [*])

theorem sniff_any (s : ByteArray) (w : World) : Calls Tryz.prog 18 #[.string s] w fun e w' => e = .returned (.tuple #[.int .i64 (M.sniff s.data.toList).1, .int .i64 (M.sniff s.data.toList).2]) ∧ Bel w w' := by
  go_enter Tryz.func18, Tryz.ntmps18
  go_wp2_with (first | (go_at_call 39; refine (marks_any _).mono ?_; rintro e w' ⟨rfl, rfl⟩) | (go_at_call 40; refine (hasPrefix_any _ _ _).mono ?_; rintro e w' ⟨rfl, rfl⟩))
  refine wp_loop_rounds 4 ?_
  rw [rounds_succ]
  go_wp2_with (first | (go_at_call 39; refine (marks_any _).mono ?_; rintro e w' ⟨rfl, rfl⟩) | (go_at_call 40; refine (hasPrefix_any _ _ _).mono ?_; rintro e w' ⟨rfl, rfl⟩))
  all_goals try (rw [rounds_succ]; go_wp2_with (first | (go_at_call 39; refine (marks_any _).mono ?_; rintro e w' ⟨rfl, rfl⟩) | (go_at_call 40; refine (hasPrefix_any _ _ _).mono ?_; rintro e w' ⟨rfl, rfl⟩)))
  all_goals try (rw [rounds_succ]; go_wp2_with (first | (go_at_call 39; refine (marks_any _).mono ?_; rintro e w' ⟨rfl, rfl⟩) | (go_at_call 40; refine (hasPrefix_any _ _ _).mono ?_; rintro e w' ⟨rfl, rfl⟩)))
  all_goals try (rw [rounds_succ]; go_wp2_with (first | (go_at_call 39; refine (marks_any _).mono ?_; rintro e w' ⟨rfl, rfl⟩) | (go_at_call 40; refine (hasPrefix_any _ _ _).mono ?_; rintro e w' ⟨rfl, rfl⟩)))
  all_goals try (go_quiet (fail); go_wp2)
  all_goals go_ret2
  all_goals refine ⟨?_, (by repeat (first | exact Bel.refl _ | refine Bel.drewN ?_ _ | refine Bel.drew ?_ | refine Bel.alloc ?_ _ | refine Bel.trans ?_ (by assumption) | refine Bel.setCell ?_ (by simp; omega) _))⟩
  all_goals simp [M.sniff, *]

theorem ahead_any (n : Int) (w : World) : Calls Tryz.prog 64 #[.int .i64 n] w fun e w' => e = .returned (.string ⟨(M.markOf n).toArray⟩) ∧ Bel w w' := by
  go_enter Tryz.func64, Tryz.ntmps64
  go_wp2_with (first | (go_at_call 39; refine (marks_any _).mono ?_; rintro e w' ⟨rfl, rfl⟩) | (go_at_call 40; refine (hasPrefix_any _ _ _).mono ?_; rintro e w' ⟨rfl, rfl⟩))
  refine wp_loop_rounds 4 ?_
  rw [rounds_succ]
  go_wp2_with (first | (go_at_call 39; refine (marks_any _).mono ?_; rintro e w' ⟨rfl, rfl⟩) | (go_at_call 40; refine (hasPrefix_any _ _ _).mono ?_; rintro e w' ⟨rfl, rfl⟩))
  all_goals try (rw [rounds_succ]; go_wp2_with (first | (go_at_call 39; refine (marks_any _).mono ?_; rintro e w' ⟨rfl, rfl⟩) | (go_at_call 40; refine (hasPrefix_any _ _ _).mono ?_; rintro e w' ⟨rfl, rfl⟩)))
  all_goals try (rw [rounds_succ]; go_wp2_with (first | (go_at_call 39; refine (marks_any _).mono ?_; rintro e w' ⟨rfl, rfl⟩) | (go_at_call 40; refine (hasPrefix_any _ _ _).mono ?_; rintro e w' ⟨rfl, rfl⟩)))
  all_goals try (rw [rounds_succ]; go_wp2_with (first | (go_at_call 39; refine (marks_any _).mono ?_; rintro e w' ⟨rfl, rfl⟩) | (go_at_call 40; refine (hasPrefix_any _ _ _).mono ?_; rintro e w' ⟨rfl, rfl⟩)))
  all_goals go_ret
  all_goals refine ⟨?_, (by repeat (first | exact Bel.refl _ | refine Bel.drewN ?_ _ | refine Bel.drew ?_ | refine Bel.alloc ?_ _ | refine Bel.trans ?_ (by assumption) | refine Bel.setCell ?_ (by simp; omega) _))⟩
  all_goals simp_all [M.markOf]

theorem put_any (n : Int) (s : ByteArray) (w : World) (hs : s.size ≤ 9223372036854775800) : Calls Tryz.prog 33 #[.int .i64 n, .string s] w fun e w' => e = .returned (.tuple #[.string ⟨(M.put n s.data.toList).1.toArray⟩, .int .i64 (M.put n s.data.toList).2]) ∧ Bel w w' := by
  have H := Lib.hid (Lib.size_eq s)
  have hm : (M.markOf n).length ≤ 3 := by unfold M.markOf; split <;> (try split) <;> (try split) <;> simp
  by_cases h1 : M.isEnc n = true
  · by_cases h2 : s.size ≤ 3000
    · have hp := Lib.hid (show M.put n s.data.toList = (M.markOf n ++ s.data.toList, 0) by rw [M.put, if_neg (by simp [h1]), if_neg (by rw [← Lib.size_eq]; omega)])
      have hlt : (M.markOf n).length + s.size ≤ 9223372036854775807 := by omega
      go_enter Tryz.func33, Tryz.ntmps33
      go_wp2_with (first | (go_at_call 61; refine (isEnc_any _ _).mono ?_; rintro e w' ⟨rfl, rfl⟩) | (go_at_call 64; refine (ahead_any _ _).mono ?_; rintro e w' ⟨rfl, hb⟩))
      go_ret2
      refine ⟨?_, (by repeat (first | exact Bel.refl _ | refine Bel.drewN ?_ _ | refine Bel.drew ?_ | refine Bel.alloc ?_ _ | refine Bel.trans ?_ (by assumption) | refine Bel.setCell ?_ (by simp; omega) _))⟩
      rw [hp.out]; rfl
    · have hp := Lib.hid (show M.put n s.data.toList = ([], 2) by rw [M.put, if_neg (by simp [h1]), if_pos (by rw [← Lib.size_eq]; omega)])
      go_enter Tryz.func33, Tryz.ntmps33
      go_wp2_with (first | (go_at_call 61; refine (isEnc_any _ _).mono ?_; rintro e w' ⟨rfl, rfl⟩) | (go_at_call 64; refine (ahead_any _ _).mono ?_; rintro e w' ⟨rfl, hb⟩))
      go_ret2
      refine ⟨?_, (by repeat (first | exact Bel.refl _ | refine Bel.drewN ?_ _ | refine Bel.drew ?_ | refine Bel.alloc ?_ _ | refine Bel.trans ?_ (by assumption) | refine Bel.setCell ?_ (by simp; omega) _))⟩
      rw [hp.out]; rfl
  · rw [Bool.not_eq_true] at h1
    have hp := Lib.hid (show M.put n s.data.toList = ([], 6) by rw [M.put, if_pos h1])
    go_enter Tryz.func33, Tryz.ntmps33
    go_wp2_with (first | (go_at_call 61; refine (isEnc_any _ _).mono ?_; rintro e w' ⟨rfl, rfl⟩) | (go_at_call 64; refine (ahead_any _ _).mono ?_; rintro e w' ⟨rfl, hb⟩))
    go_ret2
    refine ⟨?_, (by repeat (first | exact Bel.refl _ | refine Bel.drewN ?_ _ | refine Bel.drew ?_ | refine Bel.alloc ?_ _ | refine Bel.trans ?_ (by assumption) | refine Bel.setCell ?_ (by simp; omega) _))⟩
    rw [hp.out]; rfl
end Go.Proofs.YtcgdecpjlggekaaGreatDoor

/-
  Package front: chosen, Choose, Begin, enough.
-/
namespace Go.Proofs.YtcgdecpjlggekaaGreatDoor
open Go.RowKit
set_option maxRecDepth 1000000
set_option maxHeartbeats 2000000

theorem sniffF_to (s : ByteArray) (n k : Int) (h : M.sniff s.data.toList = (n, k)) (w : World) : Calls Tryz.prog 18 #[.string s] w fun e w' => e = .returned (.tuple #[.int .i64 n, .int .i64 k]) ∧ Bel w w' := by
  have := sniff_any s w; rw [h] at this; exact this
theorem ofF_to (s : ByteArray) (n : Int) (h : M.find s.data.toList = n) (hs : s.size ≤ 68719476735) (w : World) : Calls Tryz.prog 41 #[.string s] w fun e w' => e = .returned (.int .i64 n) ∧ Bel w w' := by
  have := of_any s w hs; rw [h] at this; exact this
theorem scanF_to (s : ByteArray) (n : Int) (h : M.scanA s.data.toList = n) (hs : s.size ≤ 9000) (w : World) (hL : Len w) : Calls Tryz.prog 42 #[.string s] w fun e w' => e = .returned (.int .i64 n) ∧ Bel w w' := by
  have := scanOf_any s hs w hL; rw [h] at this; exact this
theorem chosen_to (nm s : ByteArray) (n y k : Int) (h : M.chosen nm.data.toList s.data.toList = (n, y, k)) (hn : nm.size ≤ 68719476735) (hs : s.size ≤ 9000) (w : World) (hL : Len w) : Calls Tryz.prog 22 #[.string nm, .string s] w fun e w' => e = .returned (.tuple #[.int .i64 n, .int .i64 y, .int .i64 k]) ∧ Bel w w' := by
  obtain ⟨a, b, hsn⟩ : ∃ a b, M.sniff s.data.toList = (a, b) := ⟨_, _, rfl⟩
  have HSN := Lib.hid hsn
  obtain ⟨f, hf⟩ : ∃ f, M.find nm.data.toList = f := ⟨_, rfl⟩
  have HF := Lib.hid hf
  obtain ⟨m, hm⟩ : ∃ m, M.scanA s.data.toList = m := ⟨_, rfl⟩
  have HM := Lib.hid hm
  rw [M.chosen, hsn, hf, hm] at h
  simp only at h
  by_cases h1 : a = 0
  · rw [if_neg (by simp [h1])] at h
    by_cases h2 : f = 0
    · rw [if_neg (by simp [h2])] at h
      by_cases h3 : m = 0
      · rw [if_neg (by simp [h3])] at h
        simp only [Prod.mk.injEq] at h
        obtain ⟨rfl, rfl, rfl⟩ := h
        subst h1; subst h2; subst h3
        clear hsn hf hm
        go_enter Tryz.func22, Tryz.ntmps22
        go_wp2_with fail
        refine (sniffF_to s _ _ HSN.out _).mono ?_
        rintro e w1 ⟨rfl, b1⟩
        go_wp2_with fail
        refine (ofF_to nm _ HF.out hn _).mono ?_
        rintro e w2 ⟨rfl, b2⟩
        have b2 := b1.trans b2
        go_wp2_with fail
        refine (scanF_to s _ HM.out hs _ (hL.bel b2)).mono ?_
        rintro e w3 ⟨rfl, b3⟩
        have b3 := b2.trans b3
        go_wp2_with fail
        refine bodyPost_ret (v := .tuple #[.int .i64 4, .int .i64 4, .int .i64 0]) (by simp [results, Tryz.results22, go_sem]) rfl ?_
        exact ⟨rfl, b3⟩
      · rw [if_pos h3] at h
        simp only [Prod.mk.injEq] at h
        obtain ⟨rfl, rfl, rfl⟩ := h
        subst h1; subst h2
        have g3 : (m != 0) = true := by simpa using h3
        clear hsn hf hm h3
        go_enter Tryz.func22, Tryz.ntmps22
        go_wp2_with fail
        refine (sniffF_to s _ _ HSN.out _).mono ?_
        rintro e w1 ⟨rfl, b1⟩
        go_wp2_with fail
        refine (ofF_to nm _ HF.out hn _).mono ?_
        rintro e w2 ⟨rfl, b2⟩
        have b2 := b1.trans b2
        go_wp2_with fail
        refine (scanF_to s _ HM.out hs _ (hL.bel b2)).mono ?_
        rintro e w3 ⟨rfl, b3⟩
        have b3 := b2.trans b3
        go_wp2_with fail
        refine bodyPost_ret (v := .tuple #[.int .i64 m, .int .i64 3, .int .i64 0]) (by simp [results, Tryz.results22, go_sem]) rfl ?_
        exact ⟨rfl, b3⟩
    · rw [if_pos h2] at h
      simp only [Prod.mk.injEq] at h
      obtain ⟨rfl, rfl, rfl⟩ := h
      subst h1
      have g2 : (f != 0) = true := by simpa using h2
      clear hsn hf hm h2
      go_enter Tryz.func22, Tryz.ntmps22
      go_wp2_with fail
      refine (sniffF_to s _ _ HSN.out _).mono ?_
      rintro e w1 ⟨rfl, b1⟩
      go_wp2_with fail
      refine (ofF_to nm _ HF.out hn _).mono ?_
      rintro e w2 ⟨rfl, b2⟩
      have b2 := b1.trans b2
      go_wp2_with fail
      refine bodyPost_ret (v := .tuple #[.int .i64 f, .int .i64 2, .int .i64 0]) (by simp [results, Tryz.results22, go_sem]) rfl ?_
      exact ⟨rfl, b2⟩
  · rw [if_pos h1] at h
    simp only [Prod.mk.injEq] at h
    obtain ⟨rfl, rfl, rfl⟩ := h
    have g1 : (a != 0) = true := by simpa using h1
    clear hsn hf hm h1
    go_enter Tryz.func22, Tryz.ntmps22
    go_wp2_with fail
    refine (sniffF_to s _ _ HSN.out _).mono ?_
    rintro e w1 ⟨rfl, b1⟩
    go_wp2_with fail
    refine bodyPost_ret (v := .tuple #[.int .i64 a, .int .i64 1, .int .i64 b]) (by simp [results, Tryz.results22, go_sem]) rfl ?_
    exact ⟨rfl, b1⟩
theorem longF_any (s : ByteArray) (w : World) : Calls Tryz.prog 21 #[.string s] w fun e w' => e = .returned (.bool (decide (3000 < s.size))) ∧ w = w' := by
  go_enter Tryz.func21, Tryz.ntmps21
  go_wp2
  all_goals go_ret
  all_goals exact ⟨by simp; omega, rfl⟩
theorem longF_to (s : ByteArray) (b : Bool) (h : decide (3000 < s.size) = b) (w : World) : Calls Tryz.prog 21 #[.string s] w fun e w' => e = .returned (.bool b) ∧ w = w' := by
  have := longF_any s w; rw [h] at this; exact this
theorem choose_to (nm s : ByteArray) (n y k x : Int) (h : M.chooseE nm.data.toList s.data.toList = (n, y, k, x)) (w : World) (hL : Len w) : Calls Tryz.prog 5 #[.string nm, .string s] w fun e w' => e = .returned (.tuple #[.int .i64 n, .int .i64 y, .int .i64 k, .int .i64 x]) ∧ Bel w w' := by
  rw [M.chooseE, ← Lib.size_eq, ← Lib.size_eq] at h
  by_cases h1 : 3000 < nm.size
  · rw [if_pos (.inl h1)] at h
    simp only [Prod.mk.injEq] at h
    obtain ⟨rfl, rfl, rfl, rfl⟩ := h
    have H1 := Lib.hid (decide_eq_true h1)
    clear h1
    go_enter Tryz.func5, Tryz.ntmps5
    go_wp2_with fail
    refine (longF_to nm _ H1.out _).mono ?_
    rintro e _ ⟨rfl, rfl⟩
    go_wp2_with fail
    refine bodyPost_ret (v := .tuple #[.int .i64 0, .int .i64 0, .int .i64 0, .int .i64 2]) (by simp [results, Tryz.results5, go_sem]) rfl ?_
    exact ⟨rfl, Bel.refl _⟩
  · have H1 := Lib.hid (decide_eq_false h1)
    have hn : nm.size ≤ 68719476735 := by omega
    by_cases h2 : 3000 < s.size
    · rw [if_pos (.inr h2)] at h
      simp only [Prod.mk.injEq] at h
      obtain ⟨rfl, rfl, rfl, rfl⟩ := h
      have H2 := Lib.hid (decide_eq_true h2)
      clear h1 h2
      go_enter Tryz.func5, Tryz.ntmps5
      go_wp2_with fail
      refine (longF_to nm _ H1.out _).mono ?_
      rintro e _ ⟨rfl, rfl⟩
      go_wp2_with fail
      refine (longF_to s _ H2.out _).mono ?_
      rintro e _ ⟨rfl, rfl⟩
      go_wp2_with fail
      refine bodyPost_ret (v := .tuple #[.int .i64 0, .int .i64 0, .int .i64 0, .int .i64 2]) (by simp [results, Tryz.results5, go_sem]) rfl ?_
      exact ⟨rfl, Bel.refl _⟩
    · rw [if_neg (fun h9 => h9.elim h1 h2)] at h
      have H2 := Lib.hid (decide_eq_false h2)
      have hs : s.size ≤ 9000 := by omega
      obtain ⟨n2, y2, k2, hc⟩ : ∃ n2 y2 k2, M.chosen nm.data.toList s.data.toList = (n2, y2, k2) := ⟨_, _, _, rfl⟩
      rw [hc] at h
      simp only [Prod.mk.injEq] at h
      obtain ⟨rfl, rfl, rfl, rfl⟩ := h
      have HC := Lib.hid hc
      clear h1 h2 hc
      go_enter Tryz.func5, Tryz.ntmps5
      go_wp2_with fail
      refine (longF_to nm _ H1.out _).mono ?_
      rintro e _ ⟨rfl, rfl⟩
      go_wp2_with fail
      refine (longF_to s _ H2.out _).mono ?_
      rintro e _ ⟨rfl, rfl⟩
      go_wp2_with fail
      refine (chosen_to nm s _ _ _ HC.out hn hs _ hL).mono ?_
      rintro e w1 ⟨rfl, b1⟩
      go_wp2_with fail
      refine bodyPost_ret (v := .tuple #[.int .i64 n2, .int .i64 y2, .int .i64 k2, .int .i64 0]) (by simp [results, Tryz.results5, go_sem]) rfl ?_
      exact ⟨rfl, b1⟩
theorem enough_to (nm s : ByteArray) (r : Bool) (h : M.enough nm.data.toList s.data.toList = r) (hn : nm.size ≤ 68719476735) (w : World) : Calls Tryz.prog 43 #[.string nm, .string s] w fun e w' => e = .returned (.bool r) ∧ Bel w w' := by
  obtain ⟨a, b, hsn⟩ : ∃ a b, M.sniff s.data.toList = (a, b) := ⟨_, _, rfl⟩
  have HSN := Lib.hid hsn
  obtain ⟨f, hf⟩ : ∃ f, M.find nm.data.toList = f := ⟨_, rfl⟩
  have HF := Lib.hid hf
  rw [M.enough, hsn, hf, ← Lib.size_eq] at h
  simp only at h
  by_cases h2 : f = 0
  · rw [if_neg (by simp [h2])] at h
    subst h2
    by_cases h1 : a = 0
    · have HR := Lib.hid (show r = decide (256 ≤ s.size) by rw [← h, decide_eq_false (by simp [h1])]; rfl)
      subst h1
      clear hsn hf h
      go_enter Tryz.func43, Tryz.ntmps43
      go_wp2_with fail
      refine (sniffF_to s _ _ HSN.out _).mono ?_
      rintro e w1 ⟨rfl, b1⟩
      go_wp2_with fail
      refine (ofF_to nm _ HF.out hn _).mono ?_
      rintro e w2 ⟨rfl, b2⟩
      have b2 := b1.trans b2
      go_wp2
      all_goals go_ret
      all_goals exact ⟨by rw [HR.out]; simp; omega, b2⟩
    · have HR := Lib.hid (show r = true by rw [← h, decide_eq_true h1]; rfl)
      have g1 : (a != 0) = true := by simpa using h1
      clear hsn hf h h1
      go_enter Tryz.func43, Tryz.ntmps43
      go_wp2_with fail
      refine (sniffF_to s _ _ HSN.out _).mono ?_
      rintro e w1 ⟨rfl, b1⟩
      go_wp2_with fail
      refine (ofF_to nm _ HF.out hn _).mono ?_
      rintro e w2 ⟨rfl, b2⟩
      have b2 := b1.trans b2
      go_wp2
      all_goals go_ret
      all_goals exact ⟨by rw [HR.out]; rfl, b2⟩
  · rw [if_pos h2] at h
    have g2 : (f != 0) = true := by simpa using h2
    by_cases h1 : a = 0
    · have HR := Lib.hid (show r = decide (3 ≤ s.size) by rw [← h, decide_eq_false (by simp [h1])]; rfl)
      subst h1
      clear hsn hf h h2
      go_enter Tryz.func43, Tryz.ntmps43
      go_wp2_with fail
      refine (sniffF_to s _ _ HSN.out _).mono ?_
      rintro e w1 ⟨rfl, b1⟩
      go_wp2_with fail
      refine (ofF_to nm _ HF.out hn _).mono ?_
      rintro e w2 ⟨rfl, b2⟩
      have b2 := b1.trans b2
      go_wp2
      all_goals go_ret
      all_goals exact ⟨by rw [HR.out]; simp; omega, b2⟩
    · have HR := Lib.hid (show r = true by rw [← h, decide_eq_true h1]; rfl)
      have g1 : (a != 0) = true := by simpa using h1
      clear hsn hf h h1 h2
      go_enter Tryz.func43, Tryz.ntmps43
      go_wp2_with fail
      refine (sniffF_to s _ _ HSN.out _).mono ?_
      rintro e w1 ⟨rfl, b1⟩
      go_wp2_with fail
      refine (ofF_to nm _ HF.out hn _).mono ?_
      rintro e w2 ⟨rfl, b2⟩
      have b2 := b1.trans b2
      go_wp2
      all_goals go_ret
      all_goals exact ⟨by rw [HR.out]; rfl, b2⟩
end Go.Proofs.YtcgdecpjlggekaaGreatDoor

/-
  A region that draws its order, whose calls make memory of their own and hand back one value: one walk in the order of the text serves every order. The class of worlds: those in which nothing that is old has changed.
-/
namespace Go.Proofs.YtcgdecpjlggekaaGreatDoor
open Go.RowKit

/-- The worlds in which nothing of w has changed. -/
def Up (w : World) : Type := { W : World // Bel w W }
def Up.v {w : World} (u : Up w) : World := u.1
theorem Up.b {w : World} (u : Up w) : Bel w u.v := u.2
instance {w : World} : Nonempty (Up w) := ⟨⟨w, Bel.refl w⟩⟩
theorem region_up {id : Nat} {Q : Exit → Act → World → Prop} {a : Act} {w : World} {l : List Oper} (hm : (Tryz.prog).follows .mixedOrders = true) (hB : Region.lexB .any l.toArray = true)
    (h : wpQuiet Tryz.prog l.toArray (fun w' => ∃ u : Up w, w' = u.v) (fun a' => ∀ w', (∃ u : Up w, w' = u.v) → Q .normal a' w') l a) : (Code.region id l.toArray true).wp Tryz.prog Q a w :=
  wp_region_quiet (C := fun w' => ∃ u : Up w, w' = u.v) hm hB ⟨⟨_, (Bel.refl w).drew⟩, rfl⟩ (by simpa using h)
/-- A contract of a call in such a region. -/
theorem up_call {f : FuncId} {args : Array Value} {w : World} {v : Value} (u : Up w) (h : Calls Tryz.prog f args u.v fun e w' => e = .returned v ∧ Bel u.v w') : Calls Tryz.prog f args u.v fun e w'' => e = .returned v ∧ ∃ u' : Up w, w'' = u'.v :=
  h.mono fun _ _ ⟨he, hb⟩ => ⟨he, ⟨⟨_, u.b.trans hb⟩, rfl⟩⟩
theorem Box.up {w : World} {g : Nat} {t : TypeId} {cs : List Value} (h : Box w g t cs) (i : Nat) (v : Value) (hv : cs[i]? = some v) (u : Up w) : u.v.cell? ⟨g, i, none⟩ = some v := (h.bel u.b).cell i v hv
end Go.Proofs.YtcgdecpjlggekaaGreatDoor

/-
  The cases of a front's check, in plain terms.
-/
namespace Go.Proofs.YtcgdecpjlggekaaGreatDoor.M
open Go

theorem isEnc_iff (n : Int) : isEnc n = true ↔ 1 ≤ n ∧ n ≤ 7 := by unfold isEnc; rw [decide_eq_true_eq]
theorem isEnc_not (n : Int) : isEnc n = false ↔ n < 1 ∨ 7 < n := by unfold isEnc; rw [decide_eq_false_iff_not]; omega
/-- What is wrong behind the lengths. -/
def wrongF (f : Ft) : Int :=
  if f.enc ≠ 0 ∧ isEnc f.enc = false then 6
  else if f.why < 0 ∨ 4 < f.why ∨ (decide (f.why = 0) != decide (f.enc = 0)) = true then 4
  else if (f.why = 0 ∧ emptySt f.state = false) ∨ (f.why ≠ 0 ∧ (f.wait ≠ [] ∨ f.state.enc ≠ f.enc)) then 1
  else if f.why = 0 then (if enough f.label f.wait = true then 4 else 0)
  else checkM f.state
theorem checkF_wrong (f : Ft) : checkF f = if 3000 < f.label.length ∨ 3000 < f.wait.length then 2 else wrongF f := rfl
theorem wrong_cases (f : Ft) :
    ((f.enc < 0 ∨ 7 < f.enc) ∧ wrongF f = 6) ∨
    ((f.enc = 0 ∨ (1 ≤ f.enc ∧ f.enc ≤ 7)) ∧ (f.why < 0 ∨ 4 < f.why) ∧ wrongF f = 4) ∨
    (f.enc = 0 ∧ (1 ≤ f.why ∧ f.why ≤ 4) ∧ wrongF f = 4) ∨
    ((1 ≤ f.enc ∧ f.enc ≤ 7) ∧ f.why = 0 ∧ wrongF f = 4) ∨
    (f.enc = 0 ∧ f.why = 0 ∧ emptySt f.state = false ∧ wrongF f = 1) ∨
    (f.enc = 0 ∧ f.why = 0 ∧ emptySt f.state = true ∧ enough f.label f.wait = true ∧ wrongF f = 4) ∨
    (f.enc = 0 ∧ f.why = 0 ∧ emptySt f.state = true ∧ enough f.label f.wait = false ∧ wrongF f = 0) ∨
    ((1 ≤ f.enc ∧ f.enc ≤ 7) ∧ (1 ≤ f.why ∧ f.why ≤ 4) ∧ f.wait ≠ [] ∧ wrongF f = 1) ∨
    ((1 ≤ f.enc ∧ f.enc ≤ 7) ∧ (1 ≤ f.why ∧ f.why ≤ 4) ∧ f.wait = [] ∧ f.state.enc ≠ f.enc ∧ wrongF f = 1) ∨
    ((1 ≤ f.enc ∧ f.enc ≤ 7) ∧ (1 ≤ f.why ∧ f.why ≤ 4) ∧ f.wait = [] ∧ f.state.enc = f.enc ∧ wrongF f = checkM f.state) := by
  by_cases he : f.enc = 0
  · have hi : isEnc f.enc = false := (isEnc_not _).2 (by omega)
    by_cases hw : f.why < 0 ∨ 4 < f.why
    · refine .inr (.inl ⟨.inl he, hw, ?_⟩)
      rw [wrongF, if_neg (fun h => h.1 he), if_pos (by rcases hw with h | h; exact .inl h; exact .inr (.inl h))]
    · by_cases hy : f.why = 0
      · have n2 : ¬ (f.why < 0 ∨ 4 < f.why ∨ (decide (f.why = 0) != decide (f.enc = 0)) = true) := by
          rw [hy, he]; simp
        cases hs : emptySt f.state with
        | false =>
          refine .inr (.inr (.inr (.inr (.inl ⟨he, hy, rfl, ?_⟩))))
          rw [wrongF, if_neg (fun h => h.1 he), if_neg n2, if_pos (.inl ⟨hy, hs⟩)]
        | true =>
          have n3 : ¬ ((f.why = 0 ∧ emptySt f.state = false) ∨ (f.why ≠ 0 ∧ (f.wait ≠ [] ∨ f.state.enc ≠ f.enc))) := by
            rw [hs]; rintro (h | h)
            · cases h.2
            · exact h.1 hy
          cases hen : enough f.label f.wait with
          | true =>
            refine .inr (.inr (.inr (.inr (.inr (.inl ⟨he, hy, rfl, rfl, ?_⟩)))))
            rw [wrongF, if_neg (fun h => h.1 he), if_neg n2, if_neg n3, if_pos hy, if_pos hen]
          | false =>
            refine .inr (.inr (.inr (.inr (.inr (.inr (.inl ⟨he, hy, rfl, rfl, ?_⟩))))))
            rw [wrongF, if_neg (fun h => h.1 he), if_neg n2, if_neg n3, if_pos hy, if_neg (by rw [hen]; decide)]
      · refine .inr (.inr (.inl ⟨he, by omega, ?_⟩))
        rw [wrongF, if_neg (fun h => h.1 he), if_pos (.inr (.inr (by rw [he]; simp [hy])))]
  · cases hi : isEnc f.enc with
    | false =>
      refine .inl ⟨?_, ?_⟩
      · have := (isEnc_not _).1 hi; omega
      · rw [wrongF, if_pos ⟨he, hi⟩]
    | true =>
      have hb := (isEnc_iff _).1 hi
      have n1 : ¬ (f.enc ≠ 0 ∧ isEnc f.enc = false) := fun h => by rw [hi] at h; cases h.2
      by_cases hw : f.why < 0 ∨ 4 < f.why
      · refine .inr (.inl ⟨.inr hb, hw, ?_⟩)
        rw [wrongF, if_neg n1, if_pos (by rcases hw with h | h; exact .inl h; exact .inr (.inl h))]
      · by_cases hy : f.why = 0
        · refine .inr (.inr (.inr (.inl ⟨hb, hy, ?_⟩)))
          rw [wrongF, if_neg n1, if_pos (.inr (.inr (by rw [hy]; simp [he])))]
        · have n2 : ¬ (f.why < 0 ∨ 4 < f.why ∨ (decide (f.why = 0) != decide (f.enc = 0)) = true) := by
            rintro (h | h | h)
            · exact hw (.inl h)
            · exact hw (.inr h)
            · simp [hy, he] at h
          by_cases h1 : f.wait = []
          · by_cases h2 : f.state.enc = f.enc
            · refine .inr (.inr (.inr (.inr (.inr (.inr (.inr (.inr (.inr ⟨hb, by omega, h1, h2, ?_⟩))))))))
              rw [wrongF, if_neg n1, if_neg n2, if_neg (by rintro (h | h); exact hy h.1; exact h.2.elim (fun h9 => h9 h1) (fun h9 => h9 h2)), if_neg hy]
            · refine .inr (.inr (.inr (.inr (.inr (.inr (.inr (.inr (.inl ⟨hb, by omega, h1, h2, ?_⟩))))))))
              rw [wrongF, if_neg n1, if_neg n2, if_pos (.inr ⟨hy, .inr h2⟩)]
          · refine .inr (.inr (.inr (.inr (.inr (.inr (.inr (.inl ⟨hb, by omega, h1, ?_⟩)))))))
            rw [wrongF, if_neg n1, if_neg n2, if_pos (.inr ⟨hy, .inl h1⟩)]
theorem emptySt_iff (d : St) : emptySt d = true ↔ d = zst := by
  obtain ⟨a, b, c, e, f⟩ := d
  unfold emptySt zst
  cases e <;> cases f <;> simp [and_assoc]
/-- What a right front is. -/
theorem right_front (f : Ft) (h : checkF f = 0) : f.label.length ≤ 3000 ∧
    ((f.enc = 0 ∧ f.why = 0 ∧ f.state = zst ∧ enough f.label f.wait = false ∧ f.wait.length < 256) ∨
     ((1 ≤ f.enc ∧ f.enc ≤ 7) ∧ (1 ≤ f.why ∧ f.why ≤ 4) ∧ f.wait = [] ∧ f.state.enc = f.enc ∧ checkM f.state = 0)) := by
  rw [checkF_wrong] at h
  by_cases hl : 3000 < f.label.length ∨ 3000 < f.wait.length
  · rw [if_pos hl] at h; cases h
  · rw [if_neg hl] at h
    refine ⟨by omega, ?_⟩
    rcases wrong_cases f with ⟨_, e⟩ | ⟨_, _, e⟩ | ⟨_, _, e⟩ | ⟨_, _, e⟩ | ⟨_, _, _, e⟩ | ⟨_, _, _, _, e⟩ | ⟨h1, h2, h3, h4, e⟩ | ⟨_, _, _, e⟩ | ⟨_, _, _, _, e⟩ | ⟨h1, h2, h3, h4, e⟩
    all_goals rw [e] at h
    all_goals try (exact absurd h (by decide))
    · refine .inl ⟨h1, h2, (emptySt_iff _).1 h3, h4, ?_⟩
      unfold enough at h4
      rw [Bool.or_eq_false_iff, decide_eq_false_iff_not, decide_eq_false_iff_not] at h4
      have := h4.2
      split at this <;> omega
    · exact .inr ⟨h1, h2, h3, h4, h⟩
end Go.Proofs.YtcgdecpjlggekaaGreatDoor.M

/-
  Bits: 'or' of numbers whose bits lie apart is their sum.
-/
namespace Go.Proofs.YtcgdecpjlggekaaGreatDoor
open Go.RowKit

theorem ofInt_i64 (a : Nat) (ha : a < 9223372036854775808) : (BitVec.ofInt 64 (a : Int)).toNat = a := by
  rw [BitVec.ofInt_natCast, BitVec.toNat_ofNat]; exact Nat.mod_eq_of_lt (by omega)
theorem i64_or_nat (a b : Nat) (ha : a < 9223372036854775808) (hb : b < 9223372036854775808) : bits .or .i64 (a : Int) (b : Int) = ((a ||| b : Nat) : Int) := by
  have hx : a ||| b < 2 ^ 63 := Nat.or_lt_two_pow (by omega) (by omega)
  show IntKind.i64.wrap ((BitVec.ofInt 64 (a : Int) ||| BitVec.ofInt 64 (b : Int)).toNat : Int) = _
  rw [BitVec.toNat_or, ofInt_i64 a ha, ofInt_i64 b hb, IntKind.wrap_i64]
  omega
theorem i64_and_nat (a b : Nat) (ha : a < 9223372036854775808) (hb : b < 9223372036854775808) : bits .and .i64 (a : Int) (b : Int) = ((a &&& b : Nat) : Int) := by
  have hx : a &&& b < 2 ^ 63 := Nat.and_lt_two_pow _ (by omega)
  show IntKind.i64.wrap ((BitVec.ofInt 64 (a : Int) &&& BitVec.ofInt 64 (b : Int)).toNat : Int) = _
  rw [BitVec.toNat_and, ofInt_i64 a ha, ofInt_i64 b hb, IntKind.wrap_i64]
  omega
theorem and_63 (x : Int) (h0 : 0 ≤ x) (h1 : x ≤ 4611686018427387904) : bits .and .i64 x 63 = x % 64 := by
  obtain ⟨m, rfl⟩ := Int.eq_ofNat_of_zero_le h0
  have := i64_and_nat m 63 (by omega) (by omega)
  rw [show (63 : Nat) = 2 ^ 6 - 1 from rfl, Nat.and_two_pow_sub_one_eq_mod] at this
  rw [show ((63 : Int)) = ((2 ^ 6 - 1 : Nat) : Int) from rfl, this]
  omega
theorem and_1023 (x : Int) (h0 : 0 ≤ x) (h1 : x ≤ 4611686018427387904) : bits .and .i64 x 1023 = x % 1024 := by
  obtain ⟨m, rfl⟩ := Int.eq_ofNat_of_zero_le h0
  have := i64_and_nat m 1023 (by omega) (by omega)
  rw [show (1023 : Nat) = 2 ^ 10 - 1 from rfl, Nat.and_two_pow_sub_one_eq_mod] at this
  rw [show ((1023 : Int)) = ((2 ^ 10 - 1 : Nat) : Int) from rfl, this]
  omega
/-- Bits that lie apart. -/
theorem or_apart (i a : Nat) (x : Int) (h0 : 0 ≤ x) (h1 : x < 2 ^ i) (hb : 2 ^ i * a + 2 ^ i ≤ 9223372036854775807) : bits .or .i64 ((2 ^ i * a : Nat) : Int) x = ((2 ^ i * a : Nat) : Int) + x := by
  obtain ⟨b, rfl⟩ := Int.eq_ofNat_of_zero_le h0
  have hb2 : b < 2 ^ i := by exact_mod_cast h1
  rw [i64_or_nat _ _ (by omega) (by omega), ← Nat.two_pow_add_eq_or_of_lt hb2 a]
  simp
theorem or_64 (n x : Int) (hn : 0 ≤ n) (hn2 : n ≤ 33554431) (h0 : 0 ≤ x) (h1 : x < 64) : bits .or .i64 (n * 64) x = n * 64 + x := by
  obtain ⟨m, rfl⟩ := Int.eq_ofNat_of_zero_le hn
  have := or_apart 6 m x h0 (by simpa using h1) (by omega)
  rw [show (((2 ^ 6 * m : Nat)) : Int) = (m : Int) * 64 by omega] at this
  exact this
theorem or_128 (x : Int) (h0 : 0 ≤ x) (h1 : x < 64) : bits .or .i64 128 x = 128 + x := by
  have := or_apart 6 2 x h0 (by simpa using h1) (by omega)
  exact this
theorem or_192 (x : Int) (h0 : 0 ≤ x) (h1 : x < 64) : bits .or .i64 192 x = 192 + x := by
  have := or_apart 6 3 x h0 (by simpa using h1) (by omega)
  exact this
theorem or_224 (x : Int) (h0 : 0 ≤ x) (h1 : x < 32) : bits .or .i64 224 x = 224 + x := by
  have := or_apart 5 7 x h0 (by simpa using h1) (by omega)
  exact this
theorem or_240 (x : Int) (h0 : 0 ≤ x) (h1 : x < 16) : bits .or .i64 240 x = 240 + x := by
  have := or_apart 4 15 x h0 (by simpa using h1) (by omega)
  exact this
theorem or_256 (n x : Int) (hn : 0 ≤ n) (hn2 : n ≤ 33554431) (h0 : 0 ≤ x) (h1 : x < 256) : bits .or .i64 (n * 256) x = n * 256 + x := by
  obtain ⟨m, rfl⟩ := Int.eq_ofNat_of_zero_le hn
  have := or_apart 8 m x h0 (by simpa using h1) (by omega)
  rw [show (((2 ^ 8 * m : Nat)) : Int) = (m : Int) * 256 by omega] at this
  exact this
end Go.Proofs.YtcgdecpjlggekaaGreatDoor

/-
  Package utf8: what lead, first, Told, All, Decode compute.
-/
namespace Go.Proofs.YtcgdecpjlggekaaGreatDoor
open Go.RowKit
set_option maxRecDepth 100000

theorem results_tmp4 {fn : Func} {t u v x : Tmp} (h : fn.results = #[.tmp t, .tmp u, .tmp v, .tmp x]) (tmps : Array Value) (P : Program) (w : World) :
    (results fn tmps).run P w = .ok (.tuple #[tmps.getD t undef, tmps.getD u undef, tmps.getD v undef, tmps.getD x undef]) w := by simp [results, h]

theorem lead_any (c : Nat) (hc : c < 256) (w : World) : Calls Tryz.prog 136 #[.int .u8 (c : Int)] w fun e w' => e = .returned (.tuple #[.int .i64 (M.lead8 c).1, .int .i64 (M.lead8 c).2.1, .int .u8 (M.lead8 c).2.2.1, .int .u8 (M.lead8 c).2.2.2]) ∧ w = w' := by
  by_cases h0 : c < 128
  · have H := Lib.hid (show M.lead8 c = (0, (c : Int), 0, 0) by rw [M.lead8, if_pos h0])
    go_enter Tryz.func136, Tryz.ntmps136
    go_wp2
    refine bodyPost_ret (results_tmp4 rfl _ _ _) rfl ?_
    rw [H.out]
    exact ⟨rfl, rfl⟩
  · skip
    by_cases h1 : c < 194 ∨ 244 < c
    · have H := Lib.hid (show M.lead8 c = (-1, 0, 0, 0) by rw [M.lead8, if_neg h0, if_pos h1])
      rcases h1 with h1 | h1
      all_goals
        go_enter Tryz.func136, Tryz.ntmps136
        go_wp2
        refine bodyPost_ret (results_tmp4 rfl _ _ _) rfl ?_
        rw [H.out]
        exact ⟨rfl, rfl⟩
    · skip
      by_cases h2 : c < 224
      · have H := Lib.hid (show M.lead8 c = (1, (c : Int) % 32, 128, 191) by rw [M.lead8, if_neg h0, if_neg h1, if_pos h2])
        go_enter Tryz.func136, Tryz.ntmps136
        go_wp2
        refine bodyPost_ret (results_tmp4 rfl _ _ _) rfl ?_
        rw [H.out]
        exact ⟨rfl, rfl⟩
      · skip
        by_cases h3 : c = 224
        · have H := Lib.hid (show M.lead8 c = (2, 0, 160, 191) by rw [M.lead8, if_neg h0, if_neg h1, if_neg h2, if_pos h3])
          have e3 : ((c : Int) == 224) = true := by rw [beq_iff_eq]; omega
          clear h3
          go_enter Tryz.func136, Tryz.ntmps136
          go_wp2
          refine bodyPost_ret (results_tmp4 rfl _ _ _) rfl ?_
          rw [H.out]
          exact ⟨rfl, rfl⟩
        · skip
          have e3 : ((c : Int) == 224) = false := by rw [beq_eq_false_iff_ne]; omega
          by_cases h4 : c = 237
          · have H := Lib.hid (show M.lead8 c = (2, 13, 128, 159) by rw [M.lead8, if_neg h0, if_neg h1, if_neg h2, if_neg h3, if_pos h4])
            have e4 : ((c : Int) == 237) = true := by rw [beq_iff_eq]; omega
            clear h4
            go_enter Tryz.func136, Tryz.ntmps136
            go_wp2
            refine bodyPost_ret (results_tmp4 rfl _ _ _) rfl ?_
            rw [H.out]
            exact ⟨rfl, rfl⟩
          · skip
            have e4 : ((c : Int) == 237) = false := by rw [beq_eq_false_iff_ne]; omega
            by_cases h5 : c < 240
            · have H := Lib.hid (show M.lead8 c = (2, (c : Int) % 16, 128, 191) by rw [M.lead8, if_neg h0, if_neg h1, if_neg h2, if_neg h3, if_neg h4, if_pos h5])
              go_enter Tryz.func136, Tryz.ntmps136
              go_wp2
              refine bodyPost_ret (results_tmp4 rfl _ _ _) rfl ?_
              rw [H.out]
              exact ⟨rfl, rfl⟩
            · skip
              by_cases h6 : c = 240
              · have H := Lib.hid (show M.lead8 c = (3, 0, 144, 191) by rw [M.lead8, if_neg h0, if_neg h1, if_neg h2, if_neg h3, if_neg h4, if_neg h5, if_pos h6])
                have e6 : ((c : Int) == 240) = true := by rw [beq_iff_eq]; omega
                clear h6
                go_enter Tryz.func136, Tryz.ntmps136
                go_wp2
                refine bodyPost_ret (results_tmp4 rfl _ _ _) rfl ?_
                rw [H.out]
                exact ⟨rfl, rfl⟩
              · skip
                have e6 : ((c : Int) == 240) = false := by rw [beq_eq_false_iff_ne]; omega
                by_cases h7 : c = 244
                · have H := Lib.hid (show M.lead8 c = (3, 4, 128, 143) by rw [M.lead8, if_neg h0, if_neg h1, if_neg h2, if_neg h3, if_neg h4, if_neg h5, if_neg h6, if_pos h7])
                  have e7 : ((c : Int) == 244) = true := by rw [beq_iff_eq]; omega
                  clear h7
                  go_enter Tryz.func136, Tryz.ntmps136
                  go_wp2
                  refine bodyPost_ret (results_tmp4 rfl _ _ _) rfl ?_
                  rw [H.out]
                  exact ⟨rfl, rfl⟩
                · skip
                  have e7 : ((c : Int) == 244) = false := by rw [beq_eq_false_iff_ne]; omega
                  have H := Lib.hid (show M.lead8 c = (3, (c : Int) % 8, 128, 191) by rw [M.lead8, if_neg h0, if_neg h1, if_neg h2, if_neg h3, if_neg h4, if_neg h5, if_neg h6, if_neg h7])
                  go_enter Tryz.func136, Tryz.ntmps136
                  go_wp2
                  refine bodyPost_ret (results_tmp4 rfl _ _ _) rfl ?_
                  rw [H.out]
                  exact ⟨rfl, rfl⟩
theorem lead_to (c : Nat) (hc : c < 256) (m n lo hi : Int) (h : M.lead8 c = (m, n, lo, hi)) (w : World) : Calls Tryz.prog 136 #[.int .u8 (c : Int)] w fun e w' => e = .returned (.tuple #[.int .i64 m, .int .i64 n, .int .u8 lo, .int .u8 hi]) ∧ w = w' := by
  have := lead_any c hc w; rw [h] at this; exact this
theorem first_any (s : ByteArray) (hs : 0 < s.size) (hs2 : s.size ≤ 68719476735) (w : World) : Calls Tryz.prog 112 #[.string s] w fun e w' => e = .returned (.tuple #[.int .i64 (M.first8 s.data.toList).1, .int .i64 (M.first8 s.data.toList).2.1, .bool (M.first8 s.data.toList).2.2]) ∧ w = w' := by
  have hz := Lib.hid (Lib.size_eq s)
  obtain ⟨⟨m, n, lo, hi⟩, hl⟩ : ∃ r, M.lead8 s[0].toNat = r := ⟨_, rfl⟩
  have hcons : s.data.toList = s[0] :: s.data.toList.drop 1 := by
    have h0 : 0 < s.data.toList.length := by rw [← Lib.size_eq]; exact hs
    have := List.drop_eq_getElem_cons h0
    rw [List.drop_zero] at this
    exact this
  have hf : M.first8 s.data.toList = if m < 0 then (65533, 1, true) else M.go8 m.toNat (s.data.toList.drop 1) 1 n lo hi := by
    rw [hcons, M.first8, hl]; simp
  have hbd := M.lead8_bounds s[0].toNat
  rw [hl] at hbd
  have Hl := Lib.hid hl
  clear hl hcons
  have hcb : s[0].toNat < 256 := s[0].toNat_lt
  rcases hbd with hm | ⟨hm0, hm3, hn0, hn1, hlo0, hlo1, hhi0, hhi1⟩
  · have hm' : m = -1 := hm
    subst hm'
    have HF := Lib.hid (show M.first8 s.data.toList = (65533, 1, true) by rw [hf, if_pos (by decide)])
    clear hf
    go_enter Tryz.func112, Tryz.ntmps112
    go_wp2_with (go_at_call 136; refine (lead_to _ hcb _ _ _ _ Hl.out _).mono ?_; rintro e w' ⟨rfl, rfl⟩)
    go_ret3
    rw [HF.out]
    exact ⟨rfl, rfl⟩
  · obtain ⟨mm, rfl⟩ := Int.eq_ofNat_of_zero_le hm0
    rw [if_neg (by omega), Int.toNat_natCast] at hf
    have HF := Lib.hid hf
    clear hf
    go_enter Tryz.func112, Tryz.ntmps112
    go_wp2_with (go_at_call 136; refine (lead_to _ hcb _ _ _ _ Hl.out _).mono ?_; rintro e w' ⟨rfl, rfl⟩)
    go_loop [6, 7, 8, 9] (fun vn vlo vhi vi => ∃ (k d : Nat) (n lo hi : Int), 1 ≤ k ∧ k + d = mm + 1 ∧ k ≤ s.size ∧ vi = .int .i64 k ∧ vn = .int .i64 n ∧ vlo = .int .u8 lo ∧ vhi = .int .u8 hi ∧ 0 ≤ n ∧ (n + 1) * 64 ^ d ≤ 33554432 ∧ Hid (M.first8 s.data.toList = M.go8 d (s.data.toList.drop k) k n lo hi)) (fun _ _ _ i => 5 - (intOf i).toNat)
    case atStart =>
      refine ⟨1, mm, n, lo, hi, by omega, by omega, by omega, rfl, rfl, rfl, rfl, hn0, ?_, HF⟩
      have : mm = 0 ∨ mm = 1 ∨ mm = 2 ∨ mm = 3 := by omega
      rcases this with rfl | rfl | rfl | rfl <;> omega
    case round =>
      obtain ⟨k, d, n, lo, hi, hk1, hkd, hks, rfl, rfl, rfl, rfl, hn0, hnd, HG⟩ := hrel
      have hk5 : k ≤ 4 := by omega
      have HZ := hz
      cases d with
      | zero =>
        have hk : mm + 1 = k := by omega
        have g1 : (mm : Int) < (k : Int) := by omega
        have g2 : (mm : Int) + 1 = (k : Int) := by omega
        have G2 := Lib.hid g2
        clear hk g2 hkd
        go_wp2_with fail
        go_ret3
        rw [HG.out, M.go8]
        refine ⟨?_, rfl⟩
        rw [← G2.out]
        rfl
      | succ d =>
        have hkm : (k : Int) ≤ (mm : Int) := by omega
        have hn2 : n ≤ 33554431 := by
          have h1 : 1 ≤ 64 ^ (d + 1) := Nat.pow_pos (by decide)
          have h2 : (n + 1) * 1 ≤ (n + 1) * 64 ^ (d + 1) := Int.mul_le_mul_of_nonneg_left (by exact_mod_cast h1) (by omega)
          omega
        by_cases he : k = s.size
        · have HD := Lib.hid (show M.first8 s.data.toList = (65533, (k : Int), false) by
            rw [HG.out, List.drop_of_length_le (by rw [← Lib.size_eq]; omega), M.go8])
          have e1 : ((k : Int) == (s.size : Int)) = true := by rw [beq_iff_eq]; omega
          clear he hnd hkd
          go_wp2_with fail
          go_ret3
          rw [HD.out]
          exact ⟨rfl, rfl⟩
        · have hlt : k < s.size := by omega
          have e1 : ((k : Int) == (s.size : Int)) = false := by rw [beq_eq_false_iff_ne]; omega
          have hdrop : s.data.toList.drop k = s[k] :: s.data.toList.drop (k + 1) := by
            exact List.drop_eq_getElem_cons (by rw [← Lib.size_eq]; exact hlt)
          by_cases h1 : (s[k].toNat : Int) < lo
          · have HD := Lib.hid (show M.first8 s.data.toList = (65533, (k : Int), true) by
              rw [HG.out, hdrop, M.go8, if_pos (.inl h1)])
            clear he hnd hkd hdrop
            go_wp2_with fail
            go_ret3
            rw [HD.out]
            exact ⟨rfl, rfl⟩
          · by_cases h2 : hi < (s[k].toNat : Int)
            · have HD := Lib.hid (show M.first8 s.data.toList = (65533, (k : Int), true) by
                rw [HG.out, hdrop, M.go8, if_pos (.inr h2)])
              clear he hnd hkd hdrop
              go_wp2_with fail
              go_ret3
              rw [HD.out]
              exact ⟨rfl, rfl⟩
            · have HD := Lib.hid (show M.first8 s.data.toList = M.go8 d (s.data.toList.drop (k + 1)) ((k : Int) + 1) (n * 64 + (s[k].toNat : Int) % 64) 128 191 by
                rw [HG.out, hdrop, M.go8, if_neg (by omega)])
              have HK := Lib.hid (show (n * 64 + (s[k].toNat : Int) % 64 + 1) * 64 ^ d ≤ 33554432 by
                have h3 : (n * 64 + (s[k].toNat : Int) % 64 + 1) ≤ (n + 1) * 64 := by omega
                have h4 : (n * 64 + (s[k].toNat : Int) % 64 + 1) * 64 ^ d ≤ (n + 1) * 64 * 64 ^ d := Int.mul_le_mul_of_nonneg_right h3 (Int.pow_nonneg (by decide))
                have h5 : (n + 1) * 64 * 64 ^ d = (n + 1) * 64 ^ (d + 1) := by rw [Int.pow_succ, Int.mul_assoc, Int.mul_comm (64 : Int)]
                omega)
              have HKD := Lib.hid hkd
              have b0 : (0 : Int) ≤ (s[k].toNat : Int) := by omega
              have b1 : (s[k].toNat : Int) ≤ 255 := by have := s[k].toNat_lt; omega
              have hor := or_64 n ((s[k].toNat : Int) % 64) hn0 hn2 (by omega) (by omega)
              have HN : 0 ≤ n * 64 + (s[k].toNat : Int) % 64 := by omega
              clear he hnd hkd hdrop
              go_wp2_with fail
              go_round
              case rel => exact ⟨k + 1, d, _, _, _, by omega, by have := HKD.out; omega, by omega, by go_num, rfl, rfl, rfl, HN, HK.out, HD⟩
              case measure => simp [intOf]; omega
end Go.Proofs.YtcgdecpjlggekaaGreatDoor

/-
  Package utf8: what Told, All, Decode, Split compute.
-/
namespace Go.Proofs.YtcgdecpjlggekaaGreatDoor
open Go.RowKit
set_option maxRecDepth 100000

theorem first_to (s : ByteArray) (n k : Int) (b : Bool) (h : M.first8 s.data.toList = (n, k, b)) (hs : 0 < s.size) (hs2 : s.size ≤ 68719476735) (w : World) : Calls Tryz.prog 112 #[.string s] w fun e w' => e = .returned (.tuple #[.int .i64 n, .int .i64 k, .bool b]) ∧ w = w' := by
  have := first_any s hs hs2 w; rw [h] at this; exact this
theorem told8_any (s : ByteArray) (hs : s.size ≤ 68719476735) (w : World) : Calls Tryz.prog 93 #[.string s] w fun e w' => ∃ v, e = .returned (.tuple #[v, .string ⟨(M.told8 s.data.toList).2.toArray⟩]) ∧ Own w.heap.size 3 w' v ((M.told8 s.data.toList).1.map (Value.int .i64)) ∧ Bel w w' := by
  go_enter Tryz.func93, Tryz.ntmps93
  go_wp2_with fail
  go_loopw [0, 4] (fun vs v wr => ∃ (s' : ByteArray) (xs : List Int), vs = .string s' ∧ xs.length + s'.size ≤ s.size ∧ Hid (M.told8 s.data.toList = (xs ++ (M.told8 s'.data.toList).1, (M.told8 s'.data.toList).2)) ∧ Own w.heap.size 3 wr v (xs.map (Value.int .i64)) ∧ Bel w wr) (fun vs _ _ => strLen vs)
  case atStart => exact ⟨s, [], rfl, by simp, Lib.hid (by simp), Own.nil _ _ _, Bel.refl _⟩
  case round =>
    obtain ⟨s', xs, rfl, hle, HT, hown, hb⟩ := hrel
    by_cases he : s'.size = 0
    · have e0 : s'.toList = [] := by rw [Lib.toList_data]; exact List.eq_nil_of_length_eq_zero (by rw [← Lib.size_eq]; exact he)
      have HF := Lib.hid (show M.told8 s.data.toList = (xs, s'.data.toList) by
        rw [HT.out, ← Lib.toList_data, e0]; simp [M.told8_nil])
      have e1 : (!s'.toList.isEmpty) = false := by rw [e0]; rfl
      clear he e0
      go_wp2_with fail
      go_ret2
      rw [HF.out]
      exact ⟨_, by rw [str_eq]; rfl, hown, hb⟩
    · have hpos : 0 < s'.size := by omega
      have e1 : (!s'.toList.isEmpty) = true := by
        rw [Lib.toList_data]
        have : s'.data.toList ≠ [] := fun h => he (by rw [Lib.size_eq, h]; rfl)
        simpa using this
      obtain ⟨c, t, hct⟩ := cons_of_pos s' hpos
      obtain ⟨⟨n, k, b⟩, hf⟩ : ∃ r, M.first8 s'.data.toList = r := ⟨_, rfl⟩
      have hbd : 1 ≤ k ∧ k ≤ (s'.size : Int) := by
        have h2 := M.first8_bounds c t
        rw [← hct, hf, ← Lib.size_eq] at h2
        exact h2
      obtain ⟨kk, rfl⟩ := Int.eq_ofNat_of_zero_le (show 0 ≤ k by omega)
      have Hf := Lib.hid hf
      cases b with
      | false =>
        have HF := Lib.hid (show M.told8 s.data.toList = (xs, s'.data.toList) by
          rw [HT.out, hct, M.told8_no c t (by rw [← hct, hf])]; simp)
        clear he hf hct
        go_wp2_with (go_at_call 112; refine (first_to _ _ _ _ Hf.out hpos (by omega) _).mono ?_; rintro e w' ⟨rfl, rfl⟩)
        go_ret2
        rw [HF.out]
        exact ⟨_, by rw [str_eq]; rfl, hown, hb⟩
      | true =>
        have HF := Lib.hid (show M.told8 s.data.toList = ((xs ++ [n]) ++ (M.told8 (s'.extract kk s'.size).data.toList).1, (M.told8 (s'.extract kk s'.size).data.toList).2) by
          rw [HT.out, drop_str, hct, M.told8_ok c t (by rw [← hct, hf]), ← hct, hf]; simp)
        have HS := Lib.hid (drop_size s' kk)
        have hk1 : 1 ≤ kk := by omega
        have hk2 : kk ≤ s'.size := by omega
        clear he hf hct hbd
        go_wp2_with (first | (go_at_call 112; refine (first_to _ _ _ _ Hf.out hpos (by omega) _).mono ?_; rintro e w' ⟨rfl, rfl⟩) | (at_builtin; refine wpList_app rfl (.tmp 18) (.tmp 20) 31 rfl elemInt (by decide) w.heap.size _ _ _ rfl rfl hown rfl (by simp; omega) (by first | exact Nat.le_refl _ | assumption | (have := hb.size; omega)) ?_; intro v' w1 hown' hb1))
        go_roundw
        case rel => exact ⟨_, xs ++ [n], rfl, by rw [HS.out, List.length_append, List.length_singleton]; omega, HF, by rw [List.map_append]; exact hown', hb.upto hb1 (Nat.le_refl _)⟩
        case measure => simp only [strLen, HS.out]; omega
theorem told8_to (s : ByteArray) (xs : List Int) (l : List UInt8) (h : M.told8 s.data.toList = (xs, l)) (hs : s.size ≤ 68719476735) (w : World) : Calls Tryz.prog 93 #[.string s] w fun e w' => ∃ v, e = .returned (.tuple #[v, .string ⟨l.toArray⟩]) ∧ Own w.heap.size 3 w' v (xs.map (Value.int .i64)) ∧ Bel w w' := by
  have := told8_any s hs w; rw [h] at this; exact this
theorem all8_any (s : ByteArray) (hs : s.size ≤ 68719476734) (w : World) : Calls Tryz.prog 120 #[.string s] w fun e w' => ∃ v, e = .returned v ∧ Own w.heap.size 3 w' v ((M.all8 s.data.toList).map (Value.int .i64)) ∧ Bel w w' := by
  obtain ⟨⟨xs, l⟩, ht⟩ : ∃ r, M.told8 s.data.toList = r := ⟨_, rfl⟩
  have hlen := M.told8_len s.data.toList
  rw [ht, ← Lib.size_eq] at hlen
  have Ht := Lib.hid ht
  by_cases he : l = []
  · subst he
    have HA := Lib.hid (show M.all8 s.data.toList = xs by rw [M.all8, ht, if_pos rfl])
    clear ht hlen
    go_enter Tryz.func120, Tryz.ntmps120
    go_wp2_with (go_at_call 93; refine (told8_to _ _ _ Ht.out (by omega) _).mono ?_; rintro e w' ⟨v, rfl, ho, hb⟩)
    go_ret
    rw [HA.out]
    exact ⟨_, rfl, by assumption, by assumption⟩
  · have HA := Lib.hid (show M.all8 s.data.toList = xs ++ [65533] by rw [M.all8, ht, if_neg he])
    have e1 : (!l.isEmpty) = true := by simpa using he
    have hl2 : xs.length ≤ s.size := by simp only at hlen; omega
    clear ht hlen he
    go_enter Tryz.func120, Tryz.ntmps120
    go_wp2_with (first | (go_at_call 93; refine (told8_to _ _ _ Ht.out (by omega) _).mono ?_; rintro e w' ⟨v, rfl, ho, hb⟩; have hB := hb.size) | (at_builtin; refine wpList_app rfl (.tmp 12) (.tmp 13) 31 rfl elemInt (by decide) w.heap.size _ _ _ rfl rfl ho rfl (by simp; omega) (by first | exact Nat.le_refl _ | assumption | (have := hb.size; omega)) ?_; intro v' w1 hown' hb1))
    go_ret
    rw [HA.out]
    exact ⟨_, rfl, by rw [List.map_append]; exact hown', hb.upto hb1 (Nat.le_refl _)⟩
end Go.Proofs.YtcgdecpjlggekaaGreatDoor

/-
  Package utf16: what unit, high, low, Told compute.
-/
namespace Go.Proofs.YtcgdecpjlggekaaGreatDoor
open Go.RowKit
set_option maxRecDepth 1000000

theorem unit_any (big : Bool) (a b : UInt8) (w : World) : Calls Tryz.prog 137 #[.bool big, .int .u8 (a.toNat : Int), .int .u8 (b.toNat : Int)] w fun e w' => e = .returned (.int .i64 (M.unit16 big a b)) ∧ w = w' := by
  have ha := a.toNat_lt
  have hb := b.toNat_lt
  cases big
  · have H := Lib.hid (show M.unit16 false a b = (b.toNat : Int) * 256 + (a.toNat : Int) by simp only [M.unit16, Bool.false_eq_true, if_false]; omega)
    have o1 := or_256 (b.toNat : Int) (a.toNat : Int) (by omega) (by omega) (by omega) (by omega)
    generalize a.toNat = x at ha o1 H
    generalize b.toNat = y at hb o1 H
    go_enter Tryz.func137, Tryz.ntmps137
    go_wp2_with fail
    go_ret
    rw [H.out]
    exact ⟨rfl, rfl⟩
  · have H := Lib.hid (show M.unit16 true a b = (a.toNat : Int) * 256 + (b.toNat : Int) by simp only [M.unit16, if_true]; omega)
    have o1 := or_256 (a.toNat : Int) (b.toNat : Int) (by omega) (by omega) (by omega) (by omega)
    generalize a.toNat = x at ha o1 H
    generalize b.toNat = y at hb o1 H
    go_enter Tryz.func137, Tryz.ntmps137
    go_wp2_with fail
    go_ret
    rw [H.out]
    exact ⟨rfl, rfl⟩
theorem quietL {P : Program} {f : FuncId} {args : Array Value} {w : World} {n : Nat} {v : Value} (h : Calls P f args (w.drewN n) fun e w' => e = .returned v ∧ w.drewN n = w') : Calls P f args (w.drewN n) fun e w'' => e = .returned v ∧ ∃ m, w'' = w.drewN m :=
  h.mono fun _ _ ⟨he, hm⟩ => ⟨he, n, hm.symm⟩
theorem head_at (s : ByteArray) (k : Nat) (c : UInt8) (h : s.data.toList[k]? = some c) : ∃ hk : k < s.size, s[k] = c := by
  have hk : k < s.size := by rw [Lib.size_eq]; exact (List.getElem?_eq_some_iff.1 h).1
  refine ⟨hk, ?_⟩
  have := byte_at s k hk
  rw [h] at this
  injection this with this
  exact this.symm
theorem runit0_any (g : Nat) (big : Bool) (s : ByteArray) (a b : UInt8) (t : List UInt8) (w : World) (hB : Box w g 143 [.bool big, .string s]) (hs : s.data.toList = a :: b :: t) (hsz : s.size ≤ 68719476735) : Calls Tryz.prog 113 #[.pointer (some ⟨g, 0, none⟩), .int .i64 0] w fun e w' => e = .returned (.int .i64 (M.unit16 big a b)) ∧ ∃ q, w.drewN q = w' := by
  have c0 := hB.cell 0 _ rfl
  have c1 := hB.cell 1 _ rfl
  obtain ⟨k0, h0⟩ := head_at s 0 a (by rw [hs]; rfl)
  obtain ⟨k1, h1⟩ := head_at s 1 b (by rw [hs]; rfl)
  clear hs
  go_enter Tryz.func113, Tryz.ntmps113
  go_wp2_with fail
  go_quiet ((go_at_call 137; exact quietL (unit_any _ _ _ _)))
  go_wp2_with fail
  go_ret
  exact ⟨rfl, _, rfl⟩
theorem high_any16 (n : Int) (h0 : 0 ≤ n) (h1 : n ≤ 65535) (w : World) : Calls Tryz.prog 114 #[.int .i64 n] w fun e w' => e = .returned (.bool (M.isHi n)) ∧ w = w' := by
  have H := Lib.hid (show M.isHi n = (n / 1024 == 54) by rw [M.isHi, Bool.eq_iff_iff, decide_eq_true_eq, beq_iff_eq]; omega)
  go_enter Tryz.func114, Tryz.ntmps114
  go_wp2_with fail
  go_ret
  rw [H.out]
  exact ⟨rfl, rfl⟩
theorem low_any16 (n : Int) (h0 : 0 ≤ n) (h1 : n ≤ 65535) (w : World) : Calls Tryz.prog 115 #[.int .i64 n] w fun e w' => e = .returned (.bool (M.isLo n)) ∧ w = w' := by
  have H := Lib.hid (show M.isLo n = (n / 1024 == 55) by rw [M.isLo, Bool.eq_iff_iff, decide_eq_true_eq, beq_iff_eq]; omega)
  go_enter Tryz.func115, Tryz.ntmps115
  go_wp2_with fail
  go_ret
  rw [H.out]
  exact ⟨rfl, rfl⟩
theorem runit2_any (g : Nat) (big : Bool) (s : ByteArray) (x y a b : UInt8) (t : List UInt8) (w : World) (hB : Box w g 143 [.bool big, .string s]) (hs : s.data.toList = x :: y :: a :: b :: t) (hsz : s.size ≤ 68719476735) : Calls Tryz.prog 113 #[.pointer (some ⟨g, 0, none⟩), .int .i64 2] w fun e w' => e = .returned (.int .i64 (M.unit16 big a b)) ∧ ∃ q, w.drewN q = w' := by
  have c0 := hB.cell 0 _ rfl
  have c1 := hB.cell 1 _ rfl
  obtain ⟨k0, h0⟩ := head_at s 2 a (by rw [hs]; rfl)
  obtain ⟨k1, h1⟩ := head_at s 3 b (by rw [hs]; rfl)
  clear hs
  go_enter Tryz.func113, Tryz.ntmps113
  go_wp2_with fail
  go_quiet ((go_at_call 137; exact quietL (unit_any _ _ _ _)))
  go_wp2_with fail
  go_ret
  exact ⟨rfl, _, rfl⟩
theorem runit0_to (g : Nat) (big : Bool) (s : ByteArray) (a b : UInt8) (t : List UInt8) (n : Int) (w : World) (hB : Box w g 143 [.bool big, .string s]) (hs : s.data.toList = a :: b :: t) (hn : M.unit16 big a b = n) (hsz : s.size ≤ 68719476735) : Calls Tryz.prog 113 #[.pointer (some ⟨g, 0, none⟩), .int .i64 0] w fun e w' => e = .returned (.int .i64 n) ∧ ∃ q, w.drewN q = w' := by
  have := runit0_any g big s a b t w hB hs hsz; rw [hn] at this; exact this
theorem runit2_to (g : Nat) (big : Bool) (s : ByteArray) (x y a b : UInt8) (t : List UInt8) (n : Int) (w : World) (hB : Box w g 143 [.bool big, .string s]) (hs : s.data.toList = x :: y :: a :: b :: t) (hn : M.unit16 big a b = n) (hsz : s.size ≤ 68719476735) : Calls Tryz.prog 113 #[.pointer (some ⟨g, 0, none⟩), .int .i64 2] w fun e w' => e = .returned (.int .i64 n) ∧ ∃ q, w.drewN q = w' := by
  have := runit2_any g big s x y a b t w hB hs hsz; rw [hn] at this; exact this
theorem high_to (n : Int) (b : Bool) (h : M.isHi n = b) (h0 : 0 ≤ n) (h1 : n ≤ 65535) (w : World) : Calls Tryz.prog 114 #[.int .i64 n] w fun e w' => e = .returned (.bool b) ∧ w = w' := by
  have := high_any16 n h0 h1 w; rw [h] at this; exact this
theorem low_to (n : Int) (b : Bool) (h : M.isLo n = b) (h0 : 0 ≤ n) (h1 : n ≤ 65535) (w : World) : Calls Tryz.prog 115 #[.int .i64 n] w fun e w' => e = .returned (.bool b) ∧ w = w' := by
  have := low_any16 n h0 h1 w; rw [h] at this; exact this
def cellLen (w : World) (a : Addr) : Nat := match w.cell? a with | some (.string s) => s.size | _ => 0
theorem cellLen_of {w : World} {a : Addr} {s : ByteArray} (h : w.cell? a = some (.string s)) : cellLen w a = s.size := by unfold cellLen; rw [h]
theorem told16_any (big : Bool) (s : ByteArray) (hs : s.size ≤ 68719476735) (w : World) : Calls Tryz.prog 94 #[.bool big, .string s] w fun e w' => ∃ v, e = .returned (.tuple #[v, .string ⟨(M.told16 big s.data.toList).2.toArray⟩]) ∧ Own w.heap.size 3 w' v ((M.told16 big s.data.toList).1.map (Value.int .i64)) ∧ Bel w w' := by
  go_enter Tryz.func94, Tryz.ntmps94
  go_wp2_with fail
  go_loopw [7] (fun v wr => ∃ (s' : ByteArray) (xs : List Int), Box wr w.heap.size 143 [.bool big, .string s'] ∧ xs.length + s'.size ≤ s.size ∧ Hid (M.told16 big s.data.toList = (xs ++ (M.told16 big s'.data.toList).1, (M.told16 big s'.data.toList).2)) ∧ Own (w.heap.size + 1) 3 wr v (xs.map (Value.int .i64)) ∧ Below w.heap.size w wr) (fun _ wr => cellLen wr ⟨w.heap.size, 1, none⟩)
  case atStart => exact ⟨s, [], Box.new _ _ _, by simp, Lib.hid (by simp), Own.nil _ _ _, (Below.refl _ _).alloc (Nat.le_refl _) _⟩
  case round =>
    obtain ⟨s', xs, hB, hle, HT, hown, hb⟩ := hrel
    have c0 := hB.cell 0 _ rfl
    have c1 := hB.cell 1 _ rfl
    have f1 := hB.frozen 1
    by_cases h2 : 2 ≤ s'.size
    · have hz : s'.data.toList.length = s'.size := (Lib.size_eq s').symm
      obtain ⟨a, b, t, hab⟩ : ∃ a b t, s'.data.toList = a :: b :: t := by
        match hq : s'.data.toList with
        | [] => rw [hq] at hz; simp at hz; omega
        | [a] => rw [hq] at hz; simp at hz; omega
        | a :: b :: t => exact ⟨a, b, t, rfl⟩
      have htl : s'.size = t.length + 2 := by rw [← hz, hab]; rfl
      obtain ⟨u0, u1⟩ := M.unit16_le big a b
      have HAB := Lib.hid hab
      rcases M.say16 big a b t with ⟨g1, e1⟩ | ⟨g1, g2, e1⟩ | ⟨c, d, u, rfl, g1, g2, e1⟩ | ⟨c, d, u, rfl, g1, g2, e1⟩
      · -- a unit by itself
        have HF := Lib.hid (show M.told16 big s.data.toList = ((xs ++ [M.one16 (M.unit16 big a b)]) ++ (M.told16 big (s'.extract 2 s'.size).data.toList).1, (M.told16 big (s'.extract 2 s'.size).data.toList).2) by
          rw [HT.out, drop_str, hab, e1]; simp)
        have HS := Lib.hid (drop_size s' 2)
        obtain ⟨n, hn⟩ : ∃ n, M.unit16 big a b = n := ⟨_, rfl⟩
        rw [hn] at g1 u0 u1 HF
        have HN := Lib.hid hn
        have HG := Lib.hid g1
        clear hz hab e1 g1 htl hn
        cases hlo : M.isLo n with
        | true =>
          have HL := Lib.hid hlo
          have HO := Lib.hid (show M.one16 n = 65533 by rw [M.one16, if_pos hlo])
          clear hlo
          rw [HO.out] at HF
          go_wp2_with fail
          refine (runit0_to _ big s' a b t n _ hB HAB.out HN.out (by omega)).mono ?_
          rintro e w1 ⟨rfl, q, rfl⟩
          have hsz : w.heap.size + 1 ≤ (wr.drewN q).heap.size := hB.lt
          go_wp2_with (first | (go_at_call 114; refine (high_to n false HG.out u0 u1 _).mono ?_; rintro e w' ⟨rfl, rfl⟩) | (go_at_call 115; refine (low_to n true HL.out u0 u1 _).mono ?_; rintro e w' ⟨rfl, rfl⟩) | ((at_builtin; refine wpList_app rfl (.tmp 61) (.tmp 63) 31 rfl elemInt (by decide) (w.heap.size + 1) _ _ _ rfl rfl (hown.drewN q) rfl (by simp; omega) (by first | exact Nat.le_refl _ | assumption | (have := hb.size; omega)) ?_; intro v' w1 hown' hb1); have hB1 := (hB.drewN q).upto hb1 (Nat.lt_succ_self _); have d1 := hB1.cell 1 _ rfl; have d2 := hB1.frozen 1))
          go_roundw
          case rel => exact ⟨_, xs ++ [65533], hB1.set 1 _, by rw [HS.out, List.length_append, List.length_singleton]; omega, HF, by rw [List.map_append]; exact hown'.setCell (by simp) _, bel_store (Bel.drewN hb q) hb1 (Nat.le_succ _) (Nat.le_refl _) _⟩
          case measure => rw [cellLen_of c1, cellLen_of ((hB1.set 1 _).cell 1 _ rfl), HS.out]; omega
        | false =>
          have HL := Lib.hid hlo
          have HO := Lib.hid (show M.one16 n = n by rw [M.one16, if_neg (by rw [hlo]; decide)])
          clear hlo
          rw [HO.out] at HF
          go_wp2_with fail
          refine (runit0_to _ big s' a b t n _ hB HAB.out HN.out (by omega)).mono ?_
          rintro e w1 ⟨rfl, q, rfl⟩
          have hsz : w.heap.size + 1 ≤ (wr.drewN q).heap.size := hB.lt
          go_wp2_with (first | (go_at_call 114; refine (high_to n false HG.out u0 u1 _).mono ?_; rintro e w' ⟨rfl, rfl⟩) | (go_at_call 115; refine (low_to n false HL.out u0 u1 _).mono ?_; rintro e w' ⟨rfl, rfl⟩) | ((at_builtin; refine wpList_app rfl (.tmp 61) (.tmp 63) 31 rfl elemInt (by decide) (w.heap.size + 1) _ _ _ rfl rfl (hown.drewN q) rfl (by simp; omega) (by first | exact Nat.le_refl _ | assumption | (have := hb.size; omega)) ?_; intro v' w1 hown' hb1); have hB1 := (hB.drewN q).upto hb1 (Nat.lt_succ_self _); have d1 := hB1.cell 1 _ rfl; have d2 := hB1.frozen 1))
          go_roundw
          case rel => exact ⟨_, xs ++ [n], hB1.set 1 _, by rw [HS.out, List.length_append, List.length_singleton]; omega, HF, by rw [List.map_append]; exact hown'.setCell (by simp) _, bel_store (Bel.drewN hb q) hb1 (Nat.le_succ _) (Nat.le_refl _) _⟩
          case measure => rw [cellLen_of c1, cellLen_of ((hB1.set 1 _).cell 1 _ rfl), HS.out]; omega
      · -- more must come
        have HF := Lib.hid (show M.told16 big s.data.toList = (xs, s'.data.toList) by
          rw [HT.out, hab, e1]; simp)
        obtain ⟨n, hn⟩ : ∃ n, M.unit16 big a b = n := ⟨_, rfl⟩
        rw [hn] at g1 u0 u1
        have HN := Lib.hid hn
        have HG := Lib.hid g1
        have h4 : s'.size < 4 := by omega
        clear hz hab e1 g1 htl hn
        go_wp2_with fail
        refine (runit0_to _ big s' a b t n _ hB HAB.out HN.out (by omega)).mono ?_
        rintro e w1 ⟨rfl, q, rfl⟩
        go_wp2_with (first | (go_at_call 114; refine (high_to n true HG.out u0 u1 _).mono ?_; rintro e w' ⟨rfl, rfl⟩))
        go_quiet (fail)
        go_wp2_with fail
        go_ret2
        rw [HF.out]
        exact ⟨_, by rw [str_eq]; rfl, ((hown.mono (by omega)).drewN _).drewN _, Bel.drewN (Bel.drewN hb _) _⟩
      · -- two units
        have HF := Lib.hid (show M.told16 big s.data.toList = ((xs ++ [M.pair16 (M.unit16 big a b) (M.unit16 big c d)]) ++ (M.told16 big (s'.extract 4 s'.size).data.toList).1, (M.told16 big (s'.extract 4 s'.size).data.toList).2) by
          rw [HT.out, drop_str, hab, e1]; simp)
        have HS := Lib.hid (drop_size s' 4)
        obtain ⟨v0, v1⟩ := M.unit16_le big c d
        obtain ⟨n, hn⟩ : ∃ n, M.unit16 big a b = n := ⟨_, rfl⟩
        obtain ⟨m, hm⟩ : ∃ m, M.unit16 big c d = m := ⟨_, rfl⟩
        rw [hn] at g1 u0 u1 HF
        rw [hm] at g2 v0 v1 HF
        have g1' := g1
        have g2' := g2
        simp only [M.isHi, decide_eq_true_eq] at g1'
        simp only [M.isLo, decide_eq_true_eq] at g2'
        have HN := Lib.hid hn
        have HM := Lib.hid hm
        have HG := Lib.hid g1
        have HL := Lib.hid g2
        have HP := Lib.hid (show M.pair16 n m = 65536 + (n - 55296) * 1024 + m - 56320 by rw [M.pair16]; omega)
        have h4 : 4 ≤ s'.size := by simp only [List.length_cons] at htl; omega
        clear hz hab e1 g1 g2 htl hn hm
        rw [HP.out] at HF
        go_wp2_with fail
        refine (runit0_to _ big s' a b (c :: d :: u) n _ hB HAB.out HN.out (by omega)).mono ?_
        rintro e w1 ⟨rfl, q, rfl⟩
        go_wp2_with (first | (go_at_call 114; refine (high_to n true HG.out u0 u1 _).mono ?_; rintro e w' ⟨rfl, rfl⟩))
        refine (runit2_to _ big s' a b c d u m _ (hB.drewN q) HAB.out HM.out (by omega)).mono ?_
        rintro e w1 ⟨rfl, q2, rfl⟩
        go_wp2_with (first | (go_at_call 115; refine (low_to m true HL.out v0 v1 _).mono ?_; rintro e w' ⟨rfl, rfl⟩))
        refine (runit2_to _ big s' a b c d u m _ (hB.drewN _) HAB.out HM.out (by omega)).mono ?_
        rintro e w1 ⟨rfl, q3, rfl⟩
        have hsz : ∀ k, w.heap.size + 1 ≤ (wr.drewN k).heap.size := fun _ => hB.lt
        go_wp2_with (first | fail | (at_builtin; refine wpList_app rfl (.tmp 61) (.tmp 63) 31 rfl elemInt (by decide) (w.heap.size + 1) _ _ _ rfl rfl (hown.drewN _) rfl (by simp; omega) (hsz _) ?_; intro v' w1 hown' hb1; have hB1 := (hB.drewN _).upto hb1 (Nat.lt_succ_self _); have d1 := hB1.cell 1 _ rfl; have d2 := hB1.frozen 1))
        go_roundw
        case rel => exact ⟨_, xs ++ [65536 + (n - 55296) * 1024 + m - 56320], hB1.set 1 _, by rw [HS.out, List.length_append, List.length_singleton]; omega, HF, by rw [List.map_append]; exact hown'.setCell (by simp) _, bel_store (Bel.drewN hb _) hb1 (Nat.le_succ _) (Nat.le_refl _) _⟩
        case measure => rw [cellLen_of c1, cellLen_of ((hB1.set 1 _).cell 1 _ rfl), HS.out]; omega
      · -- the first one alone
        have HF := Lib.hid (show M.told16 big s.data.toList = ((xs ++ [65533]) ++ (M.told16 big (s'.extract 2 s'.size).data.toList).1, (M.told16 big (s'.extract 2 s'.size).data.toList).2) by
          rw [HT.out, drop_str, hab, e1]; simp)
        have HS := Lib.hid (drop_size s' 2)
        obtain ⟨v0, v1⟩ := M.unit16_le big c d
        obtain ⟨n, hn⟩ : ∃ n, M.unit16 big a b = n := ⟨_, rfl⟩
        obtain ⟨m, hm⟩ : ∃ m, M.unit16 big c d = m := ⟨_, rfl⟩
        rw [hn] at g1 u0 u1
        rw [hm] at g2 v0 v1
        have HN := Lib.hid hn
        have HM := Lib.hid hm
        have HG := Lib.hid g1
        have HL := Lib.hid g2
        have h4 : 4 ≤ s'.size := by simp only [List.length_cons] at htl; omega
        clear hz hab e1 g1 g2 htl hn hm
        go_wp2_with fail
        refine (runit0_to _ big s' a b (c :: d :: u) n _ hB HAB.out HN.out (by omega)).mono ?_
        rintro e w1 ⟨rfl, q, rfl⟩
        go_wp2_with (first | (go_at_call 114; refine (high_to n true HG.out u0 u1 _).mono ?_; rintro e w' ⟨rfl, rfl⟩))
        refine (runit2_to _ big s' a b c d u m _ (hB.drewN q) HAB.out HM.out (by omega)).mono ?_
        rintro e w1 ⟨rfl, q2, rfl⟩
        have hsz : ∀ k, w.heap.size + 1 ≤ (wr.drewN k).heap.size := fun _ => hB.lt
        go_wp2_with (first | (go_at_call_of 115 (Value.int .i64 m); refine (low_to m false HL.out v0 v1 _).mono ?_; rintro e w' ⟨rfl, rfl⟩) | (go_at_call 114; refine (high_to n true HG.out u0 u1 _).mono ?_; rintro e w' ⟨rfl, rfl⟩) | (at_builtin; refine wpList_app rfl (.tmp 61) (.tmp 63) 31 rfl elemInt (by decide) (w.heap.size + 1) _ _ _ rfl rfl (hown.drewN _) rfl (by simp; omega) (hsz _) ?_; intro v' w1 hown' hb1; have hB1 := (hB.drewN _).upto hb1 (Nat.lt_succ_self _); have d1 := hB1.cell 1 _ rfl; have d2 := hB1.frozen 1))
        go_roundw
        case rel => exact ⟨_, xs ++ [65533], hB1.set 1 _, by rw [HS.out, List.length_append, List.length_singleton]; omega, HF, by rw [List.map_append]; exact hown'.setCell (by simp) _, bel_store (Bel.drewN hb _) hb1 (Nat.le_succ _) (Nat.le_refl _) _⟩
        case measure => rw [cellLen_of c1, cellLen_of ((hB1.set 1 _).cell 1 _ rfl), HS.out]; omega
    · have HF := Lib.hid (show M.told16 big s.data.toList = (xs, s'.data.toList) by
        have hl : s'.data.toList.length ≤ 1 := by rw [← Lib.size_eq]; omega
        rw [HT.out]
        match hq : s'.data.toList, hl with
        | [], _ => rw [M.told16_nil]; simp
        | [a], _ => rw [M.told16_one]; simp
        | _ :: _ :: _, hl => simp at hl)
      go_wp2_with fail
      go_quiet (fail)
      go_wp2_with fail
      go_ret2
      rw [HF.out]
      exact ⟨_, by rw [str_eq]; rfl, (hown.mono (by omega)).drewN _, Bel.drewN hb _⟩
end Go.Proofs.YtcgdecpjlggekaaGreatDoor

/-
  Package utf8: what Scalar, Points, Bytes, Encode compute.
-/
namespace Go.Proofs.YtcgdecpjlggekaaGreatDoor
open Go.RowKit
set_option maxRecDepth 1000000

def IdxSays (xs : List Int) (n : Int) : Prop := 0 ≤ n ↔ xs.all M.scalar = false
theorem points_scalars (xs : List Int) (h : M.points xs = 0) : xs.length ≤ 3000 ∧ ∀ n ∈ xs, M.scalar n = true := by
  unfold M.points at h
  split at h
  · cases h
  · split at h
    · rename_i hs
      exact ⟨by omega, List.all_eq_true.1 hs⟩
    · cases h
theorem scalar_bounds (n : Int) (h : M.scalar n = true) : 0 ≤ n ∧ n ≤ 1114111 ∧ (n < 55296 ∨ 57343 < n) := by simpa [M.scalar] using h
end Go.Proofs.YtcgdecpjlggekaaGreatDoor

/-
  Package utf16: what All, Decode, Encode compute.
-/
namespace Go.Proofs.YtcgdecpjlggekaaGreatDoor
open Go.RowKit
set_option maxRecDepth 1000000

theorem told16_to (big : Bool) (s : ByteArray) (xs : List Int) (l : List UInt8) (h : M.told16 big s.data.toList = (xs, l)) (hs : s.size ≤ 68719476735) (w : World) : Calls Tryz.prog 94 #[.bool big, .string s] w fun e w' => ∃ v, e = .returned (.tuple #[v, .string ⟨l.toArray⟩]) ∧ Own w.heap.size 3 w' v (xs.map (Value.int .i64)) ∧ Bel w w' := by
  have := told16_any big s hs w; rw [h] at this; exact this
theorem all16_any (big : Bool) (s : ByteArray) (hs : s.size ≤ 68719476734) (w : World) : Calls Tryz.prog 121 #[.bool big, .string s] w fun e w' => ∃ v, e = .returned v ∧ Own w.heap.size 3 w' v ((M.all16 big s.data.toList).map (Value.int .i64)) ∧ Bel w w' := by
  obtain ⟨⟨xs, l⟩, ht⟩ : ∃ r, M.told16 big s.data.toList = r := ⟨_, rfl⟩
  have hlen := (M.told16_len big _ s.data.toList (Nat.le_refl _)).1
  rw [ht, ← Lib.size_eq] at hlen
  have Ht := Lib.hid ht
  by_cases he : l = []
  · subst he
    have HA := Lib.hid (show M.all16 big s.data.toList = xs by rw [M.all16, ht, if_pos rfl])
    clear ht hlen
    go_enter Tryz.func121, Tryz.ntmps121
    go_wp2_with (go_at_call 94; refine (told16_to _ _ _ _ Ht.out (by omega) _).mono ?_; rintro e w' ⟨v, rfl, ho, hb⟩)
    go_ret
    rw [HA.out]
    exact ⟨_, rfl, by assumption, by assumption⟩
  · have HA := Lib.hid (show M.all16 big s.data.toList = xs ++ [65533] by rw [M.all16, ht, if_neg he])
    have e1 : (!l.isEmpty) = true := by simpa using he
    have hl2 : xs.length ≤ s.size := by simp only at hlen; omega
    clear ht hlen he
    go_enter Tryz.func121, Tryz.ntmps121
    go_wp2_with (first | (go_at_call 94; refine (told16_to _ _ _ _ Ht.out (by omega) _).mono ?_; rintro e w' ⟨v, rfl, ho, hb⟩; have hB := hb.size) | (at_builtin; refine wpList_app rfl (.tmp 15) (.tmp 16) 31 rfl elemInt (by decide) w.heap.size _ _ _ rfl rfl ho rfl (by simp; omega) (by first | exact Nat.le_refl _ | assumption | (have := hb.size; omega)) ?_; intro v' w1 hown' hb1))
    go_ret
    rw [HA.out]
    exact ⟨_, rfl, by rw [List.map_append]; exact hown', hb.upto hb1 (Nat.le_refl _)⟩
end Go.Proofs.YtcgdecpjlggekaaGreatDoor

/-
  Package single: what table, All, Decode, Tells, Raw, Encode compute.
-/
namespace Go.Proofs.YtcgdecpjlggekaaGreatDoor
open Go.RowKit

theorem high_any (w : World) : Calls Tryz.prog 97 #[] w fun e w' => e = .returned (.slice (some ⟨w.heap.size, 0, none⟩) 32 32) ∧ (∀ j, j < 32 → w'.cell? ⟨w.heap.size, j, none⟩ = some (.int .i64 (M.high[j]?.getD 0))) ∧ Bel w w' := by
  go_enter Tryz.func97, Tryz.ntmps97
  go_wp2
  go_ret
  refine ⟨rfl, fun j hj => ?_, (by repeat (first | exact Bel.refl _ | refine Bel.drewN ?_ _ | refine Bel.drew ?_ | refine Bel.alloc ?_ _ | refine Bel.trans ?_ (by assumption) | refine Bel.setCell ?_ (by simp; omega) _))⟩
  rw [World.cell?_alloc_new]
  have h2 : j < M.high.length := hj
  show (M.high.map (Value.int .i64)).toArray[j]? = _
  rw [List.getElem?_toArray, List.getElem?_map, List.getElem?_eq_getElem h2]
  rfl
theorem table_len (user : Bool) : (M.tableOf user).length = 256 := by simp [M.tableOf]
theorem table_at (user : Bool) (k : Nat) (hk : k < 256) : (M.tableOf user)[k]? = some (M.pointOf user k) := by simp [M.tableOf, hk]
set_option maxRecDepth 100000 in
theorem table_any (user : Bool) (w : World) : Calls Tryz.prog 139 #[.bool user] w fun e w' => ∃ v, e = .returned v ∧ Own w.heap.size 3 w' v ((M.tableOf user).map (Value.int .i64)) ∧ Bel w w' := by
  go_enter Tryz.func139, Tryz.ntmps139
  go_wp2_with fail
  go_loopw [3, 5] (fun v i wr => ∃ k : Nat, k ≤ 256 ∧ i = .int .i64 k ∧ Own w.heap.size 3 wr v (((M.tableOf user).take k).map (Value.int .i64)) ∧ Bel w wr) (fun _ i _ => 256 - (intOf i).toNat)
  case atStart => exact ⟨0, by omega, rfl, Own.nil _ _ _, Bel.refl _⟩
  case round =>
    obtain ⟨k, hk, rfl, hown, hb⟩ := hrel
    by_cases hlt : k < 256
    · have HT := Lib.hid (take_snoc (Value.int .i64) _ _ _ (table_at user k hlt))
      by_cases h1 : k < 128
      · have HP := Lib.hid (show M.pointOf user k = (k : Int) by rw [M.pointOf, if_pos h1])
        go_wp2_with (first | (at_builtin; refine wpList_app rfl (.tmp 8) (.tmp 10) 31 rfl elemInt (by decide) w.heap.size _ _ _ rfl rfl hown rfl (by simp; omega) (by first | exact Nat.le_refl _ | assumption | (have := hb.size; omega)) ?_; intro v' w1 hown' hb1))
        go_roundw
        case rel => exact ⟨k + 1, by omega, by go_num, by rw [HT.out, HP.out]; exact hown', hb.upto hb1 (Nat.le_refl _)⟩
        case measure => simp [intOf]; omega
      · cases user
        · by_cases h2 : k < 160
          · have HP := Lib.hid (show M.pointOf false k = M.high[k - 128]?.getD 0 by rw [M.pointOf, if_neg h1, if_neg (by simp), if_pos h2])
            go_wp2_with (first | (go_at_call 97; refine (high_any _).mono ?_; rintro e w' ⟨rfl, hc, hb2⟩; have hc' := hc (k - 128) (by omega); have hown2 := hown.bel hb2; have hb3 := hb.trans hb2) | (at_builtin; refine wpList_app rfl (.tmp 31) (.tmp 37) 31 rfl elemInt (by decide) w.heap.size _ _ _ rfl rfl hown2 rfl (by simp; omega) (by have := hb3.size; omega) ?_; intro v' w1 hown' hb1))
            go_roundw
            case rel => exact ⟨k + 1, by omega, by go_num, by rw [HT.out, HP.out]; exact hown', hb3.upto hb1 (Nat.le_refl _)⟩
            case measure => simp [intOf]; omega
          · have HP := Lib.hid (show M.pointOf false k = (k : Int) by rw [M.pointOf, if_neg h1, if_neg (by simp), if_neg h2])
            go_wp2_with (first | (at_builtin; refine wpList_app rfl (.tmp 8) (.tmp 10) 31 rfl elemInt (by decide) w.heap.size _ _ _ rfl rfl hown rfl (by simp; omega) (by first | exact Nat.le_refl _ | assumption | (have := hb.size; omega)) ?_; intro v' w1 hown' hb1))
            go_roundw
            case rel => exact ⟨k + 1, by omega, by go_num, by rw [HT.out, HP.out]; exact hown', hb.upto hb1 (Nat.le_refl _)⟩
            case measure => simp [intOf]; omega
        · have HP := Lib.hid (show M.pointOf true k = 63232 + (k : Int) by rw [M.pointOf, if_neg h1, if_pos rfl])
          have e1 : (63360 : Int) + (k : Int) - 128 = 63232 + (k : Int) := by omega
          have E1 := Lib.hid e1
          clear e1
          go_wp2_with (first | (at_builtin; refine wpList_app rfl (.tmp 18) (.tmp 22) 31 rfl elemInt (by decide) w.heap.size _ _ _ rfl rfl hown rfl (by simp; omega) (by first | exact Nat.le_refl _ | assumption | (have := hb.size; omega)) ?_; intro v' w1 hown' hb1))
          go_roundw
          case rel => exact ⟨k + 1, by omega, by go_num, by rw [HT.out, HP.out, ← E1.out]; exact hown', hb.upto hb1 (Nat.le_refl _)⟩
          case measure => simp [intOf]; omega
    · obtain rfl : k = 256 := by omega
      have HT := Lib.hid (show (M.tableOf user).take 256 = M.tableOf user by rw [List.take_of_length_le (by rw [table_len]; exact Nat.le_refl _)])
      go_wp2_with fail
      go_ret
      exact ⟨_, rfl, by rw [← HT.out]; exact hown, hb⟩
theorem table_row (user : Bool) (w : World) : Calls Tryz.prog 139 #[.bool user] w fun e w' => ∃ g c, e = .returned (.slice (some ⟨g, 0, none⟩) 256 c) ∧ 256 ≤ c ∧ c ≤ 9223372036854775807 ∧ w.heap.size ≤ g ∧ g < w'.heap.size ∧ (∀ k, k < 256 → w'.cell? ⟨g, k, none⟩ = some (.int .i64 (M.pointOf user k))) ∧ IntSl w' (.slice (some ⟨g, 0, none⟩) 256 c) (M.tableOf user) ∧ Bel w w' := by
  refine (table_any user w).mono ?_
  rintro e w' ⟨v, rfl, hown, hb⟩
  have hi := hown.ints
  obtain ⟨A, c, hv, h1, h2, h3, h4⟩ := hown.form
  rw [List.length_map, table_len] at hv h1
  cases A with
  | none =>
    have h5 := congrArg List.length (h3 rfl)
    rw [List.length_map, table_len] at h5
    cases h5
  | some x =>
    obtain ⟨g, o, p⟩ := x
    obtain ⟨rfl, rfl, h5, h6, _, h7⟩ := h4 g o p rfl
    subst hv
    refine ⟨g, c, rfl, h1, h2, h5, h6, fun k hk => h7 k _ (by rw [List.getElem?_map, table_at user k hk]; rfl), hi, hb⟩
set_option maxRecDepth 100000 in
theorem all_any (user : Bool) (s : ByteArray) (w : World) (hs : s.size ≤ 68719476735) : Calls Tryz.prog 122 #[.bool user, .string s] w fun e w' => ∃ v, e = .returned v ∧ Own w.heap.size 3 w' v ((M.decodeS user s.data.toList).map (Value.int .i64)) ∧ Bel w w' := by
  have HS := Lib.hid (Lib.size_eq s)
  go_enter Tryz.func122, Tryz.ntmps122
  go_wp2_with (first | (go_at_call 139; refine (table_row _ _).mono ?_; rintro e w' ⟨g, c, rfl, hc1, hc2, hg0, hg, hcell, _, hb⟩) | ((with_reducible show wpList _ _ _ _ _ _); refine wpList_toBytes rfl (.tmp 11) _ _ 5 rfl Tryz.underlying9 Tryz.underlying111 Tryz.underlying5 s rfl (by omega) ?_; intro cb w2 hb2 hg2 hcb1 hcb2 hcellb _))
  have hgl : g < w2.heap.size := hb2.lt hg
  go_loopw [6, 14] (fun v i wr => ∃ k : Nat, k ≤ s.size ∧ i = .int .i64 k ∧ Own w2.heap.size 3 wr v (((M.decodeS user s.data.toList).take k).map (Value.int .i64)) ∧ Below w2.heap.size w2 wr) (fun _ i _ => s.size - (intOf i).toNat)
  case atStart => exact ⟨0, by omega, rfl, Own.nil _ _ _, Below.refl _ _⟩
  case round =>
    obtain ⟨k, hk, rfl, hown, hb⟩ := hrel
    by_cases hlt : k < s.size
    · obtain ⟨c, hc⟩ : ∃ c, s.data.toList[k]? = some c := ⟨_, List.getElem?_eq_getElem (by rw [← Lib.size_eq]; exact hlt)⟩
      have hcl : c.toNat < 256 := c.toNat_lt
      have h1 : wr.cell? ⟨w'.heap.size, k, none⟩ = some (.int .u8 (c.toNat : Int)) := (hb.cell (p := ⟨_, k, none⟩) hg2).trans (hcellb k c hc)
      have h2 : wr.cell? ⟨g, c.toNat, none⟩ = some (.int .i64 (M.pointOf user c.toNat)) := (hb.cell (p := ⟨g, _, none⟩) hgl).trans ((hb2.cell (p := ⟨g, _, none⟩) hg).trans (hcell _ hcl))
      have HT := Lib.hid (take_snoc (Value.int .i64) (M.decodeS user s.data.toList) k (M.pointOf user c.toNat) (by rw [M.decodeS, List.getElem?_map, hc]; rfl))
      have hlen : ((M.decodeS user s.data.toList).take k).length ≤ k := List.length_take_le _ _
      clear hcellb hcell hc
      go_wp2_with (first | (at_builtin; refine wpList_app rfl (.tmp 18) (.tmp 23) 31 rfl elemInt (by decide) w2.heap.size _ _ _ rfl rfl hown rfl (by simp; omega) (by first | exact Nat.le_refl _ | assumption | (have := hb.size; omega)) ?_; intro v' w1 hown' hb1))
      go_roundw
      case rel => exact ⟨k + 1, by omega, by go_num, by rw [HT.out]; exact hown', hb.trans hb1⟩
      case measure => simp [intOf]; omega
    · obtain rfl : k = s.size := by omega
      have HT := Lib.hid (show (M.decodeS user s.data.toList).take s.size = M.decodeS user s.data.toList by rw [List.take_of_length_le (by rw [M.decodeS, List.length_map, ← Lib.size_eq]; exact Nat.le_refl _)])
      go_wp2_with fail
      go_ret
      exact ⟨_, rfl, by rw [← HT.out]; exact hown.mono (Nat.le_trans (by assumption : Bel w w').size hb2.size), Bel.upto (Bel.trans (by assumption : Bel w w') hb2) hb (Nat.le_trans (by assumption : Bel w w').size hb2.size)⟩
end Go.Proofs.YtcgdecpjlggekaaGreatDoor

/-
  Package kana: plain, sign, shifts, the teller's two methods.
-/
namespace Go.Proofs.YtcgdecpjlggekaaGreatDoor
open Go.RowKit
set_option maxRecDepth 1000000

def plainN (c : Nat) : Bool := decide (c < 128 ∧ c ≠ 14 ∧ c ≠ 15 ∧ c ≠ 27)
theorem plainK_any (c : Nat) (hc : c < 256) (w : World) : Calls Tryz.prog 138 #[.int .u8 (c : Int)] w fun e w' => e = .returned (.bool (plainN c)) ∧ w = w' := by
  by_cases h0 : c < 128
  · by_cases h1 : c = 14
    · subst h1
      go_enter Tryz.func138, Tryz.ntmps138
      go_wp2
      go_ret
      exact ⟨rfl, rfl⟩
    · by_cases h2 : c = 15
      · subst h2
        go_enter Tryz.func138, Tryz.ntmps138
        go_wp2
        go_ret
        exact ⟨rfl, rfl⟩
      · by_cases h3 : c = 27
        · subst h3
          go_enter Tryz.func138, Tryz.ntmps138
          go_wp2
          go_ret
          exact ⟨rfl, rfl⟩
        · have e1 : ((c : Int) != 14) = true := by rw [bne_iff_ne]; omega
          have e2 : ((c : Int) != 15) = true := by rw [bne_iff_ne]; omega
          have e3 : ((c : Int) != 27) = true := by rw [bne_iff_ne]; omega
          have H := Lib.hid (show plainN c = true by rw [plainN, decide_eq_true_eq]; omega)
          clear h1 h2 h3
          go_enter Tryz.func138, Tryz.ntmps138
          go_wp2
          go_ret
          rw [H.out]
          exact ⟨rfl, rfl⟩
  · have H := Lib.hid (show plainN c = false by rw [plainN, decide_eq_false_iff_not]; omega)
    have h1 : (128 : Int) ≤ (c : Int) := by omega
    go_enter Tryz.func138, Tryz.ntmps138
    go_wp2
    go_ret
    rw [H.out]
    exact ⟨rfl, rfl⟩
theorem plainK_to (c : Nat) (hc : c < 256) (b : Bool) (h : plainN c = b) (w : World) : Calls Tryz.prog 138 #[.int .u8 (c : Int)] w fun e w' => e = .returned (.bool b) ∧ w = w' := by
  have := plainK_any c hc w; rw [h] at this; exact this
theorem sign_any (g : Int) (c : Nat) (hc : c < 256) (w : World) : Calls Tryz.prog 117 #[.int .i64 g, .int .u8 (c : Int)] w fun e w' => e = .returned (.int .i64 (M.signK g c)) ∧ w = w' := by
  have HP := Lib.hid (show plainN c = plainN c from rfl)
  by_cases hA : g = 2
  · subst hA
    by_cases h1 : 33 ≤ c
    · by_cases h2 : c ≤ 95
      · have E1 := Lib.hid (show (65377 : Int) + (c : Int) - 33 = 65344 + (c : Int) by omega)
        have H := Lib.hid (show M.signK 2 c = 65377 + (c : Int) - 33 by rw [E1.out, M.signK, if_pos ⟨rfl, h1, h2⟩])
        clear HP
        go_enter Tryz.func117, Tryz.ntmps117
        go_wp2
        go_ret
        rw [H.out]
        exact ⟨rfl, rfl⟩
      · have H := Lib.hid (show M.signK 2 c = 65533 by rw [M.signK, if_neg (by omega), if_pos (.inl rfl)])
        have h3 : (95 : Int) < (c : Int) := by omega
        clear HP
        go_enter Tryz.func117, Tryz.ntmps117
        go_wp2
        go_ret
        rw [H.out]
        exact ⟨rfl, rfl⟩
    · have H := Lib.hid (show M.signK 2 c = 65533 by rw [M.signK, if_neg (by omega), if_pos (.inl rfl)])
      have h3 : (c : Int) < 33 := by omega
      clear HP
      go_enter Tryz.func117, Tryz.ntmps117
      go_wp2
      go_ret
      rw [H.out]
      exact ⟨rfl, rfl⟩
  · have e2 : (g == 2) = false := by simpa using hA
    cases hp : plainN c with
    | false =>
      have HP := Lib.hid hp
      have H := Lib.hid (show M.signK g c = 65533 by
        rw [plainN, decide_eq_false_iff_not] at hp
        rw [M.signK, if_neg (by omega), if_pos (by omega)])
      clear hp hA
      go_enter Tryz.func117, Tryz.ntmps117
      go_wp2_with (first | (go_at_call 138; refine (plainK_to _ hc _ HP.out _).mono ?_; rintro e w' ⟨rfl, rfl⟩))
      go_ret
      rw [H.out]
      exact ⟨rfl, rfl⟩
    | true =>
      have HP := Lib.hid hp
      rw [plainN, decide_eq_true_eq] at hp
      have hs : M.signK g c = if g = 1 ∧ c = 92 then 165 else if g = 1 ∧ c = 126 then 8254 else (c : Int) := by
        rw [M.signK, if_neg (by omega), if_neg (by omega)]
      by_cases hB : g = 1
      · subst hB
        by_cases h1 : c = 92
        · subst h1
          have H := Lib.hid hs
          clear hs hp
          go_enter Tryz.func117, Tryz.ntmps117
          go_wp2_with (first | (go_at_call 138; refine (plainK_to _ hc _ HP.out _).mono ?_; rintro e w' ⟨rfl, rfl⟩))
          go_ret
          rw [H.out]
          exact ⟨rfl, rfl⟩
        · by_cases h2 : c = 126
          · subst h2
            have H := Lib.hid hs
            clear hs hp
            go_enter Tryz.func117, Tryz.ntmps117
            go_wp2_with (first | (go_at_call 138; refine (plainK_to _ hc _ HP.out _).mono ?_; rintro e w' ⟨rfl, rfl⟩))
            go_ret
            rw [H.out]
            exact ⟨rfl, rfl⟩
          · have H := Lib.hid (show M.signK 1 c = (c : Int) by rw [hs, if_neg (by omega), if_neg (by omega)])
            have e3 : ((c : Int) == 92) = false := by rw [beq_eq_false_iff_ne]; omega
            have e4 : ((c : Int) == 126) = false := by rw [beq_eq_false_iff_ne]; omega
            clear hs hp h1 h2
            go_enter Tryz.func117, Tryz.ntmps117
            go_wp2_with (first | (go_at_call 138; refine (plainK_to _ hc _ HP.out _).mono ?_; rintro e w' ⟨rfl, rfl⟩))
            go_ret
            rw [H.out]
            exact ⟨rfl, rfl⟩
      · have e1 : (g == 1) = false := by simpa using hB
        have H := Lib.hid (show M.signK g c = (c : Int) by rw [hs, if_neg (by omega), if_neg (by omega)])
        clear hs hp hA hB
        go_enter Tryz.func117, Tryz.ntmps117
        go_wp2_with (first | (go_at_call 138; refine (plainK_to _ hc _ HP.out _).mono ?_; rintro e w' ⟨rfl, rfl⟩))
        go_ret
        rw [H.out]
        exact ⟨rfl, rfl⟩
theorem esc_at (x : UInt8) : M.escK x = if (66 : Int) = (x.toNat : Int) then some 0 else if (74 : Int) = (x.toNat : Int) then some 1 else if (73 : Int) = (x.toNat : Int) then some 2 else none := by
  have key : ∀ n : Nat, n < 256 → (x = UInt8.ofNat n ↔ (n : Int) = (x.toNat : Int)) := fun n hn => by
    constructor
    · rintro rfl; rw [UInt8.toNat_ofNat_of_lt' hn]
    · intro h; apply UInt8.toNat_inj.1; rw [UInt8.toNat_ofNat_of_lt' hn]; omega
  unfold M.escK
  have k1 := key 66 (by decide)
  have k2 := key 74 (by decide)
  have k3 := key 73 (by decide)
  simp only [show (UInt8.ofNat 66) = 66 from rfl, show (UInt8.ofNat 74) = 74 from rfl, show (UInt8.ofNat 73) = 73 from rfl] at k1 k2 k3
  simp only [k1, k2, k3]
  rfl
def shiftsM (t : List UInt8) : Int × Bool := match M.headK t with | some k => (k, true) | none => (-1, !M.waitK t)
theorem shifts_any (s : ByteArray) (c : UInt8) (t : List UInt8) (hs : s.data.toList = c :: t) (hsz : s.size ≤ 68719476735) (w : World) : Calls Tryz.prog 118 #[.string s] w fun e w' => e = .returned (.tuple #[.int .i64 (shiftsM t).1, .bool (shiftsM t).2]) ∧ ∃ q, w.drewN q = w' := by
  have hl : s.size = t.length + 1 := by rw [Lib.size_eq, hs]; rfl
  have c66 : (⟨#[66, 74, 73]⟩ : ByteArray)[0].toNat = 66 := rfl
  have c74 : (⟨#[66, 74, 73]⟩ : ByteArray)[1].toNat = 74 := rfl
  have c73 : (⟨#[66, 74, 73]⟩ : ByteArray)[2].toNat = 73 := rfl
  rcases t with _ | ⟨d, _ | ⟨x, u⟩⟩
  · have h1 : s.size ≤ 1 := by rw [hl]; simp
    have H := Lib.hid (show shiftsM [] = (-1, false) from rfl)
    clear hs hl
    go_enter Tryz.func118, Tryz.ntmps118
    go_wp2_with fail
    go_ret2
    rw [H.out]
    exact ⟨rfl, 0, rfl⟩
  · obtain ⟨k1, h1⟩ := head_at s 1 d (by rw [hs]; rfl)
    have hle : s.size ≤ 2 := by rw [hl]; simp
    clear hs hl
    by_cases hd : d = 40
    · subst hd
      have H := Lib.hid (show shiftsM [40] = (-1, false) from rfl)
      go_enter Tryz.func118, Tryz.ntmps118
      go_wp2_with fail
      go_ret2
      rw [H.out]
      exact ⟨rfl, 0, rfl⟩
    · have e1 : ((d.toNat : Int) != 40) = true := by
        rw [bne_iff_ne]; intro hh; apply hd; apply UInt8.toNat_inj.1; show d.toNat = 40; omega
      have H := Lib.hid (show shiftsM [d] = (-1, true) by simp [shiftsM, M.headK, M.waitK, hd])
      clear hd
      go_enter Tryz.func118, Tryz.ntmps118
      go_wp2_with fail
      go_ret2
      rw [H.out]
      exact ⟨rfl, 0, rfl⟩
  · obtain ⟨k1, h1⟩ := head_at s 1 d (by rw [hs]; rfl)
    obtain ⟨k2, h2⟩ := head_at s 2 x (by rw [hs]; rfl)
    have hge : 3 ≤ s.size := by simp only [List.length_cons] at hl; omega
    clear hs hl
    by_cases hd : d = 40
    · subst hd
      have hM : shiftsM (40 :: x :: u) = match M.escK x with | some k => (k, true) | none => (-1, true) := by
        simp only [shiftsM, M.headK, if_true, M.waitK]
        cases M.escK x <;> simp
      rw [esc_at] at hM
      have hxl := x.toNat_lt
      by_cases g1 : (66 : Int) = (x.toNat : Int)
      · have H := Lib.hid (show shiftsM (40 :: x :: u) = (0, true) by rw [hM, if_pos g1])
        have e1 : ((66 : Int) == (x.toNat : Int)) = true := by simpa using g1
        clear hM g1
        go_enter Tryz.func118, Tryz.ntmps118
        go_wp2_with fail
        refine wp_loop_rounds 4 ?_
        rw [rounds_succ]
        go_wp2_with fail
        all_goals try (go_quiet (fail); go_wp2_with fail)
        all_goals try (rw [rounds_succ]; go_wp2_with fail)
        all_goals try (go_quiet (fail); go_wp2_with fail)
        all_goals try (rw [rounds_succ]; go_wp2_with fail)
        all_goals try (go_quiet (fail); go_wp2_with fail)
        all_goals try (rw [rounds_succ]; go_wp2_with fail)
        go_ret2
        rw [H.out]
        refine ⟨rfl, ?_⟩
        try simp only [World.drewN_drewN]
        exact ⟨_, rfl⟩
      · have e1 : ((66 : Int) == (x.toNat : Int)) = false := by simpa using g1
        rw [if_neg g1] at hM
        by_cases g2 : (74 : Int) = (x.toNat : Int)
        · have H := Lib.hid (show shiftsM (40 :: x :: u) = (1, true) by rw [hM, if_pos g2])
          have e2 : ((74 : Int) == (x.toNat : Int)) = true := by simpa using g2
          clear hM g1 g2
          go_enter Tryz.func118, Tryz.ntmps118
          go_wp2_with fail
          refine wp_loop_rounds 4 ?_
          rw [rounds_succ]
          go_wp2_with fail
          all_goals try (go_quiet (fail); go_wp2_with fail)
          all_goals try (rw [rounds_succ]; go_wp2_with fail)
          all_goals try (go_quiet (fail); go_wp2_with fail)
          all_goals try (rw [rounds_succ]; go_wp2_with fail)
          all_goals try (go_quiet (fail); go_wp2_with fail)
          all_goals try (rw [rounds_succ]; go_wp2_with fail)
          go_ret2
          rw [H.out]
          refine ⟨rfl, ?_⟩
          try simp only [World.drewN_drewN]
          exact ⟨_, rfl⟩
        · have e2 : ((74 : Int) == (x.toNat : Int)) = false := by simpa using g2
          rw [if_neg g2] at hM
          by_cases g3 : (73 : Int) = (x.toNat : Int)
          · have H := Lib.hid (show shiftsM (40 :: x :: u) = (2, true) by rw [hM, if_pos g3])
            have e3 : ((73 : Int) == (x.toNat : Int)) = true := by simpa using g3
            clear hM g1 g2 g3
            go_enter Tryz.func118, Tryz.ntmps118
            go_wp2_with fail
            refine wp_loop_rounds 4 ?_
            rw [rounds_succ]
            go_wp2_with fail
            all_goals try (go_quiet (fail); go_wp2_with fail)
            all_goals try (rw [rounds_succ]; go_wp2_with fail)
            all_goals try (go_quiet (fail); go_wp2_with fail)
            all_goals try (rw [rounds_succ]; go_wp2_with fail)
            all_goals try (go_quiet (fail); go_wp2_with fail)
            all_goals try (rw [rounds_succ]; go_wp2_with fail)
            go_ret2
            rw [H.out]
            refine ⟨rfl, ?_⟩
            try simp only [World.drewN_drewN]
            exact ⟨_, rfl⟩
          · have H := Lib.hid (show shiftsM (40 :: x :: u) = (-1, true) by rw [hM, if_neg g3])
            have e3 : ((73 : Int) == (x.toNat : Int)) = false := by simpa using g3
            clear hM g1 g2 g3
            go_enter Tryz.func118, Tryz.ntmps118
            go_wp2_with fail
            refine wp_loop_rounds 4 ?_
            rw [rounds_succ]
            go_wp2_with fail
            all_goals try (go_quiet (fail); go_wp2_with fail)
            all_goals try (rw [rounds_succ]; go_wp2_with fail)
            all_goals try (go_quiet (fail); go_wp2_with fail)
            all_goals try (rw [rounds_succ]; go_wp2_with fail)
            all_goals try (go_quiet (fail); go_wp2_with fail)
            all_goals try (rw [rounds_succ]; go_wp2_with fail)
            go_ret2
            rw [H.out]
            refine ⟨rfl, ?_⟩
            try simp only [World.drewN_drewN]
            exact ⟨_, rfl⟩
    · have e1 : ((d.toNat : Int) != 40) = true := by
        rw [bne_iff_ne]; intro hh; apply hd; apply UInt8.toNat_inj.1; show d.toNat = 40; omega
      have H := Lib.hid (show shiftsM (d :: x :: u) = (-1, true) by simp [shiftsM, M.headK, M.waitK, hd])
      clear hd
      go_enter Tryz.func118, Tryz.ntmps118
      go_wp2_with fail
      go_ret2
      rw [H.out]
      exact ⟨rfl, 0, rfl⟩
theorem below_set {g : Nat} {a w : World} (h : Below g a w) (i : Nat) (u : Value) : Below g a (w.setCell ⟨g, i, none⟩ u) := Below.setCell h (Nat.le_refl _) u
/-- What a teller tells: one code point for one byte. -/
theorem tellK_any (g : Nat) (sg : Int) (fr : Bool) (s : ByteArray) (v : Value) (xs : List Int) (n : Int) (B : Nat) (w : World) (hB : Box w g 148 [.int .i64 sg, .bool fr, .string s, v]) (hown : Own B 3 w v (xs.map (Value.int .i64))) (hg : g < B) (hBw : B ≤ w.heap.size) (hpos : 0 < s.size) (hsz : s.size ≤ 68719476735) (hl : xs.length < 68719476736) :
    Calls Tryz.prog 116 #[.pointer (some ⟨g, 0, none⟩), .int .i64 n] w fun e w' => e = .returned (.tuple #[]) ∧ ∃ v', Box w' g 148 [.int .i64 sg, .bool false, .string (s.extract 1 s.size), v'] ∧ Own B 3 w' v' ((xs ++ [n]).map (Value.int .i64)) ∧ Below g w w' := by
  have c1 := hB.cell 3 _ rfl
  go_enter Tryz.func116, Tryz.ntmps116
  go_wp2_with (first | ((at_builtin; refine wpList_app rfl (.tmp 8) (.tmp 10) 31 rfl elemInt (by decide) B _ _ _ rfl rfl hown rfl (by simp; omega) (by first | exact Nat.le_refl _ | assumption | (have := hb.size; omega)) ?_; intro v' w1 hown' hb1); have h3 := hB.upto hb1 hg; have d0 := h3.cell 0 _ rfl; have d1 := h3.cell 1 _ rfl; have d2 := h3.cell 2 _ rfl; have d3 := h3.cell 3 _ rfl; have e0 := h3.frozen 0; have e1 := h3.frozen 1; have e2 := h3.frozen 2; have e3 := h3.frozen 3; obtain ⟨A', c', hv', _⟩ := hown'.form; simp at hv'; subst hv'))
  go_end0
  refine ⟨rfl, _, ((h3.set 3 _).set 2 _).set 1 _, ?_, ?_⟩
  · rw [List.map_append]
    exact ((hown'.setCell (p := ⟨g, 3, none⟩) hg _).setCell (p := ⟨g, 2, none⟩) hg _).setCell (p := ⟨g, 1, none⟩) hg _
  · exact below_set (below_set (below_set (Below.mono hb1 (Nat.le_of_lt hg)) _ _) _ _) _ _
theorem shiftK_any (g : Nat) (sg k : Int) (fr : Bool) (s : ByteArray) (v : Value) (xs : List Int) (B : Nat) (w : World) (hB : Box w g 148 [.int .i64 sg, .bool fr, .string s, v]) (hown : Own B 3 w v (xs.map (Value.int .i64))) (hg : g < B) (hBw : B ≤ w.heap.size) (hpos : 3 ≤ s.size) (hsz : s.size ≤ 68719476735) (hl : xs.length < 68719476736) :
    Calls Tryz.prog 119 #[.pointer (some ⟨g, 0, none⟩), .int .i64 k] w fun e w' => e = .returned (.tuple #[]) ∧ ∃ v', Box w' g 148 [.int .i64 k, .bool true, .string (s.extract 3 s.size), v'] ∧ Own B 3 w' v' ((xs ++ if fr = true then [65533] else []).map (Value.int .i64)) ∧ Below g w w' := by
  have c0 := hB.cell 0 _ rfl
  have c1 := hB.cell 1 _ rfl
  have c2 := hB.cell 2 _ rfl
  have c3 := hB.cell 3 _ rfl
  have f0 := hB.frozen 0
  have f1 := hB.frozen 1
  have f2 := hB.frozen 2
  have f3 := hB.frozen 3
  cases fr with
  | false =>
    go_enter Tryz.func119, Tryz.ntmps119
    go_wp2_with fail
    go_end0
    refine ⟨rfl, _, ((hB.set 0 _).set 1 _).set 2 _, ?_, ?_⟩
    · exact ((hown.setCell (p := ⟨g, 0, none⟩) hg _).setCell (p := ⟨g, 1, none⟩) hg _).setCell (p := ⟨g, 2, none⟩) hg _
    · exact below_set (below_set (below_set (Below.refl _ _) _ _) _ _) _ _
  | true =>
    go_enter Tryz.func119, Tryz.ntmps119
    go_wp2_with (first | ((at_builtin; refine wpList_app rfl (.tmp 13) (.tmp 14) 31 rfl elemInt (by decide) B _ _ _ rfl rfl hown rfl (by simp; omega) (by first | exact Nat.le_refl _ | assumption | (have := hb.size; omega)) ?_; intro v' w1 hown' hb1); have h3 := hB.upto hb1 hg; have d0 := h3.cell 0 _ rfl; have d1 := h3.cell 1 _ rfl; have d2 := h3.cell 2 _ rfl; have d3 := h3.cell 3 _ rfl; have e0 := h3.frozen 0; have e1 := h3.frozen 1; have e2 := h3.frozen 2; have e3 := h3.frozen 3; obtain ⟨A', c', hv', _⟩ := hown'.form; simp at hv'; subst hv'))
    go_end0
    refine ⟨rfl, _, (((h3.set 3 _).set 0 _).set 1 _).set 2 _, ?_, ?_⟩
    · exact (((hown'.setCell (p := ⟨g, 3, none⟩) hg _).setCell (p := ⟨g, 0, none⟩) hg _).setCell (p := ⟨g, 1, none⟩) hg _).setCell (p := ⟨g, 2, none⟩) hg _
    · exact below_set (below_set (below_set (below_set (Below.mono hb1 (Nat.le_of_lt hg)) _ _) _ _) _ _) _ _
end Go.Proofs.YtcgdecpjlggekaaGreatDoor

/-
  Package scan: Of, Scan.
-/
import Derived.Test.YthaoohckgilahaaDoorScan4
namespace Go.Proofs.YthaoohckgilahaaDoor
open Go.RowKit
set_option maxRecDepth 1000000
set_option maxHeartbeats 4000000

theorem scanOf_any (s : ByteArray) (hs : s.size ≤ 3000) (w : World) (hL : Len w) : Calls Tryd.prog 37 #[.string s] w fun e w' => e = .returned (.int .i64 (M.scanA s.data.toList)) ∧ Bel w w' := by
  obtain ⟨mn, hmn⟩ : ∃ mn : Nat, mn = min s.size 256 := ⟨_, rfl⟩
  have hmi : min (s.size : Int) 256 = (mn : Int) := by omega
  have hms : mn ≤ s.size := by omega
  have hbd : (0 : Int) ≤ (mn : Int) ∧ (mn : Int) ≤ (s.size : Int) := by omega
  obtain ⟨u, hu⟩ : ∃ u : ByteArray, s.extract 0 mn = u := ⟨_, rfl⟩
  have hul : u.data.toList = s.data.toList.take 256 := by
    rw [← hu, Lib.extract_data, List.drop_zero, Nat.sub_zero, hmn, Lib.size_eq]
    by_cases h9 : s.data.toList.length ≤ 256
    · rw [Nat.min_eq_left h9, List.take_length, List.take_of_length_le h9]
    · rw [Nat.min_eq_right (by omega)]
  have hus : u.size ≤ 256 := by rw [Lib.size_eq, hul, List.length_take]; omega
  have HA := Lib.hid (show M.scanA s.data.toList = M.scan0 u.data.toList by rw [M.scanA, hul])
  clear hul hmn
  go_enter Tryd.func37, Tryd.ntmps37
  go_wp2_with fail
  clear hu hmi hbd
  refine (folded_any u w (by omega)).mono ?_
  rintro e W0 ⟨rfl, b0⟩
  obtain ⟨low, hlow⟩ : ∃ low : ByteArray, low = ⟨(M.fold u.data.toList).toArray⟩ := ⟨_, rfl⟩
  have hl : Low u low := by rw [hlow, Low]
  rw [← hlow]
  clear hlow
  go_wp2_with fail
  have hr1 : Lk (W0.alloc (.cells #[.string u, .string low, .int .i64 0] 77)) W0.heap.size u low 0 := Box.new W0 77 [.string u, .string low, .int .i64 0]
  have hb2 := b0.alloc (.cells #[.string u, .string low, .int .i64 0] 77)
  have hgs := b0.size
  generalize (W0.alloc (.cells #[.string u, .string low, .int .i64 0] 77)) = W1 at *
  generalize W0.heap.size = g at *
  go_loopg [4] (u.size + 1) (fun gg _ wr => ∃ (j : Nat), j ≤ u.size ∧ u.size - j ≤ gg ∧ Lk wr g u low j ∧ Bel w wr ∧ Hid (M.scanA s.data.toList = M.scan0 (u.data.toList.drop j)))
  case atStart => exact ⟨0, by omega, by omega, hr1, hb2, HA⟩
  case round =>
    clear hr1 hb2
    obtain ⟨j, hj, hg, hr, hb, HJ⟩ := hrel
    have c2 := Box.cell hr 2 _ rfl
    by_cases hlt : j < u.size
    · obtain ⟨n, t, hst⟩ : ∃ n t, M.stepS (u.data.toList.drop j) = (n, t) := ⟨_, _, rfl⟩
      have st := step_any g u low j wr hr hl hj hlt (by omega) (hL.bel hb) n t hst
      obtain ⟨c, l, hcl⟩ : ∃ c l, u.data.toList.drop j = c :: l := by
        cases hd : u.data.toList.drop j with
        | nil =>
          have := congrArg List.length hd
          rw [List.length_drop, ← Lib.size_eq, List.length_nil] at this
          omega
        | cons c l => exact ⟨c, l, rfl⟩
      have hless := M.stepS_less c l
      rw [← hcl, hst, List.length_drop, ← Lib.size_eq] at hless
      have hless : t.length < u.size - j := hless
      have hsc := M.scan0_cons c l
      rw [← hcl, hst] at hsc
      have hs2 : M.scan0 (u.data.toList.drop j) = if n = 0 then M.scan0 t else n := hsc
      clear hst hcl hsc
      by_cases hn : n = 0
      · rw [if_pos hn] at hs2
        subst hn
        have HR := Lib.hid (HJ.out.trans hs2)
        clear hs2 HJ
        go_wp2_with fail
        refine st.mono ?_
        rintro e W2 ⟨rfl, ⟨k', hk', hr2, hd⟩, hB⟩
        have hlen := congrArg List.length hd
        rw [List.length_drop, ← Lib.size_eq] at hlen
        have HD := Lib.hid hd
        clear hd
        go_wp2_with fail
        go_roundg (u.size - k')
        case measure => omega
        case rel => exact ⟨k', hk', Nat.le_refl _, hr2, hB.bel hb hgs, Lib.hid (by rw [HR.out, HD.out])⟩
      · rw [if_neg hn] at hs2
        have HR := Lib.hid (HJ.out.trans hs2)
        have hn9 : (n == 0) = false := by simp [hn]
        clear hs2 HJ hn
        go_wp2_with fail
        refine st.mono ?_
        rintro e W2 ⟨rfl, ⟨k', hk', hr2, hd⟩, hB⟩
        clear hd
        go_wp2_with fail
        go_ret
        exact ⟨by rw [HR.out]; rfl, hB.bel hb hgs⟩
    · obtain rfl : j = u.size := by omega
      have HR := Lib.hid (show M.scanA s.data.toList = 0 by rw [HJ.out, List.drop_eq_nil_of_le (by rw [← Lib.size_eq]; exact Nat.le_refl _)]; rfl)
      go_wp2_with fail
      go_ret
      exact ⟨by rw [HR.out]; rfl, hb⟩
theorem scan_to (s : ByteArray) (n x : Int) (h : M.scanE s.data.toList = (n, x)) (w : World) (hL : Len w) : Calls Tryd.prog 18 #[.string s] w fun e w' => e = .returned (.tuple #[.int .i64 n, .int .i64 x]) ∧ Bel w w' := by
  by_cases hl : 3000 < s.size
  · rw [M.scanE, if_pos (by rw [← Lib.size_eq]; exact hl)] at h
    injection h with h1 h2
    subst h1; subst h2
    go_enter Tryd.func18, Tryd.ntmps18
    go_wp2
    go_ret2
    exact ⟨rfl, Bel.refl _⟩
  · rw [M.scanE, if_neg (by rw [← Lib.size_eq]; exact hl)] at h
    injection h with h1 h2
    subst h1; subst h2
    go_enter Tryd.func18, Tryd.ntmps18
    go_wp2_with (go_at_call 37; refine (scanOf_any s (by omega) _ hL).mono ?_; rintro e w' ⟨rfl, hb⟩)
    go_ret2
    exact ⟨rfl, hb⟩
end Go.Proofs.YthaoohckgilahaaDoor

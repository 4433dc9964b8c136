/-
  The law ScanFar; what must be in any case of scans.
-/
import Derived.Test.YthaoohckgilahaaDoorScan5
import Derived.Test.YthaoohckgilahaaDoorLawAttr
namespace Go.Proofs.YthaoohckgilahaaDoor
open Go.RowKit
set_option maxRecDepth 1000000
set_option maxHeartbeats 2000000

theorem attrLit1 (w : World) (p : List UInt8 × List UInt8) : AttrSl (w.alloc (.cells #[.string ⟨p.1.toArray⟩, .string ⟨p.2.toArray⟩] 23)) (.slice (some ⟨w.heap.size, 0, none⟩) 1 1) [p] := by
  refine ⟨some ⟨w.heap.size, 0, none⟩, 1, rfl, Nat.le_refl _, by unfold maxLen; omega, (fun h => by cases h), fun x hx => ⟨w.heap.size, 0, by injection hx with hx; exact hx.symm, fun i r hr => ?_⟩⟩
  match i, hr with
  | 0, hr => injection hr with hr; subst hr; exact ⟨by rw [World.cell?_alloc_new]; rfl, by rw [World.cell?_alloc_new]; rfl⟩
theorem begun_scan : M.scanE (⟨#[60, 33, 45, 45, 62, 60, 109, 101, 116, 97, 32, 99, 104, 97, 114, 115, 101, 116, 61, 120, 45, 117, 115, 101, 114, 45, 100, 101, 102, 105, 110, 101, 100, 62]⟩ : ByteArray).data.toList = (4, 0) := by decide +kernel
theorem begun_meta : M.metaE [([99, 104, 97, 114, 115, 101, 116], [117, 116, 102, 45, 49, 54])] = (1, 0) := by decide +kernel
theorem scanBegun_any (w : World) (hL : Len w) : Calls Tryd.prog 21 #[] w fun e w' => e = .returned (.bool true) ∧ Bel w w' := by
  go_enter Tryd.func21, Tryd.ntmps21
  go_wp2_with fail
  refine (scan_to _ 4 0 (by decide +kernel) _ hL).mono ?_
  rintro e w1 ⟨rfl, b1⟩
  go_wp2_with fail
  refine (metaS_to _ _ _ _ begun_meta _ (attrLit1 w1 ([99, 104, 97, 114, 115, 101, 116], [117, 116, 102, 45, 49, 54])) (hL.bel (b1.alloc _))).mono ?_
  rintro e w2 ⟨rfl, b2⟩
  have b2 := (b1.alloc _).trans b2
  go_wp2_with fail
  refine (scan_to _ _ _ begun_scan _ (hL.bel b2)).mono ?_
  rintro e w3 ⟨rfl, b3⟩
  go_wp2_with fail
  go_ret
  exact ⟨rfl, b2.trans b3⟩
theorem scanA_far (l m : List UInt8) (h : 256 ≤ l.length) : M.scanA (l ++ m) = M.scanA l := by
  rw [M.scanA, M.scanA, List.take_append_of_le_length h]
theorem scanA_cut (l : List UInt8) : M.scanA (l.take 256) = M.scanA l := by
  rw [M.scanA, M.scanA, List.take_take, Nat.min_self]
theorem scanFarTrue (s more : ByteArray) (w : World) (hs : s.size ≤ reachBytes) (hm : more.size ≤ reachBytes) (hL : Len w) : Calls Tryd.prog 6 #[.string s, .string more] w fun e w' => e = .returned (.bool true) ∧ Bel w w' := by
  unfold reachBytes at hs hm
  by_cases hl : 3000 < s.size
  · have HS := Lib.hid (show M.scanE s.data.toList = (0, 2) by rw [M.scanE, if_pos (by rw [← Lib.size_eq]; exact hl)])
    go_enter Tryd.func6, Tryd.ntmps6
    go_wp2_with fail
    refine (scan_to s _ _ HS.out _ hL).mono ?_
    rintro e w1 ⟨rfl, b1⟩
    go_wp2_with fail
    refine (scanBegun_any _ (hL.bel b1)).mono ?_
    rintro e w2 ⟨rfl, b2⟩
    go_wp2_with fail
    go_ret
    exact ⟨rfl, b1.trans b2⟩
  · obtain ⟨n, hn⟩ : ∃ n, M.scanA s.data.toList = n := ⟨_, rfl⟩
    have hr := M.scanF_range (s.data.toList.take 256).length (s.data.toList.take 256)
    have hr : M.scanA s.data.toList = 0 ∨ M.scanA s.data.toList = 1 ∨ M.scanA s.data.toList = 4 ∨ M.scanA s.data.toList = 6 ∨ M.scanA s.data.toList = 7 := hr
    rw [hn] at hr
    have HS := Lib.hid (show M.scanE s.data.toList = (n, 0) by rw [M.scanE, if_neg (by rw [← Lib.size_eq]; exact hl), hn])
    have h2 : (n == 2) = false := by simp; omega
    have h3 : (n == 3) = false := by simp; omega
    have h5 : (n == 5) = false := by simp; omega
    have h0 : decide (n < 0) = false := by simp; omega
    have h7 : decide (7 < n) = false := by simp; omega
    by_cases hshort : s.size < 256 ∨ 3000 < s.size + more.size
    · have hc : s.size < 256 ∨ (256 ≤ s.size ∧ 3000 < s.size + more.size) := by omega
      clear hn hr hshort
      rcases hc with hc | ⟨hc1, hc2⟩
      · have g1 : decide ((s.size : Int) < 256) = true := by simp; omega
        go_enter Tryd.func6, Tryd.ntmps6
        go_wp2_with fail
        refine (scan_to s _ _ HS.out _ hL).mono ?_
        rintro e w1 ⟨rfl, b1⟩
        go_wp2_with fail
        refine (scanBegun_any _ (hL.bel b1)).mono ?_
        rintro e w2 ⟨rfl, b2⟩
        go_wp2_with fail
        go_ret
        exact ⟨rfl, b1.trans b2⟩
      · have g1 : decide ((s.size : Int) < 256) = false := by simp; omega
        have g2 : decide (3000 < (s.size : Int) + (more.size : Int)) = true := by simp; omega
        go_enter Tryd.func6, Tryd.ntmps6
        go_wp2_with fail
        refine (scan_to s _ _ HS.out _ hL).mono ?_
        rintro e w1 ⟨rfl, b1⟩
        go_wp2_with fail
        refine (scanBegun_any _ (hL.bel b1)).mono ?_
        rintro e w2 ⟨rfl, b2⟩
        go_wp2_with fail
        go_ret
        exact ⟨rfl, b1.trans b2⟩
    · have h256 : 256 ≤ s.size := by omega
      have hlen : s.size + more.size ≤ 3000 := by omega
      have HF := Lib.hid (show M.scanE (s ++ more).data.toList = (n, 0) by
        rw [M.scanE, if_neg (by rw [data_append, List.length_append, ← Lib.size_eq, ← Lib.size_eq]; omega), data_append, scanA_far _ _ (by rw [← Lib.size_eq]; exact h256), hn])
      have HC := Lib.hid (show M.scanE (s.extract 0 256).data.toList = (n, 0) by
        rw [Lib.extract_data, List.drop_zero, Nat.sub_zero, M.scanE, if_neg (by rw [List.length_take]; omega), scanA_cut, hn])
      have g1 : decide ((s.size : Int) < 256) = false := by simp; omega
      have g2 : decide (3000 < (s.size : Int) + (more.size : Int)) = false := by simp; omega
      have hbd : (0 : Int) ≤ 256 ∧ (256 : Int) ≤ (s.size : Int) := by omega
      clear hn hr hshort
      go_enter Tryd.func6, Tryd.ntmps6
      go_wp2_with fail
      refine (scan_to s _ _ HS.out _ hL).mono ?_
      rintro e w1 ⟨rfl, b1⟩
      go_wp2_with fail
      refine (scanBegun_any _ (hL.bel b1)).mono ?_
      rintro e w2 ⟨rfl, b2⟩
      go_wp2_with fail
      refine (scan_to (s ++ more) _ _ HF.out _ (hL.bel (b1.trans b2))).mono ?_
      rintro e w3 ⟨rfl, b3⟩
      have b3 := (b1.trans b2).trans b3
      go_wp2_with fail
      refine (scan_to (s.extract 0 256) _ _ HC.out _ (hL.bel b3)).mono ?_
      rintro e w4 ⟨rfl, b4⟩
      go_wp2_with fail
      go_ret
      exact ⟨by simp, b3.trans b4⟩
end Go.Proofs.YthaoohckgilahaaDoor

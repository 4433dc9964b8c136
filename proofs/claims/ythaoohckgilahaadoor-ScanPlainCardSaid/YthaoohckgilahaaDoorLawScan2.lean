/-
  The law ScanPlain.
-/
import Derived.Test.YthaoohckgilahaaDoorLawScan
import Derived.Test.YthaoohckgilahaaDoorLawAttr2
namespace Go.Proofs.YthaoohckgilahaaDoor
open Go.RowKit
set_option maxRecDepth 1000000
set_option maxHeartbeats 4000000

theorem scanA_tagged (a nm b : List UInt8) (ha : ∀ c ∈ a, c ≠ 60) (hp : nm.all M.plainB = true) (hn : nm ≠ []) (hl : a.length + (M.tagS nm).length ≤ 249) (h0 : M.turnA (M.find nm) ≠ 0) : M.scanA (a ++ M.tagS nm ++ b) = M.turnA (M.find nm) := by
  rw [M.scanA, List.take_append, List.take_of_length_le (by rw [List.length_append]; omega), List.append_assoc, M.scan0_skip _ _ ha]
  exact M.scan0_tag nm _ hp hn h0
theorem scanA_hidden (a nm : List UInt8) (ha : ∀ c ∈ a, c ≠ 60) (hp : nm.all M.plainB = true) (hl : a.length + (M.tagS nm).length ≤ 249) : M.scanA (a ++ M.openS ++ M.tagS nm ++ M.closeS) = 0 := by
  have ho : M.openS.length = 4 := rfl
  have hc : M.closeS.length = 3 := rfl
  rw [M.scanA, List.take_of_length_le (by simp only [List.length_append]; omega), List.append_assoc, List.append_assoc, M.scan0_skip _ _ ha, ← List.append_assoc]
  exact M.scan0_comment nm hp
theorem scanPlainTrue (a nm b : ByteArray) (w : World) (hsa : a.size ≤ reachBytes) (hsn : nm.size ≤ reachBytes) (hsb : b.size ≤ reachBytes) (hL : Len w) : Calls Tryd.prog 7 #[.string a, .string nm, .string b] w fun e w' => e = .returned (.bool true) ∧ Bel w w' := by
  unfold reachBytes at hsa hsn hsb
  go_enter Tryd.func7, Tryd.ntmps7
  go_wp2_with fail
  refine (scanBegun_any _ hL).mono ?_
  rintro e w1 ⟨rfl, b1⟩
  go_wp2_with fail
  refine (labelBegun_any _).mono ?_
  rintro e w2 ⟨rfl, b2⟩
  have hb := b1.trans b2
  clear b1 b2
  go_wp2_with fail
  go_loop [7] (fun i => ∃ j : Nat, j ≤ a.size ∧ i = .int .i64 j ∧ Hid (∀ c ∈ a.data.toList.take j, c ≠ 60)) (fun i => a.size - (intOf i).toNat)
  case atStart => exact ⟨0, by omega, rfl, Lib.hid (fun c hc => by rw [List.take_zero] at hc; cases hc)⟩
  case round =>
    obtain ⟨j, hj, rfl, HA⟩ := hrel
    by_cases hlt : j < a.size
    · have hbj := byte_at a j hlt
      cases h60 : ((a[j].toNat : Int) == 60) with
      | true =>
        clear hbj
        go_wp2_with fail
        go_ret
        exact ⟨rfl, hb⟩
      | false =>
        have HR := Lib.hid (show ∀ c ∈ a.data.toList.take (j + 1), c ≠ 60 by
          intro c hc
          rw [List.take_add_one, hbj, List.mem_append] at hc
          rcases hc with hc | hc
          · exact HA.out c hc
          · simp only [Option.toList_some, List.mem_singleton] at hc
            subst hc
            rintro h9
            rw [h9] at h60
            cases h60)
        clear hbj
        go_wp2_with fail
        go_round
        case rel => exact ⟨j + 1, by omega, by go_num, HR⟩
        case measure => simp [intOf]; omega
    · obtain rfl : j = a.size := by omega
      have ha : ∀ c ∈ a.data.toList, c ≠ 60 := fun c hc => HA.out c (by rw [Lib.size_eq, List.take_length]; exact hc)
      clear HA
      obtain ⟨z0, hz0⟩ : ∃ z0 : ByteArray, ⟨#[60, 109, 101, 116, 97, 32, 99, 104, 97, 114, 115, 101, 116, 61]⟩ ++ nm ++ ⟨#[62]⟩ = z0 := ⟨_, rfl⟩
      have hzd : z0.data.toList = M.tagS nm.data.toList := by rw [← hz0]; simp only [data_append]; rfl
      have hzl : (M.tagS nm.data.toList).length = z0.size := by rw [Lib.size_eq, hzd]
      have hzs : z0.size = nm.size + 15 := by rw [Lib.size_eq, hzd, M.tagS, List.length_append, List.length_append, ← Lib.size_eq]; simp only [List.length_cons, List.length_nil]; omega
      have PL := Lib.hid (fun W : World => plainly_any nm W (by omega))
      cases hp : plainS nm.data.toList with
      | false =>
        rw [hp] at PL
        clear ha hzd hzl
        go_wp2_with fail
        refine (PL.out _).mono ?_
        rintro e w3 ⟨rfl, rfl⟩
        go_wp2_with fail
        go_ret
        exact ⟨rfl, hb⟩
      | true =>
        rw [hp] at PL
        have hall : nm.data.toList.all M.plainB = true ∧ nm.data.toList ≠ [] := by
          unfold plainS at hp
          rw [Bool.and_eq_true] at hp
          refine ⟨hp.1, fun h9 => ?_⟩
          rw [h9] at hp
          exact absurd hp.2 (by decide)
        clear hp
        by_cases hc1 : 249 < a.size + z0.size
        · have g1 : decide (249 < (a.size : Int) + (z0.size : Int)) = true := by simp; omega
          clear ha hzd hzl hall
          go_wp2_with fail
          refine (PL.out _).mono ?_
          rintro e w3 ⟨rfl, rfl⟩
          go_wp2_with fail
          go_ret
          exact ⟨rfl, hb⟩
        · by_cases hc2 : 3000 < a.size + z0.size + b.size + 7
          · have g1 : decide (249 < (a.size : Int) + (z0.size : Int)) = false := by simp; omega
            have g2 : decide (3000 < (a.size : Int) + (z0.size : Int) + (b.size : Int) + 7) = true := by simp; omega
            clear ha hzd hzl hall
            go_wp2_with fail
            refine (PL.out _).mono ?_
            rintro e w3 ⟨rfl, rfl⟩
            go_wp2_with fail
            go_ret
            exact ⟨rfl, hb⟩
          · have g1 : decide (249 < (a.size : Int) + (z0.size : Int)) = false := by simp; omega
            have g2 : decide (3000 < (a.size : Int) + (z0.size : Int) + (b.size : Int) + 7) = false := by simp; omega
            go_wp2_with fail
            refine (PL.out _).mono ?_
            rintro e w3 ⟨rfl, rfl⟩
            go_wp2_with fail
            obtain ⟨f, hf⟩ : ∃ f, M.find nm.data.toList = f := ⟨_, rfl⟩
            have hfr := M.find_range nm.data.toList
            rw [hf] at hfr
            have HF := Lib.hid (show M.findE nm.data.toList = (f, 0) by rw [M.findE, if_neg (by rw [← Lib.size_eq]; omega), hf])
            obtain ⟨m1, hm1⟩ : ∃ m1, M.scanA (a ++ z0 ++ b).data.toList = m1 := ⟨_, rfl⟩
            have H1 := Lib.hid (show M.scanE (a ++ z0 ++ b).data.toList = (m1, 0) by
              rw [M.scanE, if_neg (by rw [data_append, data_append, List.length_append, List.length_append, ← Lib.size_eq, ← Lib.size_eq, ← Lib.size_eq]; omega), hm1])
            obtain ⟨z2, hz2⟩ : ∃ z2 : ByteArray, a ++ ⟨#[60, 33, 45, 45]⟩ ++ z0 ++ ⟨#[45, 45, 62]⟩ = z2 := ⟨_, rfl⟩
            have H2 := Lib.hid (show M.scanE z2.data.toList = (0, 0) by
              rw [← hz2, M.scanE, if_neg (by simp only [data_append, List.length_append]; rw [← Lib.size_eq, ← Lib.size_eq]; simp only [List.length_cons, List.length_nil]; omega)]
              simp only [data_append]
              rw [hzd]
              exact congrArg (fun x => (x, (0 : Int))) (scanA_hidden a.data.toList nm.data.toList ha hall.1 (by rw [← Lib.size_eq, hzl]; omega)))
            have hq : M.turnA f ≠ 0 → m1 = M.turnA f := by
              intro h9
              rw [← hm1, data_append, data_append, hzd, ← hf]
              exact scanA_tagged _ _ _ ha hall.1 hall.2 (by rw [← Lib.size_eq, hzl]; omega) (by rw [hf]; exact h9)
            clear ha hzd hzl hall hm1 hf
            by_cases f2 : f = 2
            · subst f2
              obtain rfl := hq (by decide)
              skip
              refine (find_to nm _ _ HF.out (by omega) _).mono ?_
              rintro e w4 ⟨rfl, b4⟩
              have b4 := hb.trans b4
              go_wp2_with fail
              refine (scan_to (a ++ z0 ++ b) _ _ H1.out _ (hL.bel b4)).mono ?_
              rintro e w5 ⟨rfl, b5⟩
              have b5 := b4.trans b5
              go_wp2_with fail
              skip
              refine (scan_to z2 _ _ H2.out _ (hL.bel b5)).mono ?_
              rintro e w6 ⟨rfl, b6⟩
              go_wp2_with fail
              go_ret
              exact ⟨by first | rfl | simp [M.turnA], b5.trans b6⟩
            · by_cases f3 : f = 3
              · subst f3
                obtain rfl := hq (by decide)
                skip
                refine (find_to nm _ _ HF.out (by omega) _).mono ?_
                rintro e w4 ⟨rfl, b4⟩
                have b4 := hb.trans b4
                go_wp2_with fail
                refine (scan_to (a ++ z0 ++ b) _ _ H1.out _ (hL.bel b4)).mono ?_
                rintro e w5 ⟨rfl, b5⟩
                have b5 := b4.trans b5
                go_wp2_with fail
                skip
                refine (scan_to z2 _ _ H2.out _ (hL.bel b5)).mono ?_
                rintro e w6 ⟨rfl, b6⟩
                go_wp2_with fail
                go_ret
                exact ⟨by first | rfl | simp [M.turnA], b5.trans b6⟩
              · by_cases f5 : f = 5
                · subst f5
                  obtain rfl := hq (by decide)
                  skip
                  refine (find_to nm _ _ HF.out (by omega) _).mono ?_
                  rintro e w4 ⟨rfl, b4⟩
                  have b4 := hb.trans b4
                  go_wp2_with fail
                  refine (scan_to (a ++ z0 ++ b) _ _ H1.out _ (hL.bel b4)).mono ?_
                  rintro e w5 ⟨rfl, b5⟩
                  have b5 := b4.trans b5
                  go_wp2_with fail
                  skip
                  refine (scan_to z2 _ _ H2.out _ (hL.bel b5)).mono ?_
                  rintro e w6 ⟨rfl, b6⟩
                  go_wp2_with fail
                  go_ret
                  exact ⟨by first | rfl | simp [M.turnA], b5.trans b6⟩
                · have g2 : (f == 2) = false := by simp [f2]
                  have g3 : (f == 3) = false := by simp [f3]
                  have g5 : (f == 5) = false := by simp [f5]
                  by_cases f0 : f = 0
                  · subst f0
                    clear hq f2 f3 f5
                    skip
                    refine (find_to nm _ _ HF.out (by omega) _).mono ?_
                    rintro e w4 ⟨rfl, b4⟩
                    have b4 := hb.trans b4
                    go_wp2_with fail
                    refine (scan_to (a ++ z0 ++ b) _ _ H1.out _ (hL.bel b4)).mono ?_
                    rintro e w5 ⟨rfl, b5⟩
                    have b5 := b4.trans b5
                    go_wp2_with fail
                    skip
                    refine (scan_to z2 _ _ H2.out _ (hL.bel b5)).mono ?_
                    rintro e w6 ⟨rfl, b6⟩
                    go_wp2_with fail
                    go_ret
                    exact ⟨by first | rfl | simp [M.turnA], b5.trans b6⟩
                  · have ht : M.turnA f = f := by unfold M.turnA; rw [if_neg (by omega), if_neg f5]
                    rw [ht] at hq
                    have hmm := hq f0
                    have g0 : (f == 0) = false := by simp [f0]
                    subst hmm
                    clear hq ht f2 f3 f5 f0
                    skip
                    refine (find_to nm _ _ HF.out (by omega) _).mono ?_
                    rintro e w4 ⟨rfl, b4⟩
                    have b4 := hb.trans b4
                    go_wp2_with fail
                    refine (scan_to (a ++ z0 ++ b) _ _ H1.out _ (hL.bel b4)).mono ?_
                    rintro e w5 ⟨rfl, b5⟩
                    have b5 := b4.trans b5
                    go_wp2_with fail
                    skip
                    refine (scan_to z2 _ _ H2.out _ (hL.bel b5)).mono ?_
                    rintro e w6 ⟨rfl, b6⟩
                    go_wp2_with fail
                    go_ret
                    exact ⟨by first | rfl | simp [M.turnA], b5.trans b6⟩
end Go.Proofs.YthaoohckgilahaaDoor

/-
  Texts of the proof, laid together: LawScan3, AggA. No condition of its own.
-/
import Derived.Test.YthaoohckgilahaaDoorG6
import Derived.Test.YthaoohckgilahaaDoorG3
import Derived.OpenShut
import Derived.Deep.SlicePairs

/-
  The law ScanTells.
-/
namespace Go.Proofs.YthaoohckgilahaaDoor
open Go.RowKit
set_option maxRecDepth 1000000
set_option maxHeartbeats 4000000

def longP (a : List UInt8 × List UInt8) : Bool := decide (3000 < a.1.length) || decide (3000 < a.2.length)
def LongTo (xs : List (List UInt8 × List UInt8)) (b0 : Bool) (j : Nat) (b : Bool) : Prop := b = (b0 || (xs.take j).any longP)
theorem long_next (xs : List (List UInt8 × List UInt8)) (b0 : Bool) (j : Nat) (q : List UInt8 × List UInt8) (hq : xs[j]? = some q) : (b0 || (xs.take (j + 1)).any longP) = ((b0 || (xs.take j).any longP) || longP q) := by
  rw [List.take_add_one, hq, List.any_append]
  simp [Bool.or_assoc]
theorem scanE_long (s : List UInt8) (m y : Int) (h : M.scanE s = (m, y)) : M.long s = y ∧ (y = 0 → m = M.scanA s) ∧ (y ≠ 0 → m = 0 ∧ y = 2) := by
  unfold M.scanE at h
  unfold M.long
  by_cases hl : 3000 < s.length
  · rw [if_pos hl] at h
    injection h with h1 h2
    subst h1; subst h2
    exact ⟨if_pos hl, (fun h9 => by cases h9), fun _ => ⟨rfl, rfl⟩⟩
  · rw [if_neg hl] at h
    injection h with h1 h2
    subst h1; subst h2
    exact ⟨if_neg hl, (fun _ => rfl), fun h9 => absurd rfl h9⟩
theorem metaE_long (xs : List (List UInt8 × List UInt8)) (n x : Int) (h : M.metaE xs = (n, x)) : (M.longA xs = true ∧ n = 0 ∧ x = 2) ∨ (M.longA xs = false ∧ n = M.metaA xs ∧ x = 0) := by
  unfold M.metaE at h
  cases hl : M.longA xs with
  | true => rw [hl, if_pos rfl] at h; injection h with h1 h2; exact .inl ⟨rfl, h1.symm, h2.symm⟩
  | false => rw [hl, if_neg (by decide)] at h; injection h with h1 h2; exact .inr ⟨rfl, h1.symm, h2.symm⟩
theorem scanTellsTrue (v : Value) (xs : List (List UInt8 × List UInt8)) (s : ByteArray) (w : World) (hv : AttrSl w v xs) (_ : s.size ≤ reachBytes) (hL : Len w) : Calls Tryd.prog 5 #[v, .string s] w fun e w' => e = .returned (.bool true) ∧ Bel w w' := by
  obtain ⟨n, x, hE⟩ : ∃ n x, M.metaE xs = (n, x) := ⟨_, _, rfl⟩
  obtain ⟨m, y, hF⟩ : ∃ m y, M.scanE s.data.toList = (m, y) := ⟨_, _, rfl⟩
  have HE := Lib.hid hE
  have HF := Lib.hid hF
  have HY := Lib.hid (show M.long s.data.toList = y ∧ ((y = 0 ∧ m = M.scanA s.data.toList ∧ s.size ≤ 3000) ∨ (y = 2 ∧ m = 0)) by
    obtain ⟨g1, g2, g3⟩ := scanE_long _ _ _ hF
    refine ⟨g1, ?_⟩
    by_cases h0 : y = 0
    · refine .inl ⟨h0, g2 h0, ?_⟩
      rw [h0] at g1
      unfold M.long at g1
      by_cases hl : 3000 < s.data.toList.length
      · rw [if_pos hl] at g1; cases g1
      · rw [Lib.size_eq]; omega
    · exact .inr ⟨(g3 h0).2, (g3 h0).1⟩)
  clear hE hF
  go_enter Tryd.func5, Tryd.ntmps5
  go_wp2_with fail
  refine (metaS_to v xs n x HE.out _ hv hL).mono ?_
  rintro e w1 ⟨rfl, b1⟩
  go_wp2_with fail
  refine (scan_to s m y HF.out _ (hL.bel b1)).mono ?_
  rintro e w2 ⟨rfl, b2⟩
  have hb := b1.trans b2
  have hv := hv.bel hb
  clear b1 b2
  go_wp2_with fail
  refine (long_to s y HY.out.1 _).mono ?_
  rintro e _ ⟨rfl, rfl⟩
  have HV := Lib.hid hv
  obtain ⟨a, c, rfl, hc1, hc2, hn, hx⟩ := hv
  unfold maxLen at hc2
  have HX := Lib.hid hx
  have HN := Lib.hid hn
  clear hx hn
  by_cases h3 : 3000 < xs.length
  · have g3 : decide (3000 < (xs.length : Int)) = true := by simp; omega
    go_wp2_with fail
    go_loop [9, 11] (fun wv i => ∃ (j : Nat) (b : Bool), j ≤ xs.length ∧ i = .int .i64 j ∧ wv = .int .i64 (if b = true then 2 else 0) ∧ Hid (LongTo xs true j b)) (fun _ i => xs.length - (intOf i).toNat)
    case atStart => exact ⟨0, true, by omega, rfl, rfl, Lib.hid (by unfold LongTo; simp)⟩
    case round =>
      obtain ⟨j, b, hj, rfl, rfl, HB⟩ := hrel
      by_cases hlt : j < xs.length
      · obtain ⟨q, hq⟩ : ∃ q, xs[j]? = some q := ⟨_, List.getElem?_eq_getElem hlt⟩
        cases a with
        | none => exfalso; rw [HN.out rfl] at hlt; exact absurd hlt (by simp)
        | some x0 =>
        obtain ⟨g, o, rfl, hx'⟩ := HX.out x0 rfl (List.ne_nil_of_length_pos (by omega))
        obtain ⟨c1, c2⟩ := hx' j q hq
        clear hx'
        rcases long_cases ⟨q.1.toArray⟩ with ⟨z1, l1⟩ | ⟨z1, l1⟩ <;> rcases long_cases ⟨q.2.toArray⟩ with ⟨z2, l2⟩ | ⟨z2, l2⟩ <;> rw [size_str] at z1 z2
        · skip
          have HR := Lib.hid (show LongTo xs true (j + 1) true by unfold LongTo; rw [long_next xs _ j q hq, ← (show _ = _ from HB.out), longP]; simp [z1])
          have L1 := Lib.hid l1
          have L2 := Lib.hid l2
          clear hq z1 z2 l1 l2
          go_wp2_with (first | (go_at_call 11; refine (long_to _ _ L1.out _).mono ?_; rintro e w' ⟨rfl, rfl⟩) | (go_at_call 11; refine (long_to _ _ L2.out _).mono ?_; rintro e w' ⟨rfl, rfl⟩))
          all_goals go_round
          case rel => exact ⟨j + 1, true, by omega, by go_num, rfl, HR⟩
          case measure => simp [intOf]; omega
        · skip
          have HR := Lib.hid (show LongTo xs true (j + 1) true by unfold LongTo; rw [long_next xs _ j q hq, ← (show _ = _ from HB.out), longP]; simp [z1])
          have L1 := Lib.hid l1
          have L2 := Lib.hid l2
          clear hq z1 z2 l1 l2
          go_wp2_with (first | (go_at_call 11; refine (long_to _ _ L1.out _).mono ?_; rintro e w' ⟨rfl, rfl⟩) | (go_at_call 11; refine (long_to _ _ L2.out _).mono ?_; rintro e w' ⟨rfl, rfl⟩))
          all_goals go_round
          case rel => exact ⟨j + 1, true, by omega, by go_num, rfl, HR⟩
          case measure => simp [intOf]; omega
        · skip
          have HR := Lib.hid (show LongTo xs true (j + 1) true by unfold LongTo; rw [long_next xs _ j q hq, ← (show _ = _ from HB.out), longP]; simp [z2])
          have L1 := Lib.hid l1
          have L2 := Lib.hid l2
          clear hq z1 z2 l1 l2
          go_wp2_with (first | (go_at_call 11; refine (long_to _ _ L1.out _).mono ?_; rintro e w' ⟨rfl, rfl⟩) | (go_at_call 11; refine (long_to _ _ L2.out _).mono ?_; rintro e w' ⟨rfl, rfl⟩))
          all_goals go_round
          case rel => exact ⟨j + 1, true, by omega, by go_num, rfl, HR⟩
          case measure => simp [intOf]; omega
        · skip
          have HR := Lib.hid (show LongTo xs true (j + 1) b by unfold LongTo; rw [long_next xs _ j q hq, ← (show _ = _ from HB.out), longP]; simp <;> omega)
          have L1 := Lib.hid l1
          have L2 := Lib.hid l2
          clear hq z1 z2 l1 l2
          go_wp2_with (first | (go_at_call 11; refine (long_to _ _ L1.out _).mono ?_; rintro e w' ⟨rfl, rfl⟩) | (go_at_call 11; refine (long_to _ _ L2.out _).mono ?_; rintro e w' ⟨rfl, rfl⟩))
          all_goals go_round
          case rel => exact ⟨j + 1, b, by omega, by go_num, rfl, HR⟩
          case measure => simp [intOf]; omega
      · obtain rfl : j = xs.length := by omega
        have hbl : b = M.longA xs := by rw [show b = _ from HB.out, List.take_length, M.longA, decide_eq_true h3]; rfl
        clear HB
        rcases metaE_long xs n x HE.out with ⟨hl, rfl, rfl⟩ | ⟨hl, rfl, rfl⟩
        · rw [hl] at hbl
          subst hbl
          rw [if_pos rfl]
          skip
          rcases HY.out.2 with ⟨rfl, hm⟩ | ⟨rfl, rfl⟩
          · have HR := Lib.hid (show ∀ W, Calls Tryd.prog 20 #[.string s] W fun e w' => e = .returned (.int .i64 m) ∧ Bel W w' from fun W => by rw [hm.1]; exact scanRef_any s (Nat.le_trans hm.2 (by decide)) W)
            clear hm
            go_wp2_with fail
            refine (HR.out _).mono ?_
            rintro e w6 ⟨rfl, b6⟩
            have hb := hb.trans b6
            clear b6
            go_wp2_with fail
            refine (scanBegun_any _ (hL.bel hb)).mono ?_
            rintro e w7 ⟨rfl, b7⟩
            have hb := hb.trans b7
            clear b7
            go_wp2_with fail
            go_ret
            exact ⟨by simp, hb⟩
          · go_wp2_with fail
            refine (scanBegun_any _ (hL.bel hb)).mono ?_
            rintro e w7 ⟨rfl, b7⟩
            have hb := hb.trans b7
            clear b7
            go_wp2_with fail
            go_ret
            exact ⟨by simp, hb⟩
        · rw [hl] at hbl
          subst hbl
          rw [if_neg (by decide)]
          obtain ⟨mm, hmm⟩ : ∃ mm, M.metaA xs = mm := ⟨_, rfl⟩
          have HM := Lib.hid (show ∀ W, AttrSl W (.slice a xs.length c) xs → Calls Tryd.prog 19 #[.slice a xs.length c] W fun e w' => e = .returned (.int .i64 mm) ∧ Bel W w' from fun W hW => by rw [← hmm]; exact metaOf_any _ _ _ hW (longA_len xs hl).2)
          rw [hmm]
          clear hl hmm
          go_wp2_with fail
          refine (HM.out _ HV.out).mono ?_
          rintro e w5 ⟨rfl, b5⟩
          have hb := hb.trans b5
          clear b5
          skip
          rcases HY.out.2 with ⟨rfl, hm⟩ | ⟨rfl, rfl⟩
          · have HR := Lib.hid (show ∀ W, Calls Tryd.prog 20 #[.string s] W fun e w' => e = .returned (.int .i64 m) ∧ Bel W w' from fun W => by rw [hm.1]; exact scanRef_any s (Nat.le_trans hm.2 (by decide)) W)
            clear hm
            go_wp2_with fail
            refine (HR.out _).mono ?_
            rintro e w6 ⟨rfl, b6⟩
            have hb := hb.trans b6
            clear b6
            go_wp2_with fail
            refine (scanBegun_any _ (hL.bel hb)).mono ?_
            rintro e w7 ⟨rfl, b7⟩
            have hb := hb.trans b7
            clear b7
            go_wp2_with fail
            go_ret
            exact ⟨by simp, hb⟩
          · go_wp2_with fail
            refine (scanBegun_any _ (hL.bel hb)).mono ?_
            rintro e w7 ⟨rfl, b7⟩
            have hb := hb.trans b7
            clear b7
            go_wp2_with fail
            go_ret
            exact ⟨by simp, hb⟩
  · have g3 : decide (3000 < (xs.length : Int)) = false := by simp; omega
    go_wp2_with fail
    go_loop [9, 11] (fun wv i => ∃ (j : Nat) (b : Bool), j ≤ xs.length ∧ i = .int .i64 j ∧ wv = .int .i64 (if b = true then 2 else 0) ∧ Hid (LongTo xs false j b)) (fun _ i => xs.length - (intOf i).toNat)
    case atStart => exact ⟨0, false, by omega, rfl, rfl, Lib.hid (by unfold LongTo; simp)⟩
    case round =>
      obtain ⟨j, b, hj, rfl, rfl, HB⟩ := hrel
      by_cases hlt : j < xs.length
      · obtain ⟨q, hq⟩ : ∃ q, xs[j]? = some q := ⟨_, List.getElem?_eq_getElem hlt⟩
        cases a with
        | none => exfalso; rw [HN.out rfl] at hlt; exact absurd hlt (by simp)
        | some x0 =>
        obtain ⟨g, o, rfl, hx'⟩ := HX.out x0 rfl (List.ne_nil_of_length_pos (by omega))
        obtain ⟨c1, c2⟩ := hx' j q hq
        clear hx'
        rcases long_cases ⟨q.1.toArray⟩ with ⟨z1, l1⟩ | ⟨z1, l1⟩ <;> rcases long_cases ⟨q.2.toArray⟩ with ⟨z2, l2⟩ | ⟨z2, l2⟩ <;> rw [size_str] at z1 z2
        · skip
          have HR := Lib.hid (show LongTo xs false (j + 1) true by unfold LongTo; rw [long_next xs _ j q hq, ← (show _ = _ from HB.out), longP]; simp [z1])
          have L1 := Lib.hid l1
          have L2 := Lib.hid l2
          clear hq z1 z2 l1 l2
          go_wp2_with (first | (go_at_call 11; refine (long_to _ _ L1.out _).mono ?_; rintro e w' ⟨rfl, rfl⟩) | (go_at_call 11; refine (long_to _ _ L2.out _).mono ?_; rintro e w' ⟨rfl, rfl⟩))
          all_goals go_round
          case rel => exact ⟨j + 1, true, by omega, by go_num, rfl, HR⟩
          case measure => simp [intOf]; omega
        · skip
          have HR := Lib.hid (show LongTo xs false (j + 1) true by unfold LongTo; rw [long_next xs _ j q hq, ← (show _ = _ from HB.out), longP]; simp [z1])
          have L1 := Lib.hid l1
          have L2 := Lib.hid l2
          clear hq z1 z2 l1 l2
          go_wp2_with (first | (go_at_call 11; refine (long_to _ _ L1.out _).mono ?_; rintro e w' ⟨rfl, rfl⟩) | (go_at_call 11; refine (long_to _ _ L2.out _).mono ?_; rintro e w' ⟨rfl, rfl⟩))
          all_goals go_round
          case rel => exact ⟨j + 1, true, by omega, by go_num, rfl, HR⟩
          case measure => simp [intOf]; omega
        · skip
          have HR := Lib.hid (show LongTo xs false (j + 1) true by unfold LongTo; rw [long_next xs _ j q hq, ← (show _ = _ from HB.out), longP]; simp [z2])
          have L1 := Lib.hid l1
          have L2 := Lib.hid l2
          clear hq z1 z2 l1 l2
          go_wp2_with (first | (go_at_call 11; refine (long_to _ _ L1.out _).mono ?_; rintro e w' ⟨rfl, rfl⟩) | (go_at_call 11; refine (long_to _ _ L2.out _).mono ?_; rintro e w' ⟨rfl, rfl⟩))
          all_goals go_round
          case rel => exact ⟨j + 1, true, by omega, by go_num, rfl, HR⟩
          case measure => simp [intOf]; omega
        · skip
          have HR := Lib.hid (show LongTo xs false (j + 1) b by unfold LongTo; rw [long_next xs _ j q hq, ← (show _ = _ from HB.out), longP]; simp <;> omega)
          have L1 := Lib.hid l1
          have L2 := Lib.hid l2
          clear hq z1 z2 l1 l2
          go_wp2_with (first | (go_at_call 11; refine (long_to _ _ L1.out _).mono ?_; rintro e w' ⟨rfl, rfl⟩) | (go_at_call 11; refine (long_to _ _ L2.out _).mono ?_; rintro e w' ⟨rfl, rfl⟩))
          all_goals go_round
          case rel => exact ⟨j + 1, b, by omega, by go_num, rfl, HR⟩
          case measure => simp [intOf]; omega
      · obtain rfl : j = xs.length := by omega
        have hbl : b = M.longA xs := by rw [show b = _ from HB.out, List.take_length, M.longA, decide_eq_false h3]; rfl
        clear HB
        rcases metaE_long xs n x HE.out with ⟨hl, rfl, rfl⟩ | ⟨hl, rfl, rfl⟩
        · rw [hl] at hbl
          subst hbl
          rw [if_pos rfl]
          skip
          rcases HY.out.2 with ⟨rfl, hm⟩ | ⟨rfl, rfl⟩
          · have HR := Lib.hid (show ∀ W, Calls Tryd.prog 20 #[.string s] W fun e w' => e = .returned (.int .i64 m) ∧ Bel W w' from fun W => by rw [hm.1]; exact scanRef_any s (Nat.le_trans hm.2 (by decide)) W)
            clear hm
            go_wp2_with fail
            refine (HR.out _).mono ?_
            rintro e w6 ⟨rfl, b6⟩
            have hb := hb.trans b6
            clear b6
            go_wp2_with fail
            refine (scanBegun_any _ (hL.bel hb)).mono ?_
            rintro e w7 ⟨rfl, b7⟩
            have hb := hb.trans b7
            clear b7
            go_wp2_with fail
            go_ret
            exact ⟨by simp, hb⟩
          · go_wp2_with fail
            refine (scanBegun_any _ (hL.bel hb)).mono ?_
            rintro e w7 ⟨rfl, b7⟩
            have hb := hb.trans b7
            clear b7
            go_wp2_with fail
            go_ret
            exact ⟨by simp, hb⟩
        · rw [hl] at hbl
          subst hbl
          rw [if_neg (by decide)]
          obtain ⟨mm, hmm⟩ : ∃ mm, M.metaA xs = mm := ⟨_, rfl⟩
          have HM := Lib.hid (show ∀ W, AttrSl W (.slice a xs.length c) xs → Calls Tryd.prog 19 #[.slice a xs.length c] W fun e w' => e = .returned (.int .i64 mm) ∧ Bel W w' from fun W hW => by rw [← hmm]; exact metaOf_any _ _ _ hW (longA_len xs hl).2)
          rw [hmm]
          clear hl hmm
          go_wp2_with fail
          refine (HM.out _ HV.out).mono ?_
          rintro e w5 ⟨rfl, b5⟩
          have hb := hb.trans b5
          clear b5
          skip
          rcases HY.out.2 with ⟨rfl, hm⟩ | ⟨rfl, rfl⟩
          · have HR := Lib.hid (show ∀ W, Calls Tryd.prog 20 #[.string s] W fun e w' => e = .returned (.int .i64 m) ∧ Bel W w' from fun W => by rw [hm.1]; exact scanRef_any s (Nat.le_trans hm.2 (by decide)) W)
            clear hm
            go_wp2_with fail
            refine (HR.out _).mono ?_
            rintro e w6 ⟨rfl, b6⟩
            have hb := hb.trans b6
            clear b6
            go_wp2_with fail
            refine (scanBegun_any _ (hL.bel hb)).mono ?_
            rintro e w7 ⟨rfl, b7⟩
            have hb := hb.trans b7
            clear b7
            go_wp2_with fail
            go_ret
            exact ⟨by simp, hb⟩
          · go_wp2_with fail
            refine (scanBegun_any _ (hL.bel hb)).mono ?_
            rintro e w7 ⟨rfl, b7⟩
            have hb := hb.trans b7
            clear b7
            go_wp2_with fail
            go_ret
            exact ⟨by simp, hb⟩
end Go.Proofs.YthaoohckgilahaaDoor

/-
  An argument that is a list of attributes: opened.
-/
namespace Go.Proofs.YthaoohckgilahaaDoor
open Go.ChangeShapes Go.WideShapes Go.Deep

theorem attrTypes : Tryd.prog.cellsOf 23 = 2 := by kernel_rfl
theorem open_attrs {H : Type} {enc : TypeId × Value → H} {w : World} {base : Nat} {spare : Nat → Bool} {held : Bool} {v : Value} {a : Option Addr} {len cap : Nat} {d : DataW H} {p : List MemPlace} (hv : v = .slice a len cap)
    (h : DataW.Trod enc Tryd.prog w base spare held 27 v d p) : ∃ xs, AttrSl w v xs := by
  subst hv
  obtain ⟨fuel, hf⟩ := h
  rcases open_slice_pairs Tryd.underlying27 Tryd.underlying23 attrTypes rfl rfl (by kernel_rfl) (by kernel_rfl) hf with ⟨hcs, _⟩ | ⟨x, l, c, m, n, V0, V1, D0, D1, P0, P1, hcs, _, hl, hc, hm, _, hx⟩
  · simp [Value.cells] at hcs
    obtain ⟨rfl, rfl, rfl⟩ := hcs
    exact ⟨[], none, 0, rfl, Nat.le_refl _, Nat.zero_le _, fun _ => rfl, fun _ h => by cases h⟩
  · simp [Value.cells] at hcs
    obtain ⟨rfl, rfl, rfl⟩ := hcs
    have hlm : len ≤ m := by rw [hm]; split <;> omega
    have key : ∀ i, i < len → ∃ q : List UInt8 × List UInt8, V0 i = .string ⟨q.1.toArray⟩ ∧ V1 i = .string ⟨q.2.toArray⟩ := by
      intro i hi
      obtain ⟨_, _, t0, t1⟩ := hx i (by omega)
      obtain ⟨b0, i0, _⟩ := DataW.trod_string Tryd.underlying9 t0
      obtain ⟨b1, i1, _⟩ := DataW.trod_string Tryd.underlying9 t1
      simp at i0 i1
      exact ⟨(b0.data.toList, b1.data.toList), by simpa using i0, by simpa using i1⟩
    obtain ⟨q, hq⟩ := choose_lt key
    refine ⟨(List.range len).map q, some x, cap, by simp, by simpa using hl, hc, (fun h => by cases h), fun y hy hne => ?_⟩
    injection hy with hy
    subst hy
    have hpos : 0 < len := by
      rcases Nat.eq_zero_or_pos len with h0 | h0
      · subst h0; exact absurd rfl hne
      · exact h0
    have hc0 := (hx 0 (by omega)).1
    obtain ⟨g, o, sp⟩ := x
    have hsp : sp = none := by
      cases sp with
      | none => rfl
      | some z =>
        exfalso
        rw [Nat.zero_mul] at hc0
        simp only [Addr.add, if_true] at hc0
        unfold World.cell? at hc0
        split at hc0
        · simp at hc0
        · cases hc0
    subst hsp
    refine ⟨g, o, rfl, fun i r hr => ?_⟩
    obtain ⟨hi, he⟩ := List.getElem?_eq_some_iff.1 hr
    simp only [List.length_map, List.length_range] at hi
    simp only [List.getElem_map, List.getElem_range] at he
    obtain ⟨c0, c1, _, _⟩ := hx i (by omega)
    obtain ⟨e0, e1⟩ := hq i hi
    rw [e0, he] at c0
    rw [e1, he] at c1
    have ha : ∀ k, (⟨g, o, none⟩ : Addr).add k = ⟨g, o + k, none⟩ := fun k => by
      unfold Addr.add
      by_cases hk : k = 0
      · simp [hk]
      · simp [hk]
    rw [ha] at c0 c1
    exact ⟨c0, by rw [Nat.add_assoc]; exact c1⟩
end Go.Proofs.YthaoohckgilahaaDoor

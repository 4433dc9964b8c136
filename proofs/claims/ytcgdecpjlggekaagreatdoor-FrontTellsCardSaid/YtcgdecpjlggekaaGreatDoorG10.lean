/-
  Texts of the proof, laid together: RKana3, Single2, RSingle, RUtf8b, RUtf8c, RUtf8d. No condition of its own.
-/
import Derived.Test.YtcgdecpjlggekaaGreatDoorG9
import Derived.Test.YtcgdecpjlggekaaGreatDoorG3
import Derived.Test.YtcgdecpjlggekaaGreatDoorG5
import Derived.Test.YtcgdecpjlggekaaGreatDoorG7
import Derived.Test.YtcgdecpjlggekaaGreatDoorG1

/-
  The document's answers on signs that are shifted: DecodeKana.
-/
namespace Go.Proofs.YtcgdecpjlggekaaGreatDoor
open Go.RowKit
set_option maxRecDepth 1000000

set_option maxHeartbeats 8000000 in
theorem decodeKana_any (g : Int) (f : Bool) (s : ByteArray) (last : Bool) (hs : s.size ≤ 68719476735) (w : World) : Calls Tryz.prog 60 #[.agg #[.int .i64 g, .bool f], .string s, .bool last] w fun e w' =>
    ∃ v, e = .returned (.tuple #[v, .agg #[.int .i64 (M.toldK last g f s.data.toList).2.1, .bool (M.toldK last g f s.data.toList).2.2.1], .string ⟨(M.toldK last g f s.data.toList).2.2.2.toArray⟩]) ∧ Own w.heap.size 3 w' v ((M.toldK last g f s.data.toList).1.map (Value.int .i64)) ∧ Bel w w' := by
  go_enter Tryz.func60, Tryz.ntmps60
  go_wp2_with fail
  go_loopw [9, 10] (fun vo i wr => ∃ (k : Nat) (xs : List Int) (sg : Int) (fr : Bool), k ≤ s.size ∧ i = .int .i64 k ∧ Box wr w.heap.size 92 [.int .i64 sg, .bool fr] ∧ Box wr (w.heap.size + 1) 92 [.int .i64 0, .bool false] ∧ xs.length ≤ k ∧ Hid (M.toldK last g f s.data.toList = (xs ++ (M.toldK last sg fr (s.data.toList.drop k)).1, (M.toldK last sg fr (s.data.toList.drop k)).2)) ∧ Own (w.heap.size + 2) 3 wr vo (xs.map (Value.int .i64)) ∧ Bel w wr) (fun _ i _ => s.size - (intOf i).toNat)
  case atStart =>
    exact ⟨0, [], g, f, by omega, rfl, (Box.new w 92 [.int .i64 g, .bool f]).bel ((Bel.refl _).alloc _), (by have := Box.new (w.alloc (.cells #[.int .i64 g, .bool f] 92)) 92 [.int .i64 0, .bool false]; simpa using this), by simp, Lib.hid (by simp), Own.nil _ _ _, (by repeat (first | exact Bel.refl _ | refine Bel.drewN ?_ _ | refine Bel.drew ?_ | refine Bel.alloc ?_ _ | refine Bel.trans ?_ (by assumption) | refine Bel.setCell ?_ (by simp; omega) _))⟩
  case round =>
    obtain ⟨k, xs, sg, fr, hk, rfl, hB, hR, hle, HT, hown, hb⟩ := hrel
    have c0 := hB.cell 0 _ rfl
    have c1 := hB.cell 1 _ rfl
    have f0 := hB.frozen 0
    have f1 := hB.frozen 1
    have r0 := hR.cell 0 _ rfl
    have r1 := hR.cell 1 _ rfl
    have q0 := hR.frozen 0
    have q1 := hR.frozen 1
    have hsz : w.heap.size + 2 ≤ wr.heap.size := hR.lt
    have HB2 := Lib.hid hB
    have HR2 := Lib.hid hR
    by_cases hlt : k < s.size
    · obtain ⟨c, t, hct⟩ : ∃ c t, s.data.toList.drop k = c :: t := by
        match hq : s.data.toList.drop k with
        | [] => have := congrArg List.length hq; rw [List.length_drop, ← Lib.size_eq] at this; simp at this; omega
        | c :: t => exact ⟨c, t, rfl⟩
      have hck : s.data.toList[k]? = some c := by
        have := List.getElem?_drop (xs := s.data.toList) (i := k) (j := 0); rw [hct] at this; simpa using this.symm
      have hdk : s.data.toList.drop (k + 1) = t := by
        have := List.drop_drop (l := s.data.toList) (i := 1) (j := k); rw [hct] at this; simpa using this.symm
      obtain ⟨k0, h0⟩ := head_at s k c hck
      have hcl := c.toNat_lt
      rcases M.sayK last sg fr c t with ⟨hc, e⟩ | ⟨rfl, k2, x, u, rfl, hk2, hh, e⟩ | ⟨rfl, hw, hh, rfl, e⟩ | ⟨rfl, hh, hw, e⟩
      · have e27 : ((c.toNat : Int) != 27) = true := by
          rw [bne_iff_ne]; intro h; apply hc; apply UInt8.toNat_inj.1; show c.toNat = 27; omega
        have h27 : c.toNat ≠ 27 := by rw [bne_iff_ne] at e27; omega
        obtain ⟨n, hn⟩ : ∃ n, M.signK sg c.toNat = n := ⟨_, rfl⟩
        have HN := Lib.hid hn
        have H27 := Lib.hid h27
        have HW := Lib.hid (show IntKind.i64.wrap (c.toNat : Int) = (c.toNat : Int) by rw [IntKind.wrap_i64]; omega)
        have HF := Lib.hid (show M.toldK last g f s.data.toList = ((xs ++ [n]) ++ (M.toldK last sg false (s.data.toList.drop (k + 1))).1, (M.toldK last sg false (s.data.toList.drop (k + 1))).2) by
          rw [HT.out, hct, e, hdk, hn]; simp)
        clear hct hc hn e hck hdk h27 hB hR
        go_wp2_with fail
        go_region_law ((first | (go_simp; go_at_call 82; rw [HW.out]; refine (kanaSign_to sg c.toNat n HN.out (by omega) H27.out _).mono ?_; rintro e w' ⟨rfl, rfl⟩) | (refine step_app rfl (.tmp 21) (.tmp 29) 31 (by rfl) elemInt (by decide) (w.heap.size + 2) _ _ (.int .i64 n) (by rfl) hown.drew (by rfl) rfl (by simp; omega) hsz ?_; intro v1 w1 hown1 hb1)))
        all_goals
          have hB1 := Box.upto (B := w.heap.size + 2) (w := wr.drew) HB2.out hb1 (by omega)
          have hR1 := Box.upto (B := w.heap.size + 2) (w := wr.drew) HR2.out hb1 (by omega)
          have d0 := hB1.cell 0 _ rfl
          have d1 := hB1.cell 1 _ rfl
          have y1 := hB1.frozen 1
          have hbe : Bel w w1 := Bel.upto (Bel.drew hb) hb1 (by omega)
          go_wp2_with fail
          go_roundw
          case rel => exact ⟨k + 1, xs ++ [n], sg, false, by omega, by go_num, hB1.set 1 _, hR1.far (by simp) _, by rw [List.length_append, List.length_singleton]; omega, HF, by rw [List.map_append]; exact hown1.setCell (p := ⟨w.heap.size, 1, none⟩) (by simp) _, hbe.setCell (p := ⟨w.heap.size, 1, none⟩) (by simp) _⟩
          case measure => simp [intOf]; omega
      · -- an escape
        have hu : s.size = k + (u.length + 3) := by
          have := congrArg List.length hct; rw [List.length_drop, ← Lib.size_eq] at this; simp only [List.length_cons] at this; omega
        have hdk3 : s.data.toList.drop (k + 3) = u := by
          have := List.drop_drop (l := s.data.toList) (i := 3) (j := k); rw [hct] at this; simpa using this.symm
        have HF := Lib.hid (show M.toldK last g f s.data.toList = ((xs ++ if fr = true then [(65533 : Int)] else []) ++ (M.toldK last k2 true (s.data.toList.drop (k + 3))).1, (M.toldK last k2 true (s.data.toList.drop (k + 3))).2) by
          rw [HT.out, hct, e, hdk3, List.append_assoc])
        obtain ⟨L, hL⟩ : ∃ L, s.extract k s.size = L := ⟨_, rfl⟩
        have HL := Lib.hid (show L.data.toList = 27 :: 40 :: x :: u by rw [← hL, drop_str, hct])
        have hLs : L.size = u.length + 3 := by rw [Lib.size_eq, HL.out]; rfl
        obtain ⟨j1, l1⟩ := head_at L 1 40 (by rw [HL.out]; rfl)
        obtain ⟨j2, l2⟩ := head_at L 2 x (by rw [HL.out]; rfl)
        have hx := x.toNat_lt
        have hL3 : 3 ≤ L.size := by omega
        have z1 : (L.toList == [27]) = false := by rw [Lib.toList_data, HL.out]; rfl
        have z2 : (L.toList == [27, 40]) = false := by rw [Lib.toList_data, HL.out]; rfl
        have z3 : ¬ L.toList = [27] := by simpa using z1
        have z4 : ¬ L.toList = [27, 40] := by simpa using z2
        rw [esc_at] at hk2
        have hu3 : k + 3 ≤ s.size := by omega
        clear hct hck hdk hh e hdk3 hB hR hLs hu
        by_cases g1 : (66 : Int) = (x.toNat : Int)
        · have e1 : ((x.toNat : Int) == 66) = true := by rw [beq_iff_eq]; omega
          rw [if_pos g1] at hk2
          injection hk2 with hk2
          subst hk2
          clear g1
          cases fr
          · simp only [Bool.false_eq_true, if_false, List.append_nil] at HF
            cases last
            all_goals
              go_wp2_with fail
              go_roundw
              case rel => exact ⟨k + 3, xs, _, true, by omega, by go_num, (HB2.out.set 0 _).set 1 _, (HR2.out.far (by simp) _).far (by simp) _, by omega, HF, (hown.setCell (p := ⟨w.heap.size, 0, none⟩) (by simp) _).setCell (p := ⟨w.heap.size, 1, none⟩) (by simp) _, (hb.setCell (p := ⟨w.heap.size, 0, none⟩) (by simp) _).setCell (p := ⟨w.heap.size, 1, none⟩) (by simp) _⟩
              case measure => simp [intOf]; omega
          · simp only [if_true] at HF
            cases last
            all_goals
              go_wp2_with (first | ((at_builtin; refine wpList_app rfl (.tmp 76) (.tmp 77) 31 rfl elemInt (by decide) (w.heap.size + 2) _ _ _ rfl rfl hown rfl (by simp; omega) (by first | exact Nat.le_refl _ | assumption | (have := hb.size; omega)) ?_; intro v' w1 hown' hb1); have hB1 := Box.upto (B := w.heap.size + 2) HB2.out hb1 (by omega); have hR1 := Box.upto (B := w.heap.size + 2) HR2.out hb1 (by omega); have d0 := hB1.cell 0 _ rfl; have d1 := hB1.cell 1 _ rfl; have y0 := hB1.frozen 0; have y1 := hB1.frozen 1))
              go_roundw
              case rel => exact ⟨k + 3, xs ++ [65533], _, true, by omega, by go_num, (hB1.set 0 _).set 1 _, (hR1.far (by simp) _).far (by simp) _, by rw [List.length_append, List.length_singleton]; omega, HF, by rw [List.map_append]; exact (hown'.setCell (p := ⟨w.heap.size, 0, none⟩) (by simp) _).setCell (p := ⟨w.heap.size, 1, none⟩) (by simp) _, ((Bel.upto hb hb1 (by omega)).setCell (p := ⟨w.heap.size, 0, none⟩) (by simp) _).setCell (p := ⟨w.heap.size, 1, none⟩) (by simp) _⟩
              case measure => simp [intOf]; omega
        · have e1 : ((x.toNat : Int) == 66) = false := by rw [beq_eq_false_iff_ne]; omega
          rw [if_neg g1] at hk2
          by_cases g2 : (74 : Int) = (x.toNat : Int)
          · have e2 : ((x.toNat : Int) == 74) = true := by rw [beq_iff_eq]; omega
            rw [if_pos g2] at hk2
            injection hk2 with hk2
            subst hk2
            clear g1 g2
            cases fr
            · simp only [Bool.false_eq_true, if_false, List.append_nil] at HF
              cases last
              all_goals
                go_wp2_with fail
                go_roundw
                case rel => exact ⟨k + 3, xs, _, true, by omega, by go_num, (HB2.out.set 0 _).set 1 _, (HR2.out.far (by simp) _).far (by simp) _, by omega, HF, (hown.setCell (p := ⟨w.heap.size, 0, none⟩) (by simp) _).setCell (p := ⟨w.heap.size, 1, none⟩) (by simp) _, (hb.setCell (p := ⟨w.heap.size, 0, none⟩) (by simp) _).setCell (p := ⟨w.heap.size, 1, none⟩) (by simp) _⟩
                case measure => simp [intOf]; omega
            · simp only [if_true] at HF
              cases last
              all_goals
                go_wp2_with (first | ((at_builtin; refine wpList_app rfl (.tmp 76) (.tmp 77) 31 rfl elemInt (by decide) (w.heap.size + 2) _ _ _ rfl rfl hown rfl (by simp; omega) (by first | exact Nat.le_refl _ | assumption | (have := hb.size; omega)) ?_; intro v' w1 hown' hb1); have hB1 := Box.upto (B := w.heap.size + 2) HB2.out hb1 (by omega); have hR1 := Box.upto (B := w.heap.size + 2) HR2.out hb1 (by omega); have d0 := hB1.cell 0 _ rfl; have d1 := hB1.cell 1 _ rfl; have y0 := hB1.frozen 0; have y1 := hB1.frozen 1))
                go_roundw
                case rel => exact ⟨k + 3, xs ++ [65533], _, true, by omega, by go_num, (hB1.set 0 _).set 1 _, (hR1.far (by simp) _).far (by simp) _, by rw [List.length_append, List.length_singleton]; omega, HF, by rw [List.map_append]; exact (hown'.setCell (p := ⟨w.heap.size, 0, none⟩) (by simp) _).setCell (p := ⟨w.heap.size, 1, none⟩) (by simp) _, ((Bel.upto hb hb1 (by omega)).setCell (p := ⟨w.heap.size, 0, none⟩) (by simp) _).setCell (p := ⟨w.heap.size, 1, none⟩) (by simp) _⟩
                case measure => simp [intOf]; omega
          · have e2 : ((x.toNat : Int) == 74) = false := by rw [beq_eq_false_iff_ne]; omega
            rw [if_neg g2] at hk2
            by_cases g3 : (73 : Int) = (x.toNat : Int)
            · have e3 : ((x.toNat : Int) == 73) = true := by rw [beq_iff_eq]; omega
              rw [if_pos g3] at hk2
              injection hk2 with hk2
              subst hk2
              clear g1 g2 g3
              cases fr
              · simp only [Bool.false_eq_true, if_false, List.append_nil] at HF
                cases last
                all_goals
                  go_wp2_with fail
                  go_roundw
                  case rel => exact ⟨k + 3, xs, _, true, by omega, by go_num, (HB2.out.set 0 _).set 1 _, (HR2.out.far (by simp) _).far (by simp) _, by omega, HF, (hown.setCell (p := ⟨w.heap.size, 0, none⟩) (by simp) _).setCell (p := ⟨w.heap.size, 1, none⟩) (by simp) _, (hb.setCell (p := ⟨w.heap.size, 0, none⟩) (by simp) _).setCell (p := ⟨w.heap.size, 1, none⟩) (by simp) _⟩
                  case measure => simp [intOf]; omega
              · simp only [if_true] at HF
                cases last
                all_goals
                  go_wp2_with (first | ((at_builtin; refine wpList_app rfl (.tmp 76) (.tmp 77) 31 rfl elemInt (by decide) (w.heap.size + 2) _ _ _ rfl rfl hown rfl (by simp; omega) (by first | exact Nat.le_refl _ | assumption | (have := hb.size; omega)) ?_; intro v' w1 hown' hb1); have hB1 := Box.upto (B := w.heap.size + 2) HB2.out hb1 (by omega); have hR1 := Box.upto (B := w.heap.size + 2) HR2.out hb1 (by omega); have d0 := hB1.cell 0 _ rfl; have d1 := hB1.cell 1 _ rfl; have y0 := hB1.frozen 0; have y1 := hB1.frozen 1))
                  go_roundw
                  case rel => exact ⟨k + 3, xs ++ [65533], _, true, by omega, by go_num, (hB1.set 0 _).set 1 _, (hR1.far (by simp) _).far (by simp) _, by rw [List.length_append, List.length_singleton]; omega, HF, by rw [List.map_append]; exact (hown'.setCell (p := ⟨w.heap.size, 0, none⟩) (by simp) _).setCell (p := ⟨w.heap.size, 1, none⟩) (by simp) _, ((Bel.upto hb hb1 (by omega)).setCell (p := ⟨w.heap.size, 0, none⟩) (by simp) _).setCell (p := ⟨w.heap.size, 1, none⟩) (by simp) _⟩
                  case measure => simp [intOf]; omega
            · rw [if_neg g3] at hk2; cases hk2
      · -- more must come
        have HF := Lib.hid (show M.toldK false g f s.data.toList = (xs, sg, fr, 27 :: t) by
          rw [HT.out, hct, e]; simp)
        obtain ⟨L, hL⟩ : ∃ L, s.extract k s.size = L := ⟨_, rfl⟩
        have HL := Lib.hid (show L.data.toList = 27 :: t by rw [← hL, drop_str, hct])
        have z : ((L.toList == [27]) || (L.toList == [27, 40])) = true := by
          rw [Lib.toList_data, HL.out]
          simp only [M.waitK, decide_eq_true_eq] at hw
          rcases hw with rfl | rfl <;> rfl
        have z0 : (L.toList == [27]) = true ∨ (L.toList == [27, 40]) = true := by simpa using z
        clear hct hck hdk hw hh e hB hR z
        rcases z0 with z1 | z1
        all_goals
          have z3 := z1
          rw [beq_iff_eq] at z3
          try have z2 : (L.toList == [27]) = false := by rw [z3]; rfl
          go_wp2_with fail
          go_region
          go_wp2_with fail
          have d0 : ((wr.setCell ⟨w.heap.size + 1, 0, none⟩ (.int .i64 sg)).setCell ⟨w.heap.size + 1, 1, none⟩ (.bool fr)).drew.cell? ⟨w.heap.size + 1, 0, none⟩ = some (.int .i64 sg) := ((HR2.out.set 0 _).set 1 _).cell 0 _ rfl
          have d1 : ((wr.setCell ⟨w.heap.size + 1, 0, none⟩ (.int .i64 sg)).setCell ⟨w.heap.size + 1, 1, none⟩ (.bool fr)).drew.cell? ⟨w.heap.size + 1, 1, none⟩ = some (.bool fr) := ((HR2.out.set 0 _).set 1 _).cell 1 _ rfl
          refine bodyPost_ret (v := .tuple #[u9, .agg #[.int .i64 sg, .bool fr], .string L]) (by simp [results, Tryz.results60, go_sem, d0, d1]) rfl ?_
          rw [HF.out]
          exact ⟨_, by rw [← HL.out, str_eq], (((hown.setCell (p := ⟨w.heap.size + 1, 0, none⟩) (by simp) _).setCell (p := ⟨w.heap.size + 1, 1, none⟩) (by simp) _).mono (by omega)).drew, ((hb.setCell (p := ⟨w.heap.size + 1, 0, none⟩) (by simp) _).setCell (p := ⟨w.heap.size + 1, 1, none⟩) (by simp) _).drew⟩
      · -- no escape
        have hu : s.size = k + (t.length + 1) := by
          have := congrArg List.length hct; rw [List.length_drop, ← Lib.size_eq] at this; simp only [List.length_cons] at this; omega
        have HF := Lib.hid (show M.toldK last g f s.data.toList = ((xs ++ [65533]) ++ (M.toldK last sg false (s.data.toList.drop (k + 1))).1, (M.toldK last sg false (s.data.toList.drop (k + 1))).2) by
          rw [HT.out, hct, e, hdk]; simp)
        obtain ⟨L, hL⟩ : ∃ L, s.extract k s.size = L := ⟨_, rfl⟩
        have HL := Lib.hid (show L.data.toList = 27 :: t by rw [← hL, drop_str, hct])
        have hLs : L.size = t.length + 1 := by rw [Lib.size_eq, HL.out]; rfl
        have z0 : last = true ∨ ((L.toList == [27]) = false ∧ (L.toList == [27, 40]) = false) := by
          rcases hw with hw | hw
          · right
            rw [Lib.toList_data, HL.out]
            simp only [M.waitK, decide_eq_false_iff_not, not_or] at hw
            constructor
            · rw [beq_eq_false_iff_ne]; intro h9; injection h9 with _ h9; exact hw.1 h9
            · rw [beq_eq_false_iff_ne]; intro h9; injection h9 with _ h9; exact hw.2 h9
          · exact .inl hw
        by_cases hl3 : L.size < 3
        · clear hct hck hdk hw hh e hB hR hLs hu
          cases last
          · rcases z0 with z0 | ⟨z1, z2⟩
            · cases z0
            · have z3 : ¬ L.toList = [27] := by simpa using z1
              have z4 : ¬ L.toList = [27, 40] := by simpa using z2
              go_wp2_with (first | ((at_builtin; refine wpList_app rfl (.tmp 68) (.tmp 69) 31 rfl elemInt (by decide) (w.heap.size + 2) _ _ _ rfl rfl hown rfl (by simp; omega) (by first | exact Nat.le_refl _ | assumption | (have := hb.size; omega)) ?_; intro v' w1 hown' hb1); have hB1 := Box.upto (B := w.heap.size + 2) HB2.out hb1 (by omega); have hR1 := Box.upto (B := w.heap.size + 2) HR2.out hb1 (by omega); have d0 := hB1.cell 0 _ rfl; have d1 := hB1.cell 1 _ rfl; have y0 := hB1.frozen 0; have y1 := hB1.frozen 1))
              go_roundw
              case rel => exact ⟨k + 1, xs ++ [65533], sg, false, by omega, by go_num, hB1.set 1 _, hR1.far (by simp) _, by rw [List.length_append, List.length_singleton]; omega, HF, by rw [List.map_append]; exact hown'.setCell (p := ⟨w.heap.size, 1, none⟩) (by simp) _, (Bel.upto hb hb1 (by omega)).setCell (p := ⟨w.heap.size, 1, none⟩) (by simp) _⟩
              case measure => simp [intOf]; omega
          · clear z0
            go_wp2_with (first | ((at_builtin; refine wpList_app rfl (.tmp 68) (.tmp 69) 31 rfl elemInt (by decide) (w.heap.size + 2) _ _ _ rfl rfl hown rfl (by simp; omega) (by first | exact Nat.le_refl _ | assumption | (have := hb.size; omega)) ?_; intro v' w1 hown' hb1); have hB1 := Box.upto (B := w.heap.size + 2) HB2.out hb1 (by omega); have hR1 := Box.upto (B := w.heap.size + 2) HR2.out hb1 (by omega); have d0 := hB1.cell 0 _ rfl; have d1 := hB1.cell 1 _ rfl; have y0 := hB1.frozen 0; have y1 := hB1.frozen 1))
            go_roundw
            case rel => exact ⟨k + 1, xs ++ [65533], sg, false, by omega, by go_num, hB1.set 1 _, hR1.far (by simp) _, by rw [List.length_append, List.length_singleton]; omega, HF, by rw [List.map_append]; exact hown'.setCell (p := ⟨w.heap.size, 1, none⟩) (by simp) _, (Bel.upto hb hb1 (by omega)).setCell (p := ⟨w.heap.size, 1, none⟩) (by simp) _⟩
            case measure => simp [intOf]; omega
        · obtain ⟨d, x, u, rfl⟩ : ∃ d x u, t = d :: x :: u := by
            match t with
            | [] => simp at hLs; omega
            | [d] => simp at hLs; omega
            | d :: x :: u => exact ⟨d, x, u, rfl⟩
          obtain ⟨j1, l1⟩ := head_at L 1 d (by rw [HL.out]; rfl)
          obtain ⟨j2, l2⟩ := head_at L 2 x (by rw [HL.out]; rfl)
          have hL3 : 3 ≤ L.size := by omega
          have hx := x.toNat_lt
          by_cases hd : d = 40
          · subst hd
            rw [M.headK, if_pos rfl, esc_at] at hh
            have g1 : ¬ (66 : Int) = (x.toNat : Int) := fun h9 => by rw [if_pos h9] at hh; cases hh
            have g2 : ¬ (74 : Int) = (x.toNat : Int) := fun h9 => by rw [if_neg g1, if_pos h9] at hh; cases hh
            have g3 : ¬ (73 : Int) = (x.toNat : Int) := fun h9 => by rw [if_neg g1, if_neg g2, if_pos h9] at hh; cases hh
            have e1 : ((x.toNat : Int) == 66) = false := by rw [beq_eq_false_iff_ne]; omega
            have e2 : ((x.toNat : Int) == 74) = false := by rw [beq_eq_false_iff_ne]; omega
            have e3 : ((x.toNat : Int) == 73) = false := by rw [beq_eq_false_iff_ne]; omega
            clear hct hck hdk hw hh e hB hR hLs hu hl3 g1 g2 g3
            cases last
            · rcases z0 with z0 | ⟨z1, z2⟩
              · cases z0
              · have z3 : ¬ L.toList = [27] := by simpa using z1
                have z4 : ¬ L.toList = [27, 40] := by simpa using z2
                go_wp2_with (first | ((at_builtin; refine wpList_app rfl (.tmp 68) (.tmp 69) 31 rfl elemInt (by decide) (w.heap.size + 2) _ _ _ rfl rfl hown rfl (by simp; omega) (by first | exact Nat.le_refl _ | assumption | (have := hb.size; omega)) ?_; intro v' w1 hown' hb1); have hB1 := Box.upto (B := w.heap.size + 2) HB2.out hb1 (by omega); have hR1 := Box.upto (B := w.heap.size + 2) HR2.out hb1 (by omega); have d0 := hB1.cell 0 _ rfl; have d1 := hB1.cell 1 _ rfl; have y0 := hB1.frozen 0; have y1 := hB1.frozen 1))
                go_roundw
                case rel => exact ⟨k + 1, xs ++ [65533], sg, false, by omega, by go_num, hB1.set 1 _, hR1.far (by simp) _, by rw [List.length_append, List.length_singleton]; omega, HF, by rw [List.map_append]; exact hown'.setCell (p := ⟨w.heap.size, 1, none⟩) (by simp) _, (Bel.upto hb hb1 (by omega)).setCell (p := ⟨w.heap.size, 1, none⟩) (by simp) _⟩
                case measure => simp [intOf]; omega
            · clear z0
              go_wp2_with (first | ((at_builtin; refine wpList_app rfl (.tmp 68) (.tmp 69) 31 rfl elemInt (by decide) (w.heap.size + 2) _ _ _ rfl rfl hown rfl (by simp; omega) (by first | exact Nat.le_refl _ | assumption | (have := hb.size; omega)) ?_; intro v' w1 hown' hb1); have hB1 := Box.upto (B := w.heap.size + 2) HB2.out hb1 (by omega); have hR1 := Box.upto (B := w.heap.size + 2) HR2.out hb1 (by omega); have d0 := hB1.cell 0 _ rfl; have d1 := hB1.cell 1 _ rfl; have y0 := hB1.frozen 0; have y1 := hB1.frozen 1))
              go_roundw
              case rel => exact ⟨k + 1, xs ++ [65533], sg, false, by omega, by go_num, hB1.set 1 _, hR1.far (by simp) _, by rw [List.length_append, List.length_singleton]; omega, HF, by rw [List.map_append]; exact hown'.setCell (p := ⟨w.heap.size, 1, none⟩) (by simp) _, (Bel.upto hb hb1 (by omega)).setCell (p := ⟨w.heap.size, 1, none⟩) (by simp) _⟩
              case measure => simp [intOf]; omega
          · have e1 : ((d.toNat : Int) == 40) = false := by
              rw [beq_eq_false_iff_ne]; intro h9; apply hd; apply UInt8.toNat_inj.1; show d.toNat = 40; omega
            clear hct hck hdk hw hh e hB hR hLs hu hl3 hd
            cases last
            · rcases z0 with z0 | ⟨z1, z2⟩
              · cases z0
              · have z3 : ¬ L.toList = [27] := by simpa using z1
                have z4 : ¬ L.toList = [27, 40] := by simpa using z2
                go_wp2_with (first | ((at_builtin; refine wpList_app rfl (.tmp 68) (.tmp 69) 31 rfl elemInt (by decide) (w.heap.size + 2) _ _ _ rfl rfl hown rfl (by simp; omega) (by first | exact Nat.le_refl _ | assumption | (have := hb.size; omega)) ?_; intro v' w1 hown' hb1); have hB1 := Box.upto (B := w.heap.size + 2) HB2.out hb1 (by omega); have hR1 := Box.upto (B := w.heap.size + 2) HR2.out hb1 (by omega); have d0 := hB1.cell 0 _ rfl; have d1 := hB1.cell 1 _ rfl; have y0 := hB1.frozen 0; have y1 := hB1.frozen 1))
                go_roundw
                case rel => exact ⟨k + 1, xs ++ [65533], sg, false, by omega, by go_num, hB1.set 1 _, hR1.far (by simp) _, by rw [List.length_append, List.length_singleton]; omega, HF, by rw [List.map_append]; exact hown'.setCell (p := ⟨w.heap.size, 1, none⟩) (by simp) _, (Bel.upto hb hb1 (by omega)).setCell (p := ⟨w.heap.size, 1, none⟩) (by simp) _⟩
                case measure => simp [intOf]; omega
            · clear z0
              go_wp2_with (first | ((at_builtin; refine wpList_app rfl (.tmp 68) (.tmp 69) 31 rfl elemInt (by decide) (w.heap.size + 2) _ _ _ rfl rfl hown rfl (by simp; omega) (by first | exact Nat.le_refl _ | assumption | (have := hb.size; omega)) ?_; intro v' w1 hown' hb1); have hB1 := Box.upto (B := w.heap.size + 2) HB2.out hb1 (by omega); have hR1 := Box.upto (B := w.heap.size + 2) HR2.out hb1 (by omega); have d0 := hB1.cell 0 _ rfl; have d1 := hB1.cell 1 _ rfl; have y0 := hB1.frozen 0; have y1 := hB1.frozen 1))
              go_roundw
              case rel => exact ⟨k + 1, xs ++ [65533], sg, false, by omega, by go_num, hB1.set 1 _, hR1.far (by simp) _, by rw [List.length_append, List.length_singleton]; omega, HF, by rw [List.map_append]; exact hown'.setCell (p := ⟨w.heap.size, 1, none⟩) (by simp) _, (Bel.upto hb hb1 (by omega)).setCell (p := ⟨w.heap.size, 1, none⟩) (by simp) _⟩
              case measure => simp [intOf]; omega
    · obtain rfl : k = s.size := by omega
      have HF := Lib.hid (show M.toldK last g f s.data.toList = (xs, sg, fr, []) by
        rw [HT.out, List.drop_of_length_le (by rw [← Lib.size_eq]; exact Nat.le_refl _), M.toldK_nil]; simp)
      clear hB hR
      go_wp2_with fail
      go_region
      go_wp2_with fail
      have d0 : ((wr.setCell ⟨w.heap.size + 1, 0, none⟩ (.int .i64 sg)).setCell ⟨w.heap.size + 1, 1, none⟩ (.bool fr)).drew.cell? ⟨w.heap.size + 1, 0, none⟩ = some (.int .i64 sg) := ((HR2.out.set 0 _).set 1 _).cell 0 _ rfl
      have d1 : ((wr.setCell ⟨w.heap.size + 1, 0, none⟩ (.int .i64 sg)).setCell ⟨w.heap.size + 1, 1, none⟩ (.bool fr)).drew.cell? ⟨w.heap.size + 1, 1, none⟩ = some (.bool fr) := ((HR2.out.set 0 _).set 1 _).cell 1 _ rfl
      refine bodyPost_ret (v := .tuple #[u9, .agg #[.int .i64 sg, .bool fr], .string ⟨#[]⟩]) (by simp [results, Tryz.results60, go_sem, d0, d1]) rfl ?_
      rw [HF.out]
      exact ⟨_, rfl, (((hown.setCell (p := ⟨w.heap.size + 1, 0, none⟩) (by simp) _).setCell (p := ⟨w.heap.size + 1, 1, none⟩) (by simp) _).mono (by omega)).drew, ((hb.setCell (p := ⟨w.heap.size + 1, 0, none⟩) (by simp) _).setCell (p := ⟨w.heap.size + 1, 1, none⟩) (by simp) _).drew⟩
end Go.Proofs.YtcgdecpjlggekaaGreatDoor

/-
  Package single: what Raw and Encode compute: the map from code points to bytes.
-/
namespace Go.Proofs.YtcgdecpjlggekaaGreatDoor
open Go.RowKit Go.Maps

theorem lawInt : Keyed Tryz.prog 3 := int_keyed Tryz.underlying3
theorem zeroInt (w : World) : (zeroValue 3).run Tryz.prog w = .ok (.int .i64 0) w := by kernel_rfl
theorem ownsMap_keep {w w' : World} {b n : Nat} {D : DataW Unit} (h : w.ownsMap Tryz.prog 3 (plainElem Tryz.prog 3) b n D) (hk : w'.heap[b]? = w.heap[b]?) : w'.ownsMap Tryz.prog 3 (plainElem Tryz.prog 3) b n D := by
  obtain ⟨es, c, h1, h2⟩ := h
  exact ⟨es, c, hk.trans h1, h2⟩
theorem pointOf_bounds (user : Bool) (k : Nat) (hk : k < 256) : 0 ≤ M.pointOf user k ∧ M.pointOf user k ≤ 65535 := by
  unfold M.pointOf
  split
  · omega
  · split
    · omega
    · split
      · have : ∀ j, j < 32 → 0 ≤ M.high[j]?.getD 0 ∧ M.high[j]?.getD 0 ≤ 65535 := by decide
        exact this _ (by omega)
      · omega

theorem cells_bel {w w' : World} {a : Option Addr} {xs : List Int} (h : ∀ x, a = some x → ∀ i n, xs[i]? = some n → w.cell? (x.add i) = some (.int .i64 n)) (hb : Bel w w') : ∀ x, a = some x → ∀ i n, xs[i]? = some n → w'.cell? (x.add i) = some (.int .i64 n) := by
  intro x hx i n hn
  have := h x hx i n hn
  exact (hb.cell (World.block_lt_of_cell? w _ this)).trans this
theorem grown_trans {a b c : World} {row : Option Nat} (h : a.grownBy b row) (k : b.grownBy c row) : a.grownBy c row :=
  ⟨k.os.trans h.os, k.tape.trans h.tape, k.output.trans h.output, Nat.le_trans h.size k.size, fun i hi hne => (k.block i (Nat.lt_of_lt_of_le hi h.size) hne).trans (h.block i hi hne)⟩

/-- 'v, ok := m[k]' where both are known. -/
theorem wpList_look {P : Program} {w : World} {ops : Array Oper} {rest : List Oper} {o : Oper} {a : Act} {Q : Exit → Act → World → Prop} (hg : o.guard = none) (m x : Operand) (t : TypeId) (hop : o.op = Op.lookup t m x true)
    (k e : TypeId) (K : Keyed P k) (ht : P.underlying t = some (.map k e)) (he : P.underlying e = some (.int .i64)) (hz : (zeroValue e).run P w = .ok (.int .i64 0) w) (b n : Nat) (D : DataW Unit)
    (hm : a.eval m = .map (some b)) (hown : w.ownsMap P k (plainElem P e) b n D) (key : Value) (kl : Lit) (hx : a.eval x = key) (hkey : keyOf P k key = some kl)
    (c0 : Int) (hc : D.atKey kl (.lit (.int .i64 0)) = .lit (.int .i64 c0)) (bo : Bool) (hb : Maps.has D kl = bo)
    (h : wpList P ops Q rest (a.put o.dst (.tuple #[.int .i64 c0, .bool bo])) w) : wpList P ops Q (o :: rest) a w := by
  refine wpList_lookup_own_ok_int w hg m x t hop k e .i64 K ht he hz b n D hm hown key kl hx hkey (fun c hat _ => ?_)
  rw [hc] at hat
  injection hat with hat
  injection hat with _ hat
  rw [← hat, hb]
  exact h

end Go.Proofs.YtcgdecpjlggekaaGreatDoor

/-
  The document's answers on encodings of a byte a sign.
-/
namespace Go.Proofs.YtcgdecpjlggekaaGreatDoor
open Go.RowKit

set_option maxRecDepth 100000 in
theorem pointOf_any (user : Bool) (n : Int) (w : World) (h0 : 0 ≤ n) (h1 : n < 256) : Calls Tryz.prog 81 #[.bool user, .int .i64 n] w fun e w' => e = .returned (.int .i64 (M.pointOf user n.toNat)) ∧ Bel w w' := by
  obtain ⟨k, rfl⟩ := Int.eq_ofNat_of_zero_le h0
  rw [Int.toNat_natCast]
  have hk : k < 256 := by omega
  by_cases g1 : k < 128
  · have HP := Lib.hid (show M.pointOf user k = (k : Int) by rw [M.pointOf, if_pos g1])
    go_enter Tryz.func81, Tryz.ntmps81
    go_wp2_with fail
    go_ret
    rw [HP.out]
    exact ⟨rfl, Bel.refl _⟩
  · cases user
    · by_cases g2 : k < 160
      · have HP := Lib.hid (show M.pointOf false k = M.high[k - 128]?.getD 0 by rw [M.pointOf, if_neg g1, if_neg (by simp), if_pos g2])
        go_enter Tryz.func81, Tryz.ntmps81
        go_wp2_with (first | (go_at_call 97; refine (high_any _).mono ?_; rintro e w' ⟨rfl, hc, hb2⟩; have hc' := hc (k - 128) (by omega)))
        go_ret
        rw [HP.out]
        exact ⟨rfl, by assumption⟩
      · have HP := Lib.hid (show M.pointOf false k = (k : Int) by rw [M.pointOf, if_neg g1, if_neg (by simp), if_neg g2])
        go_enter Tryz.func81, Tryz.ntmps81
        go_wp2_with fail
        go_ret
        rw [HP.out]
        exact ⟨rfl, Bel.refl _⟩
    · have HP := Lib.hid (show M.pointOf true k = 63232 + (k : Int) by rw [M.pointOf, if_neg g1, if_pos rfl])
      go_enter Tryz.func81, Tryz.ntmps81
      go_wp2_with fail
      go_ret
      rw [HP.out]
      exact ⟨rfl, Bel.refl _⟩
set_option maxRecDepth 100000 in
theorem decodeSingle_any (user : Bool) (s : ByteArray) (w : World) (hs : s.size ≤ 68719476735) : Calls Tryz.prog 59 #[.bool user, .string s] w fun e w' => ∃ v, e = .returned v ∧ Own w.heap.size 3 w' v ((M.decodeS user s.data.toList).map (Value.int .i64)) ∧ Bel w w' := by
  go_enter Tryz.func59, Tryz.ntmps59
  go_wp2_with fail
  go_loopw [5, 6] (fun v i wr => ∃ k : Nat, k ≤ s.size ∧ i = .int .i64 k ∧ Own w.heap.size 3 wr v (((M.decodeS user s.data.toList).take k).map (Value.int .i64)) ∧ Bel w wr) (fun _ i _ => s.size - (intOf i).toNat)
  case atStart => exact ⟨0, by omega, rfl, Own.nil _ _ _, Bel.refl _⟩
  case round =>
    obtain ⟨k, hk, rfl, hown, hb⟩ := hrel
    by_cases hlt : k < s.size
    · have HT := Lib.hid (take_snoc (Value.int .i64) (M.decodeS user s.data.toList) k (M.pointOf user s[k].toNat) (by rw [M.decodeS, List.getElem?_map, byte_at s k hlt]; rfl))
      have hlen : ((M.decodeS user s.data.toList).take k).length ≤ k := List.length_take_le _ _
      have hcl : s[k].toNat < 256 := s[k].toNat_lt
      go_wp2_with (first | (go_at_call 81; refine (pointOf_any _ _ _ (by omega) (by omega)).mono ?_; rintro e w' ⟨rfl, hb2⟩; rw [Int.toNat_natCast]; have hown2 := hown.bel hb2; have hb3 : Bel w _ := hb.trans hb2; have hB := hb3.size) | (at_builtin; refine wpList_app rfl (.tmp 13) (.tmp 20) 31 rfl elemInt (by decide) w.heap.size _ _ _ rfl rfl hown2 rfl (by simp; omega) (by first | exact Nat.le_refl _ | assumption | (have := hb.size; omega)) ?_; intro v' w1 hown' hb1))
      go_roundw
      case rel =>
        have HO : Own w.heap.size 3 w1 v' (((M.decodeS user s.data.toList).take (k + 1)).map (Value.int .i64)) := by rw [HT.out]; exact hown'
        have HB : Bel w w1 := hb3.upto hb1 (Nat.le_refl _)
        first | exact ⟨k + 1, by omega, by go_num, HO, HB⟩ | ((repeat apply Exists.intro); exact ⟨⟨k + 1, by omega, by go_num, HO, HB⟩, rfl⟩)
      case measure => simp [intOf]; omega
    · obtain rfl : k = s.size := by omega
      have HT := Lib.hid (show (M.decodeS user s.data.toList).take s.size = M.decodeS user s.data.toList by rw [List.take_of_length_le (by rw [M.decodeS, List.length_map, ← Lib.size_eq]; exact Nat.le_refl _)])
      go_wp2_with fail
      go_ret
      exact ⟨_, rfl, by rw [← HT.out]; exact hown, hb⟩
end Go.Proofs.YtcgdecpjlggekaaGreatDoor

/-
  The document's answers on UTF-8: isBegun.
-/
namespace Go.Proofs.YtcgdecpjlggekaaGreatDoor
open Go.RowKit
set_option maxRecDepth 1000000

theorem int_eq {a b : Int} (h : a = b) : Value.int .i64 a = .int .i64 b := by rw [h]
theorem isBegun_low (s : ByteArray) (c : UInt8) (p : List UInt8) (hs : s.data.toList = c :: p) (h : c.toNat < 128) (w : World) : Calls Tryz.prog 46 #[.string s] w fun e w' => e = .returned (.tuple #[.int .i64 1, .bool (decide (p.length = 0))]) ∧ w = w' := by
  have hsz : s.size = p.length + 1 := by rw [Lib.size_eq, hs]; rfl
  have hpos : 0 < s.size := by omega
  have hc : s[0].toNat = c.toNat := by
    have := byte_at s 0 hpos
    rw [hs] at this
    injection this with this
    rw [← this]
  generalize c.toNat = n at h hc
  have e1 : ((s.size : Int) == 1) = decide (p.length = 0) := by
    rw [Bool.eq_iff_iff, beq_iff_eq, decide_eq_true_eq]; omega
  generalize decide (p.length = 0) = B at e1
  clear hsz hs
  go_enter Tryz.func46, Tryz.ntmps46
  go_wp2_with fail
  go_ret2
  exact ⟨rfl, rfl⟩
theorem isBegun_none (s : ByteArray) (c : UInt8) (p : List UInt8) (hs : s.data.toList = c :: p) (h : 128 ≤ c.toNat) (hm : M.len8 c.toNat = 0) (w : World) : Calls Tryz.prog 46 #[.string s] w fun e w' => e = .returned (.tuple #[.int .i64 0, .bool false]) ∧ w = w' := by
  have hsz : s.size = p.length + 1 := by rw [Lib.size_eq, hs]; rfl
  have hpos : 0 < s.size := by omega
  have hc : s[0].toNat = c.toNat := by
    have := byte_at s 0 hpos
    rw [hs] at this
    injection this with this
    rw [← this]
  have hcl := c.toNat_lt
  have e1 : decide (194 ≤ (c.toNat : Int) ∧ (c.toNat : Int) ≤ 223) = false := by unfold M.len8 at hm; rw [decide_eq_false_iff_not]; (repeat' split at hm) <;> omega
  have e2 : decide (224 ≤ (c.toNat : Int) ∧ (c.toNat : Int) ≤ 239) = false := by unfold M.len8 at hm; rw [decide_eq_false_iff_not]; (repeat' split at hm) <;> omega
  have e3 : decide (240 ≤ (c.toNat : Int) ∧ (c.toNat : Int) ≤ 244) = false := by unfold M.len8 at hm; rw [decide_eq_false_iff_not]; (repeat' split at hm) <;> omega
  clear hm hsz hs
  generalize c.toNat = n at h hc e1 e2 e3 hcl
  go_enter Tryz.func46, Tryz.ntmps46
  go_wp2_with (go_at_call 24; refine (between_any _ _ _ _).mono ?_; rintro e w' ⟨rfl, rfl⟩)
  go_ret2
  exact ⟨rfl, rfl⟩
set_option maxHeartbeats 4000000 in
theorem isBegun_2 (s : ByteArray) (c : UInt8) (p : List UInt8) (hs : s.data.toList = c :: p) (hm : M.len8 c.toNat = 2) (w : World) : Calls Tryz.prog 46 #[.string s] w fun e w' => ∃ a : Int, e = .returned (.tuple #[.int .i64 a, .bool (M.ok8 c p)]) ∧ (M.ok8 c p = true → a = (M.len8 c.toNat : Int)) ∧ Bel w w' := by
  have hge : 194 ≤ c.toNat ∧ c.toNat ≤ 223 := by unfold M.len8 at hm; (repeat' split at hm) <;> omega
  have e1 : decide (194 ≤ (c.toNat : Int) ∧ (c.toNat : Int) ≤ 223) = true := by rw [decide_eq_true_eq]; omega
  have e2 : True := trivial
  have e3 : True := trivial
  have hsz : s.size = p.length + 1 := by rw [Lib.size_eq, hs]; rfl
  have hpos : 0 < s.size := by omega
  have hc : s[0].toNat = c.toNat := by
    have := byte_at s 0 hpos
    rw [hs] at this
    injection this with this
    rw [← this]
  have hat : ∀ j (hj : j + 1 < s.size), p[j]? = some s[j + 1] := fun j hj => by
    have := byte_at s (j + 1) hj
    rw [hs] at this
    simpa using this
  have hcl := c.toNat_lt
  have HM := Lib.hid hm
  have hne : M.len8 c.toNat ≠ 0 := by rw [hm]; decide
  by_cases hlong : M.len8 c.toNat < p.length + 1
  · have H := Lib.hid (M.ok8_long c p hne hlong)
    have hsz2 : 2 < s.size := by rw [hm] at hlong; omega
    clear hm hne hlong hsz hs hat
    generalize c.toNat = n at hc hcl e1 e2 e3 hge
    go_enter Tryz.func46, Tryz.ntmps46
    go_wp2_with (go_at_call 24; refine (between_any _ _ _ _).mono ?_; rintro e w' ⟨rfl, rfl⟩)
    go_ret2
    rw [H.out]
    exact ⟨_, rfl, fun hh => (by cases hh), Bel.refl _⟩
  · have hsz2 : s.size ≤ 2 := by rw [hm] at hlong; omega
    have hsz3 : p.length ≤ 3 := by omega
    have Hs := Lib.hid hsz
    have Hat := Lib.hid hat
    have Hlong := Lib.hid hlong
    clear hm hlong hsz hs hat
    obtain ⟨n, hn⟩ : ∃ n, n = c.toNat := ⟨_, rfl⟩
    have Hn := Lib.hid hn
    rw [← hn] at hc hcl hge
    try rw [← hn] at e1
    try rw [← hn] at e2
    try rw [← hn] at e3
    clear hn
    go_enter Tryz.func46, Tryz.ntmps46
    go_wp2_with (go_at_call 24; refine (between_any _ _ _ _).mono ?_; rintro e w' ⟨rfl, rfl⟩)
    go_loop [6] (fun i => ∃ k : Nat, 1 ≤ k ∧ k ≤ s.size ∧ i = .int .i64 k ∧ Hid ((p.take (k - 1)).all M.cont8 = true)) (fun i => s.size - (intOf i).toNat)
    case atStart => exact ⟨1, by omega, by omega, rfl, Lib.hid rfl⟩
    case round =>
      obtain ⟨k, hk1, hk, rfl, hno⟩ := hrel
      by_cases hlt : k < s.size
      · have hbl := s[k].toNat_lt
        have hj : p[k - 1]? = some s[k] := by
          have := Hat.out (k - 1) (by omega)
          simpa [Nat.sub_add_cancel hk1] using this
        cases hcb : M.cont8 s[k] with
        | false =>
          have H := Lib.hid (M.ok8_cont c p (by rw [List.all_eq_false]; exact ⟨_, List.mem_of_getElem? hj, by rw [hcb]; decide⟩))
          have e4 : decide (128 ≤ (s[k].toNat : Int) ∧ (s[k].toNat : Int) ≤ 191) = false := by
            rw [decide_eq_false_iff_not]; intro hh
            have : M.cont8 s[k] = true := by simp only [M.cont8, decide_eq_true_eq]; omega
            rw [hcb] at this; cases this
          clear hj hcb
          go_wp2_with (go_at_call 24; refine (between_any _ _ _ _).mono ?_; rintro e w' ⟨rfl, rfl⟩)
          go_ret2
          rw [H.out]
          exact ⟨_, rfl, fun hh => (by cases hh), Bel.refl _⟩
        | true =>
          have HN := Lib.hid (show (p.take (k + 1 - 1)).all M.cont8 = true by
            rw [show k + 1 - 1 = (k - 1) + 1 by omega, List.take_add_one, hj, List.all_append, hno.out]; simp [hcb])
          have e4 : decide (128 ≤ (s[k].toNat : Int) ∧ (s[k].toNat : Int) ≤ 191) = true := by
            rw [decide_eq_true_eq]
            simp only [M.cont8, decide_eq_true_eq] at hcb
            omega
          clear hj hcb
          go_wp2_with (go_at_call 24; refine (between_any _ _ _ _).mono ?_; rintro e w' ⟨rfl, rfl⟩)
          go_round
          case rel => exact ⟨k + 1, by omega, by omega, by go_num, HN⟩
          case measure => simp [intOf]; omega
      · obtain rfl : k = s.size := by omega
        have hcont : p.all M.cont8 = true := by
          have := hno.out
          rwa [List.take_of_length_le (by have := Hs.out; omega)] at this
        have Hcont := Lib.hid hcont
        clear hno hcont
        by_cases hone : s.size = 1
        · have H := Lib.hid (show M.ok8 c p = true by
            have : p = [] := List.eq_nil_of_length_eq_zero (by have := Hs.out; omega)
            rw [this]; exact M.ok8_one c hne)
          have e5 : ((s.size : Int) == 1) = true := by rw [hone]; rfl
          have hone1 : s.size ≤ 1 := by omega
          clear hone
          go_wp2_with fail
          go_ret2
          rw [H.out]
          exact ⟨_, rfl, fun _ => (by rw [HM.out]; rfl), Bel.refl _⟩
        · have e5 : ((s.size : Int) == 1) = false := by rw [beq_eq_false_iff_ne]; omega
          have hone1 : 2 ≤ s.size := by omega
          have Hacc0 := Lib.hid (show M.acc8 c (p.take (1 - 1)) = n % 32 by rw [M.acc8, HM.out, Hn.out]; rfl)
          clear hone
          go_wp2_with fail
          go_loop [7, 8] (fun v i => ∃ k : Nat, 1 ≤ k ∧ k ≤ s.size ∧ i = .int .i64 k ∧ v = .int .i64 (M.acc8 c (p.take (k - 1)) : Nat)) (fun _ i => s.size - (intOf i).toNat)
          case atStart => exact ⟨1, by omega, by omega, rfl, int_eq (by rw [Hacc0.out]; simp)⟩
          case round =>
            obtain ⟨k, hk1, hk, rfl, rfl⟩ := hrel
            have hA := M.acc8_lt c (p.take (k - 1)) (by rw [List.length_take]; omega)
            by_cases hlt : k < s.size
            · have hbl := s[k].toNat_lt
              have hj : p[k - 1]? = some s[k] := by
                have := Hat.out (k - 1) (by omega)
                simpa [Nat.sub_add_cancel hk1] using this
              have HN := Lib.hid (show M.acc8 c (p.take (k + 1 - 1)) = 64 * M.acc8 c (p.take (k - 1)) + s[k].toNat % 64 by
                rw [show k + 1 - 1 = (k - 1) + 1 by omega]; exact M.acc8_snoc c p (k - 1) s[k] hj)
              clear hj
              generalize M.acc8 c (p.take (k - 1)) = A at hA HN
              go_wp2_with fail
              go_round
              case rel => exact ⟨k + 1, by omega, by omega, by go_num, int_eq (by rw [HN.out]; simp)⟩
              case measure => simp [intOf]; omega
            · obtain rfl : k = s.size := by omega
              have ht : p.take (s.size - 1) = p := List.take_of_length_le (by have := Hs.out; omega)
              rw [ht] at hA
              rw [ht]
              have HF := Lib.hid (show M.ok8 c p = (decide (128 ≤ M.most8 (M.acc8 c p) (2 - s.size)) && decide (M.least8 (M.acc8 c p) (2 - s.size) ≤ 1114111) && !(decide (55296 ≤ M.least8 (M.acc8 c p) (2 - s.size)) && decide (M.most8 (M.acc8 c p) (2 - s.size) ≤ 57343))) by
                rw [← M.fits8_ok c p (by intro hh; have := Hs.out; rw [hh] at this; simp at this; omega) (by have := Hlong.out; omega) Hcont.out, M.fits8, HM.out, Hs.out]; rfl)
              clear ht
              generalize M.acc8 c p = A at hA HF
              go_wp2_with fail
              go_loop [9, 10, 11] (fun l m i => ∃ k : Nat, k ≤ 2 - s.size ∧ i = .int .i64 ((s.size + k : Nat) : Int) ∧ l = .int .i64 (M.least8 A k : Nat) ∧ m = .int .i64 (M.most8 A k : Nat)) (fun _ _ i => 2 - (intOf i).toNat)
              case atStart => exact ⟨0, by omega, rfl, rfl, rfl⟩
              case round =>
                obtain ⟨k, hk, rfl, rfl, rfl⟩ := hrel
                obtain ⟨m1, m2⟩ := M.most8_le A k hA (by omega)
                have m3 := Lib.hid (show M.least8 A (k + 1) = 64 * M.least8 A k from rfl)
                have m4 := Lib.hid (show M.most8 A (k + 1) = 64 * M.most8 A k + 63 from rfl)
                by_cases hlt2 : s.size + k < 2
                · first
                  | (exfalso; omega)
                  | (generalize M.least8 A k = le at m1 m3
                     generalize M.most8 A k = mo at m1 m2 m4
                     go_wp2_with fail
                     go_round
                     case rel => exact ⟨k + 1, by omega, by go_num, int_eq (by rw [m3.out]; simp), int_eq (by rw [m4.out]; simp)⟩
                     case measure => simp [intOf]; try omega)
                · obtain rfl : k = 2 - s.size := by omega
                  generalize M.least8 A (2 - s.size) = le at m1 m3 HF
                  generalize M.most8 A (2 - s.size) = mo at m1 m2 m4 HF
                  have hsum : s.size + (2 - s.size) = 2 := by omega
                  rw [hsum]
                  clear hsum
                  by_cases g1 : 128 ≤ mo <;> by_cases g2 : le ≤ 1114111 <;> by_cases g3 : 55296 ≤ le <;> by_cases g4 : mo ≤ 57343
                  all_goals
                    first
                    | (exfalso; omega)
                    | (go_wp2_with fail
                       go_ret2
                       refine ⟨_, ret_two rfl ?_, fun _ => (by rw [HM.out]; rfl), (by repeat (first | exact Bel.refl _ | refine Bel.drewN ?_ _ | refine Bel.drew ?_ | refine Bel.alloc ?_ _ | refine Bel.trans ?_ (by assumption) | refine Bel.setCell ?_ (by simp; omega) _))⟩
                       rw [HF.out]
                       simp [g1, g2, g3, g4]
                       try omega)
set_option maxHeartbeats 4000000 in
theorem isBegun_3 (s : ByteArray) (c : UInt8) (p : List UInt8) (hs : s.data.toList = c :: p) (hm : M.len8 c.toNat = 3) (w : World) : Calls Tryz.prog 46 #[.string s] w fun e w' => ∃ a : Int, e = .returned (.tuple #[.int .i64 a, .bool (M.ok8 c p)]) ∧ (M.ok8 c p = true → a = (M.len8 c.toNat : Int)) ∧ Bel w w' := by
  have hge : 224 ≤ c.toNat ∧ c.toNat ≤ 239 := by unfold M.len8 at hm; (repeat' split at hm) <;> omega
  have e1 : decide (194 ≤ (c.toNat : Int) ∧ (c.toNat : Int) ≤ 223) = false := by rw [decide_eq_false_iff_not]; omega
  have e2 : decide (224 ≤ (c.toNat : Int) ∧ (c.toNat : Int) ≤ 239) = true := by rw [decide_eq_true_eq]; omega
  have e3 : True := trivial
  have hsz : s.size = p.length + 1 := by rw [Lib.size_eq, hs]; rfl
  have hpos : 0 < s.size := by omega
  have hc : s[0].toNat = c.toNat := by
    have := byte_at s 0 hpos
    rw [hs] at this
    injection this with this
    rw [← this]
  have hat : ∀ j (hj : j + 1 < s.size), p[j]? = some s[j + 1] := fun j hj => by
    have := byte_at s (j + 1) hj
    rw [hs] at this
    simpa using this
  have hcl := c.toNat_lt
  have HM := Lib.hid hm
  have hne : M.len8 c.toNat ≠ 0 := by rw [hm]; decide
  by_cases hlong : M.len8 c.toNat < p.length + 1
  · have H := Lib.hid (M.ok8_long c p hne hlong)
    have hsz2 : 3 < s.size := by rw [hm] at hlong; omega
    clear hm hne hlong hsz hs hat
    generalize c.toNat = n at hc hcl e1 e2 e3 hge
    go_enter Tryz.func46, Tryz.ntmps46
    go_wp2_with (go_at_call 24; refine (between_any _ _ _ _).mono ?_; rintro e w' ⟨rfl, rfl⟩)
    go_ret2
    rw [H.out]
    exact ⟨_, rfl, fun hh => (by cases hh), Bel.refl _⟩
  · have hsz2 : s.size ≤ 3 := by rw [hm] at hlong; omega
    have hsz3 : p.length ≤ 3 := by omega
    have Hs := Lib.hid hsz
    have Hat := Lib.hid hat
    have Hlong := Lib.hid hlong
    clear hm hlong hsz hs hat
    obtain ⟨n, hn⟩ : ∃ n, n = c.toNat := ⟨_, rfl⟩
    have Hn := Lib.hid hn
    rw [← hn] at hc hcl hge
    try rw [← hn] at e1
    try rw [← hn] at e2
    try rw [← hn] at e3
    clear hn
    go_enter Tryz.func46, Tryz.ntmps46
    go_wp2_with (go_at_call 24; refine (between_any _ _ _ _).mono ?_; rintro e w' ⟨rfl, rfl⟩)
    go_loop [6] (fun i => ∃ k : Nat, 1 ≤ k ∧ k ≤ s.size ∧ i = .int .i64 k ∧ Hid ((p.take (k - 1)).all M.cont8 = true)) (fun i => s.size - (intOf i).toNat)
    case atStart => exact ⟨1, by omega, by omega, rfl, Lib.hid rfl⟩
    case round =>
      obtain ⟨k, hk1, hk, rfl, hno⟩ := hrel
      by_cases hlt : k < s.size
      · have hbl := s[k].toNat_lt
        have hj : p[k - 1]? = some s[k] := by
          have := Hat.out (k - 1) (by omega)
          simpa [Nat.sub_add_cancel hk1] using this
        cases hcb : M.cont8 s[k] with
        | false =>
          have H := Lib.hid (M.ok8_cont c p (by rw [List.all_eq_false]; exact ⟨_, List.mem_of_getElem? hj, by rw [hcb]; decide⟩))
          have e4 : decide (128 ≤ (s[k].toNat : Int) ∧ (s[k].toNat : Int) ≤ 191) = false := by
            rw [decide_eq_false_iff_not]; intro hh
            have : M.cont8 s[k] = true := by simp only [M.cont8, decide_eq_true_eq]; omega
            rw [hcb] at this; cases this
          clear hj hcb
          go_wp2_with (go_at_call 24; refine (between_any _ _ _ _).mono ?_; rintro e w' ⟨rfl, rfl⟩)
          go_ret2
          rw [H.out]
          exact ⟨_, rfl, fun hh => (by cases hh), Bel.refl _⟩
        | true =>
          have HN := Lib.hid (show (p.take (k + 1 - 1)).all M.cont8 = true by
            rw [show k + 1 - 1 = (k - 1) + 1 by omega, List.take_add_one, hj, List.all_append, hno.out]; simp [hcb])
          have e4 : decide (128 ≤ (s[k].toNat : Int) ∧ (s[k].toNat : Int) ≤ 191) = true := by
            rw [decide_eq_true_eq]
            simp only [M.cont8, decide_eq_true_eq] at hcb
            omega
          clear hj hcb
          go_wp2_with (go_at_call 24; refine (between_any _ _ _ _).mono ?_; rintro e w' ⟨rfl, rfl⟩)
          go_round
          case rel => exact ⟨k + 1, by omega, by omega, by go_num, HN⟩
          case measure => simp [intOf]; omega
      · obtain rfl : k = s.size := by omega
        have hcont : p.all M.cont8 = true := by
          have := hno.out
          rwa [List.take_of_length_le (by have := Hs.out; omega)] at this
        have Hcont := Lib.hid hcont
        clear hno hcont
        by_cases hone : s.size = 1
        · have H := Lib.hid (show M.ok8 c p = true by
            have : p = [] := List.eq_nil_of_length_eq_zero (by have := Hs.out; omega)
            rw [this]; exact M.ok8_one c hne)
          have e5 : ((s.size : Int) == 1) = true := by rw [hone]; rfl
          have hone1 : s.size ≤ 1 := by omega
          clear hone
          go_wp2_with fail
          go_ret2
          rw [H.out]
          exact ⟨_, rfl, fun _ => (by rw [HM.out]; rfl), Bel.refl _⟩
        · have e5 : ((s.size : Int) == 1) = false := by rw [beq_eq_false_iff_ne]; omega
          have hone1 : 2 ≤ s.size := by omega
          have Hacc0 := Lib.hid (show M.acc8 c (p.take (1 - 1)) = n % 16 by rw [M.acc8, HM.out, Hn.out]; rfl)
          clear hone
          go_wp2_with fail
          go_loop [7, 8] (fun v i => ∃ k : Nat, 1 ≤ k ∧ k ≤ s.size ∧ i = .int .i64 k ∧ v = .int .i64 (M.acc8 c (p.take (k - 1)) : Nat)) (fun _ i => s.size - (intOf i).toNat)
          case atStart => exact ⟨1, by omega, by omega, rfl, int_eq (by rw [Hacc0.out]; simp)⟩
          case round =>
            obtain ⟨k, hk1, hk, rfl, rfl⟩ := hrel
            have hA := M.acc8_lt c (p.take (k - 1)) (by rw [List.length_take]; omega)
            by_cases hlt : k < s.size
            · have hbl := s[k].toNat_lt
              have hj : p[k - 1]? = some s[k] := by
                have := Hat.out (k - 1) (by omega)
                simpa [Nat.sub_add_cancel hk1] using this
              have HN := Lib.hid (show M.acc8 c (p.take (k + 1 - 1)) = 64 * M.acc8 c (p.take (k - 1)) + s[k].toNat % 64 by
                rw [show k + 1 - 1 = (k - 1) + 1 by omega]; exact M.acc8_snoc c p (k - 1) s[k] hj)
              clear hj
              generalize M.acc8 c (p.take (k - 1)) = A at hA HN
              go_wp2_with fail
              go_round
              case rel => exact ⟨k + 1, by omega, by omega, by go_num, int_eq (by rw [HN.out]; simp)⟩
              case measure => simp [intOf]; omega
            · obtain rfl : k = s.size := by omega
              have ht : p.take (s.size - 1) = p := List.take_of_length_le (by have := Hs.out; omega)
              rw [ht] at hA
              rw [ht]
              have HF := Lib.hid (show M.ok8 c p = (decide (2048 ≤ M.most8 (M.acc8 c p) (3 - s.size)) && decide (M.least8 (M.acc8 c p) (3 - s.size) ≤ 1114111) && !(decide (55296 ≤ M.least8 (M.acc8 c p) (3 - s.size)) && decide (M.most8 (M.acc8 c p) (3 - s.size) ≤ 57343))) by
                rw [← M.fits8_ok c p (by intro hh; have := Hs.out; rw [hh] at this; simp at this; omega) (by have := Hlong.out; omega) Hcont.out, M.fits8, HM.out, Hs.out]; rfl)
              clear ht
              generalize M.acc8 c p = A at hA HF
              go_wp2_with fail
              go_loop [9, 10, 11] (fun l m i => ∃ k : Nat, k ≤ 3 - s.size ∧ i = .int .i64 ((s.size + k : Nat) : Int) ∧ l = .int .i64 (M.least8 A k : Nat) ∧ m = .int .i64 (M.most8 A k : Nat)) (fun _ _ i => 3 - (intOf i).toNat)
              case atStart => exact ⟨0, by omega, rfl, rfl, rfl⟩
              case round =>
                obtain ⟨k, hk, rfl, rfl, rfl⟩ := hrel
                obtain ⟨m1, m2⟩ := M.most8_le A k hA (by omega)
                have m3 := Lib.hid (show M.least8 A (k + 1) = 64 * M.least8 A k from rfl)
                have m4 := Lib.hid (show M.most8 A (k + 1) = 64 * M.most8 A k + 63 from rfl)
                by_cases hlt2 : s.size + k < 3
                · first
                  | (exfalso; omega)
                  | (generalize M.least8 A k = le at m1 m3
                     generalize M.most8 A k = mo at m1 m2 m4
                     go_wp2_with fail
                     go_round
                     case rel => exact ⟨k + 1, by omega, by go_num, int_eq (by rw [m3.out]; simp), int_eq (by rw [m4.out]; simp)⟩
                     case measure => simp [intOf]; try omega)
                · obtain rfl : k = 3 - s.size := by omega
                  generalize M.least8 A (3 - s.size) = le at m1 m3 HF
                  generalize M.most8 A (3 - s.size) = mo at m1 m2 m4 HF
                  have hsum : s.size + (3 - s.size) = 3 := by omega
                  rw [hsum]
                  clear hsum
                  by_cases g1 : 2048 ≤ mo <;> by_cases g2 : le ≤ 1114111 <;> by_cases g3 : 55296 ≤ le <;> by_cases g4 : mo ≤ 57343
                  all_goals
                    first
                    | (exfalso; omega)
                    | (go_wp2_with fail
                       go_ret2
                       refine ⟨_, ret_two rfl ?_, fun _ => (by rw [HM.out]; rfl), (by repeat (first | exact Bel.refl _ | refine Bel.drewN ?_ _ | refine Bel.drew ?_ | refine Bel.alloc ?_ _ | refine Bel.trans ?_ (by assumption) | refine Bel.setCell ?_ (by simp; omega) _))⟩
                       rw [HF.out]
                       simp [g1, g2, g3, g4]
                       try omega)
set_option maxHeartbeats 4000000 in
theorem isBegun_4 (s : ByteArray) (c : UInt8) (p : List UInt8) (hs : s.data.toList = c :: p) (hm : M.len8 c.toNat = 4) (w : World) : Calls Tryz.prog 46 #[.string s] w fun e w' => ∃ a : Int, e = .returned (.tuple #[.int .i64 a, .bool (M.ok8 c p)]) ∧ (M.ok8 c p = true → a = (M.len8 c.toNat : Int)) ∧ Bel w w' := by
  have hge : 240 ≤ c.toNat ∧ c.toNat ≤ 244 := by unfold M.len8 at hm; (repeat' split at hm) <;> omega
  have e1 : decide (194 ≤ (c.toNat : Int) ∧ (c.toNat : Int) ≤ 223) = false := by rw [decide_eq_false_iff_not]; omega
  have e2 : decide (224 ≤ (c.toNat : Int) ∧ (c.toNat : Int) ≤ 239) = false := by rw [decide_eq_false_iff_not]; omega
  have e3 : decide (240 ≤ (c.toNat : Int) ∧ (c.toNat : Int) ≤ 244) = true := by rw [decide_eq_true_eq]; omega
  have hsz : s.size = p.length + 1 := by rw [Lib.size_eq, hs]; rfl
  have hpos : 0 < s.size := by omega
  have hc : s[0].toNat = c.toNat := by
    have := byte_at s 0 hpos
    rw [hs] at this
    injection this with this
    rw [← this]
  have hat : ∀ j (hj : j + 1 < s.size), p[j]? = some s[j + 1] := fun j hj => by
    have := byte_at s (j + 1) hj
    rw [hs] at this
    simpa using this
  have hcl := c.toNat_lt
  have HM := Lib.hid hm
  have hne : M.len8 c.toNat ≠ 0 := by rw [hm]; decide
  by_cases hlong : M.len8 c.toNat < p.length + 1
  · have H := Lib.hid (M.ok8_long c p hne hlong)
    have hsz2 : 4 < s.size := by rw [hm] at hlong; omega
    clear hm hne hlong hsz hs hat
    generalize c.toNat = n at hc hcl e1 e2 e3 hge
    go_enter Tryz.func46, Tryz.ntmps46
    go_wp2_with (go_at_call 24; refine (between_any _ _ _ _).mono ?_; rintro e w' ⟨rfl, rfl⟩)
    go_ret2
    rw [H.out]
    exact ⟨_, rfl, fun hh => (by cases hh), Bel.refl _⟩
  · have hsz2 : s.size ≤ 4 := by rw [hm] at hlong; omega
    have hsz3 : p.length ≤ 3 := by omega
    have Hs := Lib.hid hsz
    have Hat := Lib.hid hat
    have Hlong := Lib.hid hlong
    clear hm hlong hsz hs hat
    obtain ⟨n, hn⟩ : ∃ n, n = c.toNat := ⟨_, rfl⟩
    have Hn := Lib.hid hn
    rw [← hn] at hc hcl hge
    try rw [← hn] at e1
    try rw [← hn] at e2
    try rw [← hn] at e3
    clear hn
    go_enter Tryz.func46, Tryz.ntmps46
    go_wp2_with (go_at_call 24; refine (between_any _ _ _ _).mono ?_; rintro e w' ⟨rfl, rfl⟩)
    go_loop [6] (fun i => ∃ k : Nat, 1 ≤ k ∧ k ≤ s.size ∧ i = .int .i64 k ∧ Hid ((p.take (k - 1)).all M.cont8 = true)) (fun i => s.size - (intOf i).toNat)
    case atStart => exact ⟨1, by omega, by omega, rfl, Lib.hid rfl⟩
    case round =>
      obtain ⟨k, hk1, hk, rfl, hno⟩ := hrel
      by_cases hlt : k < s.size
      · have hbl := s[k].toNat_lt
        have hj : p[k - 1]? = some s[k] := by
          have := Hat.out (k - 1) (by omega)
          simpa [Nat.sub_add_cancel hk1] using this
        cases hcb : M.cont8 s[k] with
        | false =>
          have H := Lib.hid (M.ok8_cont c p (by rw [List.all_eq_false]; exact ⟨_, List.mem_of_getElem? hj, by rw [hcb]; decide⟩))
          have e4 : decide (128 ≤ (s[k].toNat : Int) ∧ (s[k].toNat : Int) ≤ 191) = false := by
            rw [decide_eq_false_iff_not]; intro hh
            have : M.cont8 s[k] = true := by simp only [M.cont8, decide_eq_true_eq]; omega
            rw [hcb] at this; cases this
          clear hj hcb
          go_wp2_with (go_at_call 24; refine (between_any _ _ _ _).mono ?_; rintro e w' ⟨rfl, rfl⟩)
          go_ret2
          rw [H.out]
          exact ⟨_, rfl, fun hh => (by cases hh), Bel.refl _⟩
        | true =>
          have HN := Lib.hid (show (p.take (k + 1 - 1)).all M.cont8 = true by
            rw [show k + 1 - 1 = (k - 1) + 1 by omega, List.take_add_one, hj, List.all_append, hno.out]; simp [hcb])
          have e4 : decide (128 ≤ (s[k].toNat : Int) ∧ (s[k].toNat : Int) ≤ 191) = true := by
            rw [decide_eq_true_eq]
            simp only [M.cont8, decide_eq_true_eq] at hcb
            omega
          clear hj hcb
          go_wp2_with (go_at_call 24; refine (between_any _ _ _ _).mono ?_; rintro e w' ⟨rfl, rfl⟩)
          go_round
          case rel => exact ⟨k + 1, by omega, by omega, by go_num, HN⟩
          case measure => simp [intOf]; omega
      · obtain rfl : k = s.size := by omega
        have hcont : p.all M.cont8 = true := by
          have := hno.out
          rwa [List.take_of_length_le (by have := Hs.out; omega)] at this
        have Hcont := Lib.hid hcont
        clear hno hcont
        by_cases hone : s.size = 1
        · have H := Lib.hid (show M.ok8 c p = true by
            have : p = [] := List.eq_nil_of_length_eq_zero (by have := Hs.out; omega)
            rw [this]; exact M.ok8_one c hne)
          have e5 : ((s.size : Int) == 1) = true := by rw [hone]; rfl
          have hone1 : s.size ≤ 1 := by omega
          clear hone
          go_wp2_with fail
          go_ret2
          rw [H.out]
          exact ⟨_, rfl, fun _ => (by rw [HM.out]; rfl), Bel.refl _⟩
        · have e5 : ((s.size : Int) == 1) = false := by rw [beq_eq_false_iff_ne]; omega
          have hone1 : 2 ≤ s.size := by omega
          have Hacc0 := Lib.hid (show M.acc8 c (p.take (1 - 1)) = n % 8 by rw [M.acc8, HM.out, Hn.out]; rfl)
          clear hone
          go_wp2_with fail
          go_loop [7, 8] (fun v i => ∃ k : Nat, 1 ≤ k ∧ k ≤ s.size ∧ i = .int .i64 k ∧ v = .int .i64 (M.acc8 c (p.take (k - 1)) : Nat)) (fun _ i => s.size - (intOf i).toNat)
          case atStart => exact ⟨1, by omega, by omega, rfl, int_eq (by rw [Hacc0.out]; simp)⟩
          case round =>
            obtain ⟨k, hk1, hk, rfl, rfl⟩ := hrel
            have hA := M.acc8_lt c (p.take (k - 1)) (by rw [List.length_take]; omega)
            by_cases hlt : k < s.size
            · have hbl := s[k].toNat_lt
              have hj : p[k - 1]? = some s[k] := by
                have := Hat.out (k - 1) (by omega)
                simpa [Nat.sub_add_cancel hk1] using this
              have HN := Lib.hid (show M.acc8 c (p.take (k + 1 - 1)) = 64 * M.acc8 c (p.take (k - 1)) + s[k].toNat % 64 by
                rw [show k + 1 - 1 = (k - 1) + 1 by omega]; exact M.acc8_snoc c p (k - 1) s[k] hj)
              clear hj
              generalize M.acc8 c (p.take (k - 1)) = A at hA HN
              go_wp2_with fail
              go_round
              case rel => exact ⟨k + 1, by omega, by omega, by go_num, int_eq (by rw [HN.out]; simp)⟩
              case measure => simp [intOf]; omega
            · obtain rfl : k = s.size := by omega
              have ht : p.take (s.size - 1) = p := List.take_of_length_le (by have := Hs.out; omega)
              rw [ht] at hA
              rw [ht]
              have HF := Lib.hid (show M.ok8 c p = (decide (65536 ≤ M.most8 (M.acc8 c p) (4 - s.size)) && decide (M.least8 (M.acc8 c p) (4 - s.size) ≤ 1114111) && !(decide (55296 ≤ M.least8 (M.acc8 c p) (4 - s.size)) && decide (M.most8 (M.acc8 c p) (4 - s.size) ≤ 57343))) by
                rw [← M.fits8_ok c p (by intro hh; have := Hs.out; rw [hh] at this; simp at this; omega) (by have := Hlong.out; omega) Hcont.out, M.fits8, HM.out, Hs.out]; rfl)
              clear ht
              generalize M.acc8 c p = A at hA HF
              go_wp2_with fail
              go_loop [9, 10, 11] (fun l m i => ∃ k : Nat, k ≤ 4 - s.size ∧ i = .int .i64 ((s.size + k : Nat) : Int) ∧ l = .int .i64 (M.least8 A k : Nat) ∧ m = .int .i64 (M.most8 A k : Nat)) (fun _ _ i => 4 - (intOf i).toNat)
              case atStart => exact ⟨0, by omega, rfl, rfl, rfl⟩
              case round =>
                obtain ⟨k, hk, rfl, rfl, rfl⟩ := hrel
                obtain ⟨m1, m2⟩ := M.most8_le A k hA (by omega)
                have m3 := Lib.hid (show M.least8 A (k + 1) = 64 * M.least8 A k from rfl)
                have m4 := Lib.hid (show M.most8 A (k + 1) = 64 * M.most8 A k + 63 from rfl)
                by_cases hlt2 : s.size + k < 4
                · first
                  | (exfalso; omega)
                  | (generalize M.least8 A k = le at m1 m3
                     generalize M.most8 A k = mo at m1 m2 m4
                     go_wp2_with fail
                     go_round
                     case rel => exact ⟨k + 1, by omega, by go_num, int_eq (by rw [m3.out]; simp), int_eq (by rw [m4.out]; simp)⟩
                     case measure => simp [intOf]; try omega)
                · obtain rfl : k = 4 - s.size := by omega
                  generalize M.least8 A (4 - s.size) = le at m1 m3 HF
                  generalize M.most8 A (4 - s.size) = mo at m1 m2 m4 HF
                  have hsum : s.size + (4 - s.size) = 4 := by omega
                  rw [hsum]
                  clear hsum
                  by_cases g1 : 65536 ≤ mo <;> by_cases g2 : le ≤ 1114111 <;> by_cases g3 : 55296 ≤ le <;> by_cases g4 : mo ≤ 57343
                  all_goals
                    first
                    | (exfalso; omega)
                    | (go_wp2_with fail
                       go_ret2
                       refine ⟨_, ret_two rfl ?_, fun _ => (by rw [HM.out]; rfl), (by repeat (first | exact Bel.refl _ | refine Bel.drewN ?_ _ | refine Bel.drew ?_ | refine Bel.alloc ?_ _ | refine Bel.trans ?_ (by assumption) | refine Bel.setCell ?_ (by simp; omega) _))⟩
                       rw [HF.out]
                       simp [g1, g2, g3, g4]
                       try omega)
/-- Whether a row begins a scalar's; and then how many it has in all. -/
theorem isBegun_any (s : ByteArray) (c : UInt8) (p : List UInt8) (hs : s.data.toList = c :: p) (w : World) : Calls Tryz.prog 46 #[.string s] w fun e w' => ∃ a : Int, e = .returned (.tuple #[.int .i64 a, .bool (M.ok8 c p)]) ∧ (M.ok8 c p = true → a = (M.lead8 c.toNat).1 + 1) ∧ Bel w w' := by
  have hlast : ∀ k : Nat, M.len8 c.toNat = k → k ≠ 0 → ∀ (w : World), (Calls Tryz.prog 46 #[.string s] w fun e w' => ∃ a : Int, e = .returned (.tuple #[.int .i64 a, .bool (M.ok8 c p)]) ∧ (M.ok8 c p = true → a = (M.len8 c.toNat : Int)) ∧ Bel w w') → Calls Tryz.prog 46 #[.string s] w fun e w' => ∃ a : Int, e = .returned (.tuple #[.int .i64 a, .bool (M.ok8 c p)]) ∧ (M.ok8 c p = true → a = (M.lead8 c.toNat).1 + 1) ∧ Bel w w' := fun k hk hk0 w h => by
    refine h.mono ?_
    rintro e w' ⟨a, h1, h2, h3⟩
    exact ⟨a, h1, (fun hh => by rw [h2 hh, M.lead8_len _ (by omega)]; omega), h3⟩
  by_cases hl : c.toNat < 128
  · refine (isBegun_low s c p hs hl w).mono ?_
    rintro e w' ⟨rfl, rfl⟩
    exact ⟨1, by rw [M.ok8_low c p hl], (fun _ => by rw [M.lead8, if_pos hl]; rfl), Bel.refl _⟩
  · have hle := M.len8_le c.toNat
    rcases (show M.len8 c.toNat = 0 ∨ M.len8 c.toNat = 2 ∨ M.len8 c.toNat = 3 ∨ M.len8 c.toNat = 4 by
      unfold M.len8; (repeat' split) <;> simp) with h | h | h | h
    · refine (isBegun_none s c p hs (by omega) h w).mono ?_
      rintro e w' ⟨rfl, rfl⟩
      exact ⟨0, by rw [M.ok8_none c p (by omega) h], (fun hh => by rw [M.ok8_none c p (by omega) h] at hh; cases hh), Bel.refl _⟩
    · exact hlast _ h (by decide) w (isBegun_2 s c p hs h w)
    · exact hlast _ h (by decide) w (isBegun_3 s c p hs h w)
    · exact hlast _ h (by decide) w (isBegun_4 s c p hs h w)
end Go.Proofs.YtcgdecpjlggekaaGreatDoor

/-
  The document's answers on UTF-8: valueOf.
-/
namespace Go.Proofs.YtcgdecpjlggekaaGreatDoor
open Go.RowKit
set_option maxRecDepth 1000000

theorem valueOf_2 (s : ByteArray) (c : UInt8) (p : List UInt8) (hs : s.data.toList = c :: p) (hm : M.len8 c.toNat = 2) (hp : p.length = 1) (w : World) : Calls Tryz.prog 80 #[.string s] w fun e w' => e = .returned (.int .i64 (M.acc8 c p : Nat)) ∧ Bel w w' := by
  have hsz : s.size = p.length + 1 := by rw [Lib.size_eq, hs]; rfl
  have hpos : 0 < s.size := by omega
  have hc : s[0].toNat = c.toNat := by
    have := byte_at s 0 hpos
    rw [hs] at this
    injection this with this
    rw [← this]
  have hat : ∀ j (hj : j + 1 < s.size), p[j]? = some s[j + 1] := fun j hj => by
    have := byte_at s (j + 1) hj
    rw [hs] at this
    simpa using this
  have hcl := c.toNat_lt
  have hs1 : 2 ≤ s.size := by omega
  have hs2 : s.size ≤ 2 := by omega
  have e5 : ((s.size : Int) == 1) = false := by rw [beq_eq_false_iff_ne]; omega
  have Hacc0 := Lib.hid (show M.acc8 c (p.take (1 - 1)) = c.toNat % 32 by rw [M.acc8, hm]; rfl)
  have esz : (s.size : Int) = 2 := by omega
  have Hs := Lib.hid hsz
  have Hat := Lib.hid hat
  clear hm hsz hs hat
  generalize c.toNat = n at hc hcl Hacc0
  go_enter Tryz.func80, Tryz.ntmps80
  go_wp2_with fail
  go_quiet (fail)
  go_wp2_with fail
  go_loop [3, 4] (fun v i => ∃ k : Nat, 1 ≤ k ∧ k ≤ s.size ∧ i = .int .i64 k ∧ v = .int .i64 (M.acc8 c (p.take (k - 1)) : Nat)) (fun _ i => s.size - (intOf i).toNat)
  case atStart => exact ⟨1, by omega, by omega, rfl, int_eq (by rw [Hacc0.out]; simp)⟩
  case round =>
    obtain ⟨k, hk1, hk, rfl, rfl⟩ := hrel
    have hA := M.acc8_lt c (p.take (k - 1)) (by rw [List.length_take]; omega)
    by_cases hlt : k < s.size
    · have hbl := s[k].toNat_lt
      have hj : p[k - 1]? = some s[k] := by
        have := Hat.out (k - 1) (by omega)
        simpa [Nat.sub_add_cancel hk1] using this
      have HN := Lib.hid (show M.acc8 c (p.take (k + 1 - 1)) = 64 * M.acc8 c (p.take (k - 1)) + s[k].toNat % 64 by
        rw [show k + 1 - 1 = (k - 1) + 1 by omega]; exact M.acc8_snoc c p (k - 1) s[k] hj)
      clear hj
      generalize M.acc8 c (p.take (k - 1)) = A at hA HN
      go_wp2_with fail
      go_round
      case rel => exact ⟨k + 1, by omega, by omega, by go_num, int_eq (by rw [HN.out]; simp)⟩
      case measure => simp [intOf]; omega
    · obtain rfl : k = s.size := by omega
      have ht : p.take (s.size - 1) = p := List.take_of_length_le (by have := Hs.out; omega)
      rw [ht]
      go_wp2_with fail
      go_ret
      exact ⟨rfl, (by repeat (first | exact Bel.refl _ | refine Bel.drewN ?_ _ | refine Bel.drew ?_ | refine Bel.alloc ?_ _ | refine Bel.trans ?_ (by assumption) | refine Bel.setCell ?_ (by simp; omega) _))⟩
theorem valueOf_3 (s : ByteArray) (c : UInt8) (p : List UInt8) (hs : s.data.toList = c :: p) (hm : M.len8 c.toNat = 3) (hp : p.length = 2) (w : World) : Calls Tryz.prog 80 #[.string s] w fun e w' => e = .returned (.int .i64 (M.acc8 c p : Nat)) ∧ Bel w w' := by
  have hsz : s.size = p.length + 1 := by rw [Lib.size_eq, hs]; rfl
  have hpos : 0 < s.size := by omega
  have hc : s[0].toNat = c.toNat := by
    have := byte_at s 0 hpos
    rw [hs] at this
    injection this with this
    rw [← this]
  have hat : ∀ j (hj : j + 1 < s.size), p[j]? = some s[j + 1] := fun j hj => by
    have := byte_at s (j + 1) hj
    rw [hs] at this
    simpa using this
  have hcl := c.toNat_lt
  have hs1 : 3 ≤ s.size := by omega
  have hs2 : s.size ≤ 3 := by omega
  have e5 : ((s.size : Int) == 1) = false := by rw [beq_eq_false_iff_ne]; omega
  have Hacc0 := Lib.hid (show M.acc8 c (p.take (1 - 1)) = c.toNat % 16 by rw [M.acc8, hm]; rfl)
  have esz : (s.size : Int) = 3 := by omega
  have Hs := Lib.hid hsz
  have Hat := Lib.hid hat
  clear hm hsz hs hat
  generalize c.toNat = n at hc hcl Hacc0
  go_enter Tryz.func80, Tryz.ntmps80
  go_wp2_with fail
  go_quiet (fail)
  go_wp2_with fail
  go_loop [3, 4] (fun v i => ∃ k : Nat, 1 ≤ k ∧ k ≤ s.size ∧ i = .int .i64 k ∧ v = .int .i64 (M.acc8 c (p.take (k - 1)) : Nat)) (fun _ i => s.size - (intOf i).toNat)
  case atStart => exact ⟨1, by omega, by omega, rfl, int_eq (by rw [Hacc0.out]; simp)⟩
  case round =>
    obtain ⟨k, hk1, hk, rfl, rfl⟩ := hrel
    have hA := M.acc8_lt c (p.take (k - 1)) (by rw [List.length_take]; omega)
    by_cases hlt : k < s.size
    · have hbl := s[k].toNat_lt
      have hj : p[k - 1]? = some s[k] := by
        have := Hat.out (k - 1) (by omega)
        simpa [Nat.sub_add_cancel hk1] using this
      have HN := Lib.hid (show M.acc8 c (p.take (k + 1 - 1)) = 64 * M.acc8 c (p.take (k - 1)) + s[k].toNat % 64 by
        rw [show k + 1 - 1 = (k - 1) + 1 by omega]; exact M.acc8_snoc c p (k - 1) s[k] hj)
      clear hj
      generalize M.acc8 c (p.take (k - 1)) = A at hA HN
      go_wp2_with fail
      go_round
      case rel => exact ⟨k + 1, by omega, by omega, by go_num, int_eq (by rw [HN.out]; simp)⟩
      case measure => simp [intOf]; omega
    · obtain rfl : k = s.size := by omega
      have ht : p.take (s.size - 1) = p := List.take_of_length_le (by have := Hs.out; omega)
      rw [ht]
      go_wp2_with fail
      go_ret
      exact ⟨rfl, (by repeat (first | exact Bel.refl _ | refine Bel.drewN ?_ _ | refine Bel.drew ?_ | refine Bel.alloc ?_ _ | refine Bel.trans ?_ (by assumption) | refine Bel.setCell ?_ (by simp; omega) _))⟩
theorem valueOf_4 (s : ByteArray) (c : UInt8) (p : List UInt8) (hs : s.data.toList = c :: p) (hm : M.len8 c.toNat = 4) (hp : p.length = 3) (w : World) : Calls Tryz.prog 80 #[.string s] w fun e w' => e = .returned (.int .i64 (M.acc8 c p : Nat)) ∧ Bel w w' := by
  have hsz : s.size = p.length + 1 := by rw [Lib.size_eq, hs]; rfl
  have hpos : 0 < s.size := by omega
  have hc : s[0].toNat = c.toNat := by
    have := byte_at s 0 hpos
    rw [hs] at this
    injection this with this
    rw [← this]
  have hat : ∀ j (hj : j + 1 < s.size), p[j]? = some s[j + 1] := fun j hj => by
    have := byte_at s (j + 1) hj
    rw [hs] at this
    simpa using this
  have hcl := c.toNat_lt
  have hs1 : 4 ≤ s.size := by omega
  have hs2 : s.size ≤ 4 := by omega
  have e5 : ((s.size : Int) == 1) = false := by rw [beq_eq_false_iff_ne]; omega
  have Hacc0 := Lib.hid (show M.acc8 c (p.take (1 - 1)) = c.toNat % 8 by rw [M.acc8, hm]; rfl)
  have esz : (s.size : Int) = 4 := by omega
  have Hs := Lib.hid hsz
  have Hat := Lib.hid hat
  clear hm hsz hs hat
  generalize c.toNat = n at hc hcl Hacc0
  go_enter Tryz.func80, Tryz.ntmps80
  go_wp2_with fail
  go_quiet (fail)
  go_wp2_with fail
  go_loop [3, 4] (fun v i => ∃ k : Nat, 1 ≤ k ∧ k ≤ s.size ∧ i = .int .i64 k ∧ v = .int .i64 (M.acc8 c (p.take (k - 1)) : Nat)) (fun _ i => s.size - (intOf i).toNat)
  case atStart => exact ⟨1, by omega, by omega, rfl, int_eq (by rw [Hacc0.out]; simp)⟩
  case round =>
    obtain ⟨k, hk1, hk, rfl, rfl⟩ := hrel
    have hA := M.acc8_lt c (p.take (k - 1)) (by rw [List.length_take]; omega)
    by_cases hlt : k < s.size
    · have hbl := s[k].toNat_lt
      have hj : p[k - 1]? = some s[k] := by
        have := Hat.out (k - 1) (by omega)
        simpa [Nat.sub_add_cancel hk1] using this
      have HN := Lib.hid (show M.acc8 c (p.take (k + 1 - 1)) = 64 * M.acc8 c (p.take (k - 1)) + s[k].toNat % 64 by
        rw [show k + 1 - 1 = (k - 1) + 1 by omega]; exact M.acc8_snoc c p (k - 1) s[k] hj)
      clear hj
      generalize M.acc8 c (p.take (k - 1)) = A at hA HN
      go_wp2_with fail
      go_round
      case rel => exact ⟨k + 1, by omega, by omega, by go_num, int_eq (by rw [HN.out]; simp)⟩
      case measure => simp [intOf]; omega
    · obtain rfl : k = s.size := by omega
      have ht : p.take (s.size - 1) = p := List.take_of_length_le (by have := Hs.out; omega)
      rw [ht]
      go_wp2_with fail
      go_ret
      exact ⟨rfl, (by repeat (first | exact Bel.refl _ | refine Bel.drewN ?_ _ | refine Bel.drew ?_ | refine Bel.alloc ?_ _ | refine Bel.trans ?_ (by assumption) | refine Bel.setCell ?_ (by simp; omega) _))⟩
theorem valueOf_1 (s : ByteArray) (c : UInt8) (hs : s.data.toList = [c]) (w : World) : Calls Tryz.prog 80 #[.string s] w fun e w' => e = .returned (.int .i64 (c.toNat : Int)) ∧ Bel w w' := by
  have hsz : s.size = 1 := by rw [Lib.size_eq, hs]; rfl
  have hpos : 0 < s.size := by omega
  have hc : s[0].toNat = c.toNat := by
    have := byte_at s 0 hpos
    rw [hs] at this
    injection this with this
    rw [← this]
  have hcl := c.toNat_lt
  have e5 : ((s.size : Int) == 1) = true := by rw [beq_iff_eq]; omega
  clear hsz hs
  generalize c.toNat = n at hc hcl
  go_enter Tryz.func80, Tryz.ntmps80
  go_wp2_with fail
  go_ret
  exact ⟨rfl, (by repeat (first | exact Bel.refl _ | refine Bel.drewN ?_ _ | refine Bel.drew ?_ | refine Bel.alloc ?_ _ | refine Bel.trans ?_ (by assumption) | refine Bel.setCell ?_ (by simp; omega) _))⟩
end Go.Proofs.YtcgdecpjlggekaaGreatDoor

/-
  The document's answers on UTF-8: DecodeUtf8.
-/
namespace Go.Proofs.YtcgdecpjlggekaaGreatDoor
open Go.RowKit
set_option maxRecDepth 1000000

theorem valueOf_any (s : ByteArray) (c : UInt8) (p : List UInt8) (hs : s.data.toList = c :: p) (m : Nat) (hm : (M.lead8 c.toNat).1 = m) (hp : p.length = m) (w : World) : Calls Tryz.prog 80 #[.string s] w fun e w' => e = .returned (.int .i64 (M.val8 c p)) ∧ Bel w w' := by
  have hc := c.toNat_lt
  rcases M.lead8_val c.toNat hc (by omega) with ⟨h1, h2⟩ | ⟨h1, h2, _⟩
  · have hm0 : m = 0 := by rw [h2] at hm; simp only at hm; omega
    subst hm0
    have hp0 : p = [] := List.eq_nil_of_length_eq_zero hp
    subst hp0
    rw [M.val8, if_pos h1]
    exact valueOf_1 s c hs w
  · rw [M.val8, if_neg (by omega)]
    have hl := M.lead8_len c.toNat h2
    rcases (show M.len8 c.toNat = 2 ∨ M.len8 c.toNat = 3 ∨ M.len8 c.toNat = 4 by
      unfold M.len8 at h2 ⊢; (repeat' split) <;> simp_all) with h | h | h
    · exact valueOf_2 s c p hs h (by omega) w
    · exact valueOf_3 s c p hs h (by omega) w
    · exact valueOf_4 s c p hs h (by omega) w
theorem isBegun_yes (s : ByteArray) (c : UInt8) (p : List UInt8) (hs : s.data.toList = c :: p) (m : Nat) (hm : (M.lead8 c.toNat).1 = m) (h : M.ok8 c p = true) (w : World) : Calls Tryz.prog 46 #[.string s] w fun e w' => e = .returned (.tuple #[.int .i64 ((m : Int) + 1), .bool true]) ∧ Bel w w' := by
  refine (isBegun_any s c p hs w).mono ?_
  rintro e w' ⟨a, rfl, h2, hb⟩
  rw [h] at h2 ⊢
  rw [h2 rfl, hm]
  exact ⟨rfl, hb⟩
theorem isBegun_no (s : ByteArray) (c : UInt8) (p : List UInt8) (hs : s.data.toList = c :: p) (h : M.ok8 c p = false) (w : World) : Calls Tryz.prog 46 #[.string s] w fun e w' => ∃ a : Int, e = .returned (.tuple #[.int .i64 a, .bool false]) ∧ Bel w w' := by
  refine (isBegun_any s c p hs w).mono ?_
  rintro e w' ⟨a, rfl, _, hb⟩
  rw [h]
  exact ⟨a, rfl, hb⟩
theorem take_cons (s : ByteArray) (c : UInt8) (t : List UInt8) (hs : s.data.toList = c :: t) (j : Nat) : (s.extract 0 (j + 1)).data.toList = c :: t.take j := by
  rw [Lib.extract_data, List.drop_zero, Nat.sub_zero, hs, List.take_succ_cons]
theorem decodeUtf8_any (s : ByteArray) (hs : s.size ≤ 68719476735) (w : World) : Calls Tryz.prog 57 #[.string s] w fun e w' => ∃ v, e = .returned (.tuple #[v, .string ⟨(M.told8 s.data.toList).2.toArray⟩]) ∧ Own w.heap.size 3 w' v ((M.told8 s.data.toList).1.map (Value.int .i64)) ∧ Bel w w' := by
  go_enter Tryz.func57, Tryz.ntmps57
  go_wp2_with fail
  go_loopw [0, 4] (fun vs v wr => ∃ (s' : ByteArray) (xs : List Int), vs = .string s' ∧ xs.length + s'.size ≤ s.size ∧ Hid (M.told8 s.data.toList = (xs ++ (M.told8 s'.data.toList).1, (M.told8 s'.data.toList).2)) ∧ Own w.heap.size 3 wr v (xs.map (Value.int .i64)) ∧ Bel w wr) (fun vs _ _ => strLen vs)
  case atStart => exact ⟨s, [], rfl, by simp, Lib.hid (by simp), Own.nil _ _ _, Bel.refl _⟩
  case round =>
    obtain ⟨s', xs, rfl, hle, HT, hown, hb⟩ := hrel
    by_cases he : s'.size = 0
    · have e0 : s'.data.toList = [] := List.eq_nil_of_length_eq_zero (by rw [← Lib.size_eq]; exact he)
      have HF := Lib.hid (show M.told8 s.data.toList = (xs, []) by
        rw [HT.out, e0]; simp [M.told8_nil])
      have he2 : s'.size ≤ 0 := by omega
      clear he e0
      go_wp2_with fail
      go_ret2
      rw [HF.out]
      exact ⟨_, rfl, hown, hb⟩
    · have hpos : 0 < s'.size := by omega
      obtain ⟨c, t, hct⟩ := cons_of_pos s' hpos
      have hlen : s'.size = t.length + 1 := by rw [Lib.size_eq, hct]; rfl
      obtain ⟨wo, hwo⟩ : ∃ wo : World, wo = wr := ⟨_, rfl⟩
      rcases M.round8 c t with ⟨hm, hok, hf⟩ | ⟨m, K, hm, k1, k2, k3, m3, hyes, hend⟩
      · -- it begins none
        have HF := Lib.hid (show M.told8 s.data.toList = ((xs ++ [65533]) ++ (M.told8 (s'.extract 1 s'.size).data.toList).1, (M.told8 (s'.extract 1 s'.size).data.toList).2) by
          rw [HT.out, drop_str, hct, M.told8_ok c t (by rw [hf]), hf]; simp)
        have HC := Lib.hid (show (s'.extract 0 1).data.toList = c :: [] by rw [take_cons s' c t hct 0]; rfl)
        have HS := Lib.hid (drop_size s' 1)
        have HO := Lib.hid hok
        clear he hct hm hok hf hlen hwo
        go_wp2_with fail
        go_loopw [5, 6] (fun vn vd wr' => vn = .int .i64 0 ∧ vd = .bool false ∧ wr' = wr) (fun _ _ _ => 0)
        case atStart => exact ⟨rfl, rfl, rfl⟩
        case round =>
          obtain ⟨rfl, rfl, rfl⟩ := hrel
          go_wp2_with fail
          refine (isBegun_no _ c [] HC.out HO.out _).mono ?_
          rintro e w1 ⟨a, rfl, b1⟩
          have hown1 := hown.bel b1
          have hsz : w.heap.size ≤ w1.heap.size := (hb.trans b1).size
          have hb3 := hb.trans b1
          go_wp2_with (first | (at_builtin; refine wpList_app rfl (.tmp 37) (.tmp 38) 31 rfl elemInt (by decide) w.heap.size _ _ _ rfl rfl hown1 rfl (by simp; omega) (by first | exact Nat.le_refl _ | assumption | (have := hb.size; omega)) ?_; intro v' w1 hown' hb1))
          go_roundw
          case rel => exact ⟨_, xs ++ [65533], rfl, by rw [HS.out, List.length_append, List.length_singleton]; omega, HF, by rw [List.map_append]; exact hown', hb3.upto hb1 (Nat.le_refl _)⟩
          case measure => simp only [strLen, HS.out]; omega
      · have hmi : (m : Int) + 1 = ((m + 1 : Nat) : Int) := by omega
        rcases hend with ⟨rfl, hf⟩ | ⟨hKm, hKt, hno, hf⟩ | ⟨hKm, hKt, hf⟩
        · -- whole
          have HF := Lib.hid (show M.told8 s.data.toList = ((xs ++ [M.val8 c (t.take m)]) ++ (M.told8 (s'.extract (m + 1) s'.size).data.toList).1, (M.told8 (s'.extract (m + 1) s'.size).data.toList).2) by
            rw [HT.out, drop_str, hct, M.told8_ok c t (by rw [hf]), hf]; simp only [Int.toNat_natCast]; simp)
          have HS := Lib.hid (drop_size s' (m + 1))
          have HC := Lib.hid hct
          have HM := Lib.hid hm
          have HY := Lib.hid hyes
          have hlt : m + 1 ≤ s'.size := by omega
          have hml : (t.take m).length = m := by rw [List.length_take]; omega
          have HL := Lib.hid hml
          clear he hct hm hyes hf hlen hwo hmi hml
          go_wp2_with fail
          go_loopw [5, 6] (fun vn vd wr' => ∃ j : Nat, j ≤ m + 1 ∧ vn = .int .i64 j ∧ vd = .bool (decide (j = m + 1)) ∧ Bel wr wr') (fun vn _ _ => m + 1 - (intOf vn).toNat)
          case atStart => exact ⟨0, by omega, rfl, rfl, Bel.refl _⟩
          case round =>
            obtain ⟨j, hj, rfl, rfl, hbj⟩ := hrel
            by_cases hjm : j = m + 1
            · subst hjm
              have e1 : decide (m + 1 = m + 1) = true := by simp
              rw [e1]
              have hcast : ((m + 1 : Nat) : Int) = (m : Int) + 1 := by omega
              rw [hcast]
              have HV := Lib.hid (show (s'.extract 0 (m + 1)).data.toList = c :: t.take m from take_cons s' c t HC.out m)
              have hxl : xs.length < 68719476736 := by omega
              have hb2 := hb.trans hbj
              have hown2 := hown.bel hbj
              clear e1 hcast
              by_cases hq : m + 1 < s'.size
              all_goals
                go_wp2_with fail
                refine (valueOf_any _ c (t.take m) HV.out m HM.out HL.out _).mono ?_
                rintro e w2 ⟨rfl, b2⟩
                have hown3 := hown2.bel b2
                have hb3 := hb2.trans b2
                have hsz : w.heap.size ≤ w2.heap.size := hb3.size
                go_wp2_with (first | (at_builtin; refine wpList_app rfl (.tmp 42) (.tmp 47) 31 rfl elemInt (by decide) w.heap.size _ _ _ rfl rfl hown3 rfl (by simp; omega) (by first | exact Nat.le_refl _ | assumption | (have := hb.size; omega)) ?_; intro v' w1 hown' hb1))
                go_roundw
                case rel => exact ⟨_, xs ++ [M.val8 c (t.take m)], rfl, by rw [HS.out, List.length_append, List.length_singleton]; omega, HF, by rw [List.map_append]; exact hown', hb3.upto hb1 (Nat.le_refl _)⟩
                case measure => simp only [strLen, HS.out]; omega
            · have hjl : j < s'.size := by omega
              have hjlt : j < m + 1 := by omega
              have e1 : decide (j = m + 1) = false := by simpa using hjm
              rw [e1]
              have HV := Lib.hid (show (s'.extract 0 (j + 1)).data.toList = c :: t.take j from take_cons s' c t HC.out j)
              have HO := Lib.hid (HY.out j (by omega))
              have HD := Lib.hid (show decide (j + 1 = m + 1) = ((j : Int) + 1 == (m : Int) + 1) by rw [Bool.eq_iff_iff, decide_eq_true_eq, beq_iff_eq]; omega)
              clear e1 hjm
              go_wp2_with fail
              refine (isBegun_yes _ c (t.take j) HV.out m HM.out HO.out _).mono ?_
              rintro e w2 ⟨rfl, b2⟩
              go_wp2_with fail
              go_roundw
              case rel => exact ⟨j + 1, by omega, by go_num, by rw [HD.out], hbj.trans b2⟩
              case measure => simp [intOf]; omega
        · -- it ends early
          have HF := Lib.hid (show M.told8 s.data.toList = ((xs ++ [65533]) ++ (M.told8 (s'.extract K s'.size).data.toList).1, (M.told8 (s'.extract K s'.size).data.toList).2) by
            rw [HT.out, drop_str, hct, M.told8_ok c t (by rw [hf]), hf]; simp only [Int.toNat_natCast]; simp)
          have HS := Lib.hid (drop_size s' K)
          have HC := Lib.hid hct
          have HM := Lib.hid hm
          have HY := Lib.hid hyes
          have HN := Lib.hid hno
          have hlt : K < s'.size := by omega
          clear he hct hm hyes hf hlen hwo hmi hno
          go_wp2_with fail
          go_loopw [5, 6] (fun vn vd wr' => ∃ j : Nat, j ≤ K ∧ vn = .int .i64 j ∧ vd = .bool false ∧ Bel wr wr') (fun vn _ _ => K - (intOf vn).toNat)
          case atStart => exact ⟨0, by omega, rfl, rfl, Bel.refl _⟩
          case round =>
            obtain ⟨j, hj, rfl, rfl, hbj⟩ := hrel
            have hjl : j < s'.size := by omega
            have HV := Lib.hid (show (s'.extract 0 (j + 1)).data.toList = c :: t.take j from take_cons s' c t HC.out j)
            by_cases hjm : j = K
            · subst hjm
              have e2 : ((j : Int) == (s'.size : Int)) = false := by rw [beq_eq_false_iff_ne]; omega
              have e3 : ((j : Int) == 0) = false := by rw [beq_eq_false_iff_ne]; omega
              have hxl : xs.length < 68719476736 := by omega
              have hb2 := hb.trans hbj
              have hown2 := hown.bel hbj
              go_wp2_with fail
              refine (isBegun_no _ c (t.take j) HV.out HN.out _).mono ?_
              rintro e w2 ⟨a, rfl, b2⟩
              have hown3 := hown2.bel b2
              have hb3 := hb2.trans b2
              have hsz : w.heap.size ≤ w2.heap.size := hb3.size
              go_wp2_with (first | (at_builtin; refine wpList_app rfl (.tmp 37) (.tmp 38) 31 rfl elemInt (by decide) w.heap.size _ _ _ rfl rfl hown3 rfl (by simp; omega) (by first | exact Nat.le_refl _ | assumption | (have := hb.size; omega)) ?_; intro v' w1 hown' hb1))
              go_roundw
              case rel => exact ⟨_, xs ++ [65533], rfl, by rw [HS.out, List.length_append, List.length_singleton]; omega, HF, by rw [List.map_append]; exact hown', hb3.upto hb1 (Nat.le_refl _)⟩
              case measure => simp only [strLen, HS.out]; omega
            · have hjlt : j < K := by omega
              have HO := Lib.hid (HY.out j hjlt)
              have HD := Lib.hid (show ((j : Int) + 1 == (m : Int) + 1) = false by rw [beq_eq_false_iff_ne]; omega)
              clear hjm
              go_wp2_with fail
              refine (isBegun_yes _ c (t.take j) HV.out m HM.out HO.out _).mono ?_
              rintro e w2 ⟨rfl, b2⟩
              go_wp2_with fail
              go_roundw
              case rel => exact ⟨j + 1, by omega, by go_num, by rw [HD.out], hbj.trans b2⟩
              case measure => simp [intOf]; omega
        · -- more must come
          have HF := Lib.hid (show M.told8 s.data.toList = (xs, s'.data.toList) by
            rw [HT.out, hct, M.told8_no c t (by rw [hf])]; simp)
          have HC := Lib.hid hct
          have HM := Lib.hid hm
          have HY := Lib.hid hyes
          have hKl : K ≤ s'.size := by omega
          have hKl2 : s'.size ≤ K := by omega
          clear he hct hm hyes hf hlen hwo hmi hKt
          go_wp2_with fail
          go_loopw [5, 6] (fun vn vd wr' => ∃ j : Nat, j ≤ K ∧ vn = .int .i64 j ∧ vd = .bool false ∧ Bel wr wr') (fun vn _ _ => K - (intOf vn).toNat)
          case atStart => exact ⟨0, by omega, rfl, rfl, Bel.refl _⟩
          case round =>
            obtain ⟨j, hj, rfl, rfl, hbj⟩ := hrel
            by_cases hjm : j = K
            · subst hjm
              have e2 : ((j : Int) == (s'.size : Int)) = true := by rw [beq_iff_eq]; omega
              have hb2 := hb.trans hbj
              have hown2 := hown.bel hbj
              go_wp2_with fail
              go_ret2
              rw [HF.out]
              exact ⟨_, by rw [str_eq]; rfl, hown2, hb2⟩
            · have hjlt : j < K := by omega
              have hjl : j < s'.size := by omega
              have HV := Lib.hid (show (s'.extract 0 (j + 1)).data.toList = c :: t.take j from take_cons s' c t HC.out j)
              have HO := Lib.hid (HY.out j hjlt)
              have HD := Lib.hid (show ((j : Int) + 1 == (m : Int) + 1) = false by rw [beq_eq_false_iff_ne]; omega)
              clear hjm
              go_wp2_with fail
              refine (isBegun_yes _ c (t.take j) HV.out m HM.out HO.out _).mono ?_
              rintro e w2 ⟨rfl, b2⟩
              go_wp2_with fail
              go_roundw
              case rel => exact ⟨j + 1, by omega, by go_num, by rw [HD.out], hbj.trans b2⟩
              case measure => simp [intOf]; omega
end Go.Proofs.YtcgdecpjlggekaaGreatDoor

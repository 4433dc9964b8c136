/-
  The document's answers on signs that are shifted: DecodeKana.
-/
import Derived.Test.YthjafhoahhdlnaaRKana
import Derived.Test.YthjafhoahhdlnaaBase6
namespace Go.Proofs.Ythjafhoahhdlnaa
open Go.RowKit
set_option maxRecDepth 1000000

set_option maxHeartbeats 8000000 in
theorem decodeKana_any (g : Int) (f : Bool) (s : ByteArray) (last : Bool) (hs : s.size ≤ 68719476735) (w : World) : Calls Try.prog 40 #[.agg #[.int .i64 g, .bool f], .string s, .bool last] w fun e w' =>
    ∃ v, e = .returned (.tuple #[v, .agg #[.int .i64 (M.toldK last g f s.data.toList).2.1, .bool (M.toldK last g f s.data.toList).2.2.1], .string ⟨(M.toldK last g f s.data.toList).2.2.2.toArray⟩]) ∧ Own w.heap.size 3 w' v ((M.toldK last g f s.data.toList).1.map (Value.int .i64)) ∧ Bel w w' := by
  go_enter Try.func40, Try.ntmps40
  go_wp2_with fail
  go_loopw [9, 10] (fun vo i wr => ∃ (k : Nat) (xs : List Int) (sg : Int) (fr : Bool), k ≤ s.size ∧ i = .int .i64 k ∧ Box wr w.heap.size 66 [.int .i64 sg, .bool fr] ∧ Box wr (w.heap.size + 1) 66 [.int .i64 0, .bool false] ∧ xs.length ≤ k ∧ Hid (M.toldK last g f s.data.toList = (xs ++ (M.toldK last sg fr (s.data.toList.drop k)).1, (M.toldK last sg fr (s.data.toList.drop k)).2)) ∧ Own (w.heap.size + 2) 3 wr vo (xs.map (Value.int .i64)) ∧ Bel w wr) (fun _ i _ => s.size - (intOf i).toNat)
  case atStart =>
    exact ⟨0, [], g, f, by omega, rfl, (Box.new w 66 [.int .i64 g, .bool f]).bel ((Bel.refl _).alloc _), (by have := Box.new (w.alloc (.cells #[.int .i64 g, .bool f] 66)) 66 [.int .i64 0, .bool false]; simpa using this), by simp, Lib.hid (by simp), Own.nil _ _ _, (by repeat (first | exact Bel.refl _ | refine Bel.drewN ?_ _ | refine Bel.drew ?_ | refine Bel.alloc ?_ _ | refine Bel.trans ?_ (by assumption) | refine Bel.setCell ?_ (by simp; omega) _))⟩
  case round =>
    obtain ⟨k, xs, sg, fr, hk, rfl, hB, hR, hle, HT, hown, hb⟩ := hrel
    have c0 := hB.cell 0 _ rfl
    have c1 := hB.cell 1 _ rfl
    have f0 := hB.frozen 0
    have f1 := hB.frozen 1
    have r0 := hR.cell 0 _ rfl
    have r1 := hR.cell 1 _ rfl
    have q0 := hR.frozen 0
    have q1 := hR.frozen 1
    have hsz : w.heap.size + 2 ≤ wr.heap.size := hR.lt
    have HB2 := Lib.hid hB
    have HR2 := Lib.hid hR
    by_cases hlt : k < s.size
    · obtain ⟨c, t, hct⟩ : ∃ c t, s.data.toList.drop k = c :: t := by
        match hq : s.data.toList.drop k with
        | [] => have := congrArg List.length hq; rw [List.length_drop, ← Lib.size_eq] at this; simp at this; omega
        | c :: t => exact ⟨c, t, rfl⟩
      have hck : s.data.toList[k]? = some c := by
        have := List.getElem?_drop (xs := s.data.toList) (i := k) (j := 0); rw [hct] at this; simpa using this.symm
      have hdk : s.data.toList.drop (k + 1) = t := by
        have := List.drop_drop (l := s.data.toList) (i := 1) (j := k); rw [hct] at this; simpa using this.symm
      obtain ⟨k0, h0⟩ := head_at s k c hck
      have hcl := c.toNat_lt
      rcases M.sayK last sg fr c t with ⟨hc, e⟩ | ⟨rfl, k2, x, u, rfl, hk2, hh, e⟩ | ⟨rfl, hw, hh, rfl, e⟩ | ⟨rfl, hh, hw, e⟩
      · have e27 : ((c.toNat : Int) != 27) = true := by
          rw [bne_iff_ne]; intro h; apply hc; apply UInt8.toNat_inj.1; show c.toNat = 27; omega
        have h27 : c.toNat ≠ 27 := by rw [bne_iff_ne] at e27; omega
        obtain ⟨n, hn⟩ : ∃ n, M.signK sg c.toNat = n := ⟨_, rfl⟩
        have HN := Lib.hid hn
        have H27 := Lib.hid h27
        have HW := Lib.hid (show IntKind.i64.wrap (c.toNat : Int) = (c.toNat : Int) by rw [IntKind.wrap_i64]; omega)
        have HF := Lib.hid (show M.toldK last g f s.data.toList = ((xs ++ [n]) ++ (M.toldK last sg false (s.data.toList.drop (k + 1))).1, (M.toldK last sg false (s.data.toList.drop (k + 1))).2) by
          rw [HT.out, hct, e, hdk, hn]; simp)
        clear hct hc hn e hck hdk h27 hB hR
        go_wp2_with fail
        go_region_law ((first | (go_simp; go_at_call 45; rw [HW.out]; refine (kanaSign_to sg c.toNat n HN.out (by omega) H27.out _).mono ?_; rintro e w' ⟨rfl, rfl⟩) | (refine step_app rfl (.tmp 21) (.tmp 29) 22 (by rfl) elemInt (by decide) (w.heap.size + 2) _ _ (.int .i64 n) (by rfl) hown.drew (by rfl) rfl (by simp; omega) hsz ?_; intro v1 w1 hown1 hb1)))
        all_goals
          have hB1 := Box.upto (B := w.heap.size + 2) (w := wr.drew) HB2.out hb1 (by omega)
          have hR1 := Box.upto (B := w.heap.size + 2) (w := wr.drew) HR2.out hb1 (by omega)
          have d0 := hB1.cell 0 _ rfl
          have d1 := hB1.cell 1 _ rfl
          have y1 := hB1.frozen 1
          have hbe : Bel w w1 := Bel.upto (Bel.drew hb) hb1 (by omega)
          go_wp2_with fail
          go_roundw
          case rel => exact ⟨k + 1, xs ++ [n], sg, false, by omega, by go_num, hB1.set 1 _, hR1.far (by simp) _, by rw [List.length_append, List.length_singleton]; omega, HF, by rw [List.map_append]; exact hown1.setCell (p := ⟨w.heap.size, 1, none⟩) (by simp) _, hbe.setCell (p := ⟨w.heap.size, 1, none⟩) (by simp) _⟩
          case measure => simp [intOf]; omega
      · -- an escape
        have hu : s.size = k + (u.length + 3) := by
          have := congrArg List.length hct; rw [List.length_drop, ← Lib.size_eq] at this; simp only [List.length_cons] at this; omega
        have hdk3 : s.data.toList.drop (k + 3) = u := by
          have := List.drop_drop (l := s.data.toList) (i := 3) (j := k); rw [hct] at this; simpa using this.symm
        have HF := Lib.hid (show M.toldK last g f s.data.toList = ((xs ++ if fr = true then [(65533 : Int)] else []) ++ (M.toldK last k2 true (s.data.toList.drop (k + 3))).1, (M.toldK last k2 true (s.data.toList.drop (k + 3))).2) by
          rw [HT.out, hct, e, hdk3, List.append_assoc])
        obtain ⟨L, hL⟩ : ∃ L, s.extract k s.size = L := ⟨_, rfl⟩
        have HL := Lib.hid (show L.data.toList = 27 :: 40 :: x :: u by rw [← hL, drop_str, hct])
        have hLs : L.size = u.length + 3 := by rw [Lib.size_eq, HL.out]; rfl
        obtain ⟨j1, l1⟩ := head_at L 1 40 (by rw [HL.out]; rfl)
        obtain ⟨j2, l2⟩ := head_at L 2 x (by rw [HL.out]; rfl)
        have hx := x.toNat_lt
        have hL3 : 3 ≤ L.size := by omega
        have z1 : (L.toList == [27]) = false := by rw [Lib.toList_data, HL.out]; rfl
        have z2 : (L.toList == [27, 40]) = false := by rw [Lib.toList_data, HL.out]; rfl
        have z3 : ¬ L.toList = [27] := by simpa using z1
        have z4 : ¬ L.toList = [27, 40] := by simpa using z2
        rw [esc_at] at hk2
        have hu3 : k + 3 ≤ s.size := by omega
        clear hct hck hdk hh e hdk3 hB hR hLs hu
        by_cases g1 : (66 : Int) = (x.toNat : Int)
        · have e1 : ((x.toNat : Int) == 66) = true := by rw [beq_iff_eq]; omega
          rw [if_pos g1] at hk2
          injection hk2 with hk2
          subst hk2
          clear g1
          cases fr
          · simp only [Bool.false_eq_true, if_false, List.append_nil] at HF
            cases last
            all_goals
              go_wp2_with fail
              go_roundw
              case rel => exact ⟨k + 3, xs, _, true, by omega, by go_num, (HB2.out.set 0 _).set 1 _, (HR2.out.far (by simp) _).far (by simp) _, by omega, HF, (hown.setCell (p := ⟨w.heap.size, 0, none⟩) (by simp) _).setCell (p := ⟨w.heap.size, 1, none⟩) (by simp) _, (hb.setCell (p := ⟨w.heap.size, 0, none⟩) (by simp) _).setCell (p := ⟨w.heap.size, 1, none⟩) (by simp) _⟩
              case measure => simp [intOf]; omega
          · simp only [if_true] at HF
            cases last
            all_goals
              go_wp2_with (first | ((at_builtin; refine wpList_app rfl (.tmp 76) (.tmp 77) 22 rfl elemInt (by decide) (w.heap.size + 2) _ _ _ rfl rfl hown rfl (by simp; omega) (by first | exact Nat.le_refl _ | assumption | (have := hb.size; omega)) ?_; intro v' w1 hown' hb1); have hB1 := Box.upto (B := w.heap.size + 2) HB2.out hb1 (by omega); have hR1 := Box.upto (B := w.heap.size + 2) HR2.out hb1 (by omega); have d0 := hB1.cell 0 _ rfl; have d1 := hB1.cell 1 _ rfl; have y0 := hB1.frozen 0; have y1 := hB1.frozen 1))
              go_roundw
              case rel => exact ⟨k + 3, xs ++ [65533], _, true, by omega, by go_num, (hB1.set 0 _).set 1 _, (hR1.far (by simp) _).far (by simp) _, by rw [List.length_append, List.length_singleton]; omega, HF, by rw [List.map_append]; exact (hown'.setCell (p := ⟨w.heap.size, 0, none⟩) (by simp) _).setCell (p := ⟨w.heap.size, 1, none⟩) (by simp) _, ((Bel.upto hb hb1 (by omega)).setCell (p := ⟨w.heap.size, 0, none⟩) (by simp) _).setCell (p := ⟨w.heap.size, 1, none⟩) (by simp) _⟩
              case measure => simp [intOf]; omega
        · have e1 : ((x.toNat : Int) == 66) = false := by rw [beq_eq_false_iff_ne]; omega
          rw [if_neg g1] at hk2
          by_cases g2 : (74 : Int) = (x.toNat : Int)
          · have e2 : ((x.toNat : Int) == 74) = true := by rw [beq_iff_eq]; omega
            rw [if_pos g2] at hk2
            injection hk2 with hk2
            subst hk2
            clear g1 g2
            cases fr
            · simp only [Bool.false_eq_true, if_false, List.append_nil] at HF
              cases last
              all_goals
                go_wp2_with fail
                go_roundw
                case rel => exact ⟨k + 3, xs, _, true, by omega, by go_num, (HB2.out.set 0 _).set 1 _, (HR2.out.far (by simp) _).far (by simp) _, by omega, HF, (hown.setCell (p := ⟨w.heap.size, 0, none⟩) (by simp) _).setCell (p := ⟨w.heap.size, 1, none⟩) (by simp) _, (hb.setCell (p := ⟨w.heap.size, 0, none⟩) (by simp) _).setCell (p := ⟨w.heap.size, 1, none⟩) (by simp) _⟩
                case measure => simp [intOf]; omega
            · simp only [if_true] at HF
              cases last
              all_goals
                go_wp2_with (first | ((at_builtin; refine wpList_app rfl (.tmp 76) (.tmp 77) 22 rfl elemInt (by decide) (w.heap.size + 2) _ _ _ rfl rfl hown rfl (by simp; omega) (by first | exact Nat.le_refl _ | assumption | (have := hb.size; omega)) ?_; intro v' w1 hown' hb1); have hB1 := Box.upto (B := w.heap.size + 2) HB2.out hb1 (by omega); have hR1 := Box.upto (B := w.heap.size + 2) HR2.out hb1 (by omega); have d0 := hB1.cell 0 _ rfl; have d1 := hB1.cell 1 _ rfl; have y0 := hB1.frozen 0; have y1 := hB1.frozen 1))
                go_roundw
                case rel => exact ⟨k + 3, xs ++ [65533], _, true, by omega, by go_num, (hB1.set 0 _).set 1 _, (hR1.far (by simp) _).far (by simp) _, by rw [List.length_append, List.length_singleton]; omega, HF, by rw [List.map_append]; exact (hown'.setCell (p := ⟨w.heap.size, 0, none⟩) (by simp) _).setCell (p := ⟨w.heap.size, 1, none⟩) (by simp) _, ((Bel.upto hb hb1 (by omega)).setCell (p := ⟨w.heap.size, 0, none⟩) (by simp) _).setCell (p := ⟨w.heap.size, 1, none⟩) (by simp) _⟩
                case measure => simp [intOf]; omega
          · have e2 : ((x.toNat : Int) == 74) = false := by rw [beq_eq_false_iff_ne]; omega
            rw [if_neg g2] at hk2
            by_cases g3 : (73 : Int) = (x.toNat : Int)
            · have e3 : ((x.toNat : Int) == 73) = true := by rw [beq_iff_eq]; omega
              rw [if_pos g3] at hk2
              injection hk2 with hk2
              subst hk2
              clear g1 g2 g3
              cases fr
              · simp only [Bool.false_eq_true, if_false, List.append_nil] at HF
                cases last
                all_goals
                  go_wp2_with fail
                  go_roundw
                  case rel => exact ⟨k + 3, xs, _, true, by omega, by go_num, (HB2.out.set 0 _).set 1 _, (HR2.out.far (by simp) _).far (by simp) _, by omega, HF, (hown.setCell (p := ⟨w.heap.size, 0, none⟩) (by simp) _).setCell (p := ⟨w.heap.size, 1, none⟩) (by simp) _, (hb.setCell (p := ⟨w.heap.size, 0, none⟩) (by simp) _).setCell (p := ⟨w.heap.size, 1, none⟩) (by simp) _⟩
                  case measure => simp [intOf]; omega
              · simp only [if_true] at HF
                cases last
                all_goals
                  go_wp2_with (first | ((at_builtin; refine wpList_app rfl (.tmp 76) (.tmp 77) 22 rfl elemInt (by decide) (w.heap.size + 2) _ _ _ rfl rfl hown rfl (by simp; omega) (by first | exact Nat.le_refl _ | assumption | (have := hb.size; omega)) ?_; intro v' w1 hown' hb1); have hB1 := Box.upto (B := w.heap.size + 2) HB2.out hb1 (by omega); have hR1 := Box.upto (B := w.heap.size + 2) HR2.out hb1 (by omega); have d0 := hB1.cell 0 _ rfl; have d1 := hB1.cell 1 _ rfl; have y0 := hB1.frozen 0; have y1 := hB1.frozen 1))
                  go_roundw
                  case rel => exact ⟨k + 3, xs ++ [65533], _, true, by omega, by go_num, (hB1.set 0 _).set 1 _, (hR1.far (by simp) _).far (by simp) _, by rw [List.length_append, List.length_singleton]; omega, HF, by rw [List.map_append]; exact (hown'.setCell (p := ⟨w.heap.size, 0, none⟩) (by simp) _).setCell (p := ⟨w.heap.size, 1, none⟩) (by simp) _, ((Bel.upto hb hb1 (by omega)).setCell (p := ⟨w.heap.size, 0, none⟩) (by simp) _).setCell (p := ⟨w.heap.size, 1, none⟩) (by simp) _⟩
                  case measure => simp [intOf]; omega
            · rw [if_neg g3] at hk2; cases hk2
      · -- more must come
        have HF := Lib.hid (show M.toldK false g f s.data.toList = (xs, sg, fr, 27 :: t) by
          rw [HT.out, hct, e]; simp)
        obtain ⟨L, hL⟩ : ∃ L, s.extract k s.size = L := ⟨_, rfl⟩
        have HL := Lib.hid (show L.data.toList = 27 :: t by rw [← hL, drop_str, hct])
        have z : ((L.toList == [27]) || (L.toList == [27, 40])) = true := by
          rw [Lib.toList_data, HL.out]
          simp only [M.waitK, decide_eq_true_eq] at hw
          rcases hw with rfl | rfl <;> rfl
        have z0 : (L.toList == [27]) = true ∨ (L.toList == [27, 40]) = true := by simpa using z
        clear hct hck hdk hw hh e hB hR z
        rcases z0 with z1 | z1
        all_goals
          have z3 := z1
          rw [beq_iff_eq] at z3
          try have z2 : (L.toList == [27]) = false := by rw [z3]; rfl
          go_wp2_with fail
          go_region
          go_wp2_with fail
          have d0 : ((wr.setCell ⟨w.heap.size + 1, 0, none⟩ (.int .i64 sg)).setCell ⟨w.heap.size + 1, 1, none⟩ (.bool fr)).drew.cell? ⟨w.heap.size + 1, 0, none⟩ = some (.int .i64 sg) := ((HR2.out.set 0 _).set 1 _).cell 0 _ rfl
          have d1 : ((wr.setCell ⟨w.heap.size + 1, 0, none⟩ (.int .i64 sg)).setCell ⟨w.heap.size + 1, 1, none⟩ (.bool fr)).drew.cell? ⟨w.heap.size + 1, 1, none⟩ = some (.bool fr) := ((HR2.out.set 0 _).set 1 _).cell 1 _ rfl
          refine bodyPost_ret (v := .tuple #[u9, .agg #[.int .i64 sg, .bool fr], .string L]) (by simp [results, Try.results40, go_sem, d0, d1]) rfl ?_
          rw [HF.out]
          exact ⟨_, by rw [← HL.out, str_eq], (((hown.setCell (p := ⟨w.heap.size + 1, 0, none⟩) (by simp) _).setCell (p := ⟨w.heap.size + 1, 1, none⟩) (by simp) _).mono (by omega)).drew, ((hb.setCell (p := ⟨w.heap.size + 1, 0, none⟩) (by simp) _).setCell (p := ⟨w.heap.size + 1, 1, none⟩) (by simp) _).drew⟩
      · -- no escape
        have hu : s.size = k + (t.length + 1) := by
          have := congrArg List.length hct; rw [List.length_drop, ← Lib.size_eq] at this; simp only [List.length_cons] at this; omega
        have HF := Lib.hid (show M.toldK last g f s.data.toList = ((xs ++ [65533]) ++ (M.toldK last sg false (s.data.toList.drop (k + 1))).1, (M.toldK last sg false (s.data.toList.drop (k + 1))).2) by
          rw [HT.out, hct, e, hdk]; simp)
        obtain ⟨L, hL⟩ : ∃ L, s.extract k s.size = L := ⟨_, rfl⟩
        have HL := Lib.hid (show L.data.toList = 27 :: t by rw [← hL, drop_str, hct])
        have hLs : L.size = t.length + 1 := by rw [Lib.size_eq, HL.out]; rfl
        have z0 : last = true ∨ ((L.toList == [27]) = false ∧ (L.toList == [27, 40]) = false) := by
          rcases hw with hw | hw
          · right
            rw [Lib.toList_data, HL.out]
            simp only [M.waitK, decide_eq_false_iff_not, not_or] at hw
            constructor
            · rw [beq_eq_false_iff_ne]; intro h9; injection h9 with _ h9; exact hw.1 h9
            · rw [beq_eq_false_iff_ne]; intro h9; injection h9 with _ h9; exact hw.2 h9
          · exact .inl hw
        by_cases hl3 : L.size < 3
        · clear hct hck hdk hw hh e hB hR hLs hu
          cases last
          · rcases z0 with z0 | ⟨z1, z2⟩
            · cases z0
            · have z3 : ¬ L.toList = [27] := by simpa using z1
              have z4 : ¬ L.toList = [27, 40] := by simpa using z2
              go_wp2_with (first | ((at_builtin; refine wpList_app rfl (.tmp 68) (.tmp 69) 22 rfl elemInt (by decide) (w.heap.size + 2) _ _ _ rfl rfl hown rfl (by simp; omega) (by first | exact Nat.le_refl _ | assumption | (have := hb.size; omega)) ?_; intro v' w1 hown' hb1); have hB1 := Box.upto (B := w.heap.size + 2) HB2.out hb1 (by omega); have hR1 := Box.upto (B := w.heap.size + 2) HR2.out hb1 (by omega); have d0 := hB1.cell 0 _ rfl; have d1 := hB1.cell 1 _ rfl; have y0 := hB1.frozen 0; have y1 := hB1.frozen 1))
              go_roundw
              case rel => exact ⟨k + 1, xs ++ [65533], sg, false, by omega, by go_num, hB1.set 1 _, hR1.far (by simp) _, by rw [List.length_append, List.length_singleton]; omega, HF, by rw [List.map_append]; exact hown'.setCell (p := ⟨w.heap.size, 1, none⟩) (by simp) _, (Bel.upto hb hb1 (by omega)).setCell (p := ⟨w.heap.size, 1, none⟩) (by simp) _⟩
              case measure => simp [intOf]; omega
          · clear z0
            go_wp2_with (first | ((at_builtin; refine wpList_app rfl (.tmp 68) (.tmp 69) 22 rfl elemInt (by decide) (w.heap.size + 2) _ _ _ rfl rfl hown rfl (by simp; omega) (by first | exact Nat.le_refl _ | assumption | (have := hb.size; omega)) ?_; intro v' w1 hown' hb1); have hB1 := Box.upto (B := w.heap.size + 2) HB2.out hb1 (by omega); have hR1 := Box.upto (B := w.heap.size + 2) HR2.out hb1 (by omega); have d0 := hB1.cell 0 _ rfl; have d1 := hB1.cell 1 _ rfl; have y0 := hB1.frozen 0; have y1 := hB1.frozen 1))
            go_roundw
            case rel => exact ⟨k + 1, xs ++ [65533], sg, false, by omega, by go_num, hB1.set 1 _, hR1.far (by simp) _, by rw [List.length_append, List.length_singleton]; omega, HF, by rw [List.map_append]; exact hown'.setCell (p := ⟨w.heap.size, 1, none⟩) (by simp) _, (Bel.upto hb hb1 (by omega)).setCell (p := ⟨w.heap.size, 1, none⟩) (by simp) _⟩
            case measure => simp [intOf]; omega
        · obtain ⟨d, x, u, rfl⟩ : ∃ d x u, t = d :: x :: u := by
            match t with
            | [] => simp at hLs; omega
            | [d] => simp at hLs; omega
            | d :: x :: u => exact ⟨d, x, u, rfl⟩
          obtain ⟨j1, l1⟩ := head_at L 1 d (by rw [HL.out]; rfl)
          obtain ⟨j2, l2⟩ := head_at L 2 x (by rw [HL.out]; rfl)
          have hL3 : 3 ≤ L.size := by omega
          have hx := x.toNat_lt
          by_cases hd : d = 40
          · subst hd
            rw [M.headK, if_pos rfl, esc_at] at hh
            have g1 : ¬ (66 : Int) = (x.toNat : Int) := fun h9 => by rw [if_pos h9] at hh; cases hh
            have g2 : ¬ (74 : Int) = (x.toNat : Int) := fun h9 => by rw [if_neg g1, if_pos h9] at hh; cases hh
            have g3 : ¬ (73 : Int) = (x.toNat : Int) := fun h9 => by rw [if_neg g1, if_neg g2, if_pos h9] at hh; cases hh
            have e1 : ((x.toNat : Int) == 66) = false := by rw [beq_eq_false_iff_ne]; omega
            have e2 : ((x.toNat : Int) == 74) = false := by rw [beq_eq_false_iff_ne]; omega
            have e3 : ((x.toNat : Int) == 73) = false := by rw [beq_eq_false_iff_ne]; omega
            clear hct hck hdk hw hh e hB hR hLs hu hl3 g1 g2 g3
            cases last
            · rcases z0 with z0 | ⟨z1, z2⟩
              · cases z0
              · have z3 : ¬ L.toList = [27] := by simpa using z1
                have z4 : ¬ L.toList = [27, 40] := by simpa using z2
                go_wp2_with (first | ((at_builtin; refine wpList_app rfl (.tmp 68) (.tmp 69) 22 rfl elemInt (by decide) (w.heap.size + 2) _ _ _ rfl rfl hown rfl (by simp; omega) (by first | exact Nat.le_refl _ | assumption | (have := hb.size; omega)) ?_; intro v' w1 hown' hb1); have hB1 := Box.upto (B := w.heap.size + 2) HB2.out hb1 (by omega); have hR1 := Box.upto (B := w.heap.size + 2) HR2.out hb1 (by omega); have d0 := hB1.cell 0 _ rfl; have d1 := hB1.cell 1 _ rfl; have y0 := hB1.frozen 0; have y1 := hB1.frozen 1))
                go_roundw
                case rel => exact ⟨k + 1, xs ++ [65533], sg, false, by omega, by go_num, hB1.set 1 _, hR1.far (by simp) _, by rw [List.length_append, List.length_singleton]; omega, HF, by rw [List.map_append]; exact hown'.setCell (p := ⟨w.heap.size, 1, none⟩) (by simp) _, (Bel.upto hb hb1 (by omega)).setCell (p := ⟨w.heap.size, 1, none⟩) (by simp) _⟩
                case measure => simp [intOf]; omega
            · clear z0
              go_wp2_with (first | ((at_builtin; refine wpList_app rfl (.tmp 68) (.tmp 69) 22 rfl elemInt (by decide) (w.heap.size + 2) _ _ _ rfl rfl hown rfl (by simp; omega) (by first | exact Nat.le_refl _ | assumption | (have := hb.size; omega)) ?_; intro v' w1 hown' hb1); have hB1 := Box.upto (B := w.heap.size + 2) HB2.out hb1 (by omega); have hR1 := Box.upto (B := w.heap.size + 2) HR2.out hb1 (by omega); have d0 := hB1.cell 0 _ rfl; have d1 := hB1.cell 1 _ rfl; have y0 := hB1.frozen 0; have y1 := hB1.frozen 1))
              go_roundw
              case rel => exact ⟨k + 1, xs ++ [65533], sg, false, by omega, by go_num, hB1.set 1 _, hR1.far (by simp) _, by rw [List.length_append, List.length_singleton]; omega, HF, by rw [List.map_append]; exact hown'.setCell (p := ⟨w.heap.size, 1, none⟩) (by simp) _, (Bel.upto hb hb1 (by omega)).setCell (p := ⟨w.heap.size, 1, none⟩) (by simp) _⟩
              case measure => simp [intOf]; omega
          · have e1 : ((d.toNat : Int) == 40) = false := by
              rw [beq_eq_false_iff_ne]; intro h9; apply hd; apply UInt8.toNat_inj.1; show d.toNat = 40; omega
            clear hct hck hdk hw hh e hB hR hLs hu hl3 hd
            cases last
            · rcases z0 with z0 | ⟨z1, z2⟩
              · cases z0
              · have z3 : ¬ L.toList = [27] := by simpa using z1
                have z4 : ¬ L.toList = [27, 40] := by simpa using z2
                go_wp2_with (first | ((at_builtin; refine wpList_app rfl (.tmp 68) (.tmp 69) 22 rfl elemInt (by decide) (w.heap.size + 2) _ _ _ rfl rfl hown rfl (by simp; omega) (by first | exact Nat.le_refl _ | assumption | (have := hb.size; omega)) ?_; intro v' w1 hown' hb1); have hB1 := Box.upto (B := w.heap.size + 2) HB2.out hb1 (by omega); have hR1 := Box.upto (B := w.heap.size + 2) HR2.out hb1 (by omega); have d0 := hB1.cell 0 _ rfl; have d1 := hB1.cell 1 _ rfl; have y0 := hB1.frozen 0; have y1 := hB1.frozen 1))
                go_roundw
                case rel => exact ⟨k + 1, xs ++ [65533], sg, false, by omega, by go_num, hB1.set 1 _, hR1.far (by simp) _, by rw [List.length_append, List.length_singleton]; omega, HF, by rw [List.map_append]; exact hown'.setCell (p := ⟨w.heap.size, 1, none⟩) (by simp) _, (Bel.upto hb hb1 (by omega)).setCell (p := ⟨w.heap.size, 1, none⟩) (by simp) _⟩
                case measure => simp [intOf]; omega
            · clear z0
              go_wp2_with (first | ((at_builtin; refine wpList_app rfl (.tmp 68) (.tmp 69) 22 rfl elemInt (by decide) (w.heap.size + 2) _ _ _ rfl rfl hown rfl (by simp; omega) (by first | exact Nat.le_refl _ | assumption | (have := hb.size; omega)) ?_; intro v' w1 hown' hb1); have hB1 := Box.upto (B := w.heap.size + 2) HB2.out hb1 (by omega); have hR1 := Box.upto (B := w.heap.size + 2) HR2.out hb1 (by omega); have d0 := hB1.cell 0 _ rfl; have d1 := hB1.cell 1 _ rfl; have y0 := hB1.frozen 0; have y1 := hB1.frozen 1))
              go_roundw
              case rel => exact ⟨k + 1, xs ++ [65533], sg, false, by omega, by go_num, hB1.set 1 _, hR1.far (by simp) _, by rw [List.length_append, List.length_singleton]; omega, HF, by rw [List.map_append]; exact hown'.setCell (p := ⟨w.heap.size, 1, none⟩) (by simp) _, (Bel.upto hb hb1 (by omega)).setCell (p := ⟨w.heap.size, 1, none⟩) (by simp) _⟩
              case measure => simp [intOf]; omega
    · obtain rfl : k = s.size := by omega
      have HF := Lib.hid (show M.toldK last g f s.data.toList = (xs, sg, fr, []) by
        rw [HT.out, List.drop_of_length_le (by rw [← Lib.size_eq]; exact Nat.le_refl _), M.toldK_nil]; simp)
      clear hB hR
      go_wp2_with fail
      go_region
      go_wp2_with fail
      have d0 : ((wr.setCell ⟨w.heap.size + 1, 0, none⟩ (.int .i64 sg)).setCell ⟨w.heap.size + 1, 1, none⟩ (.bool fr)).drew.cell? ⟨w.heap.size + 1, 0, none⟩ = some (.int .i64 sg) := ((HR2.out.set 0 _).set 1 _).cell 0 _ rfl
      have d1 : ((wr.setCell ⟨w.heap.size + 1, 0, none⟩ (.int .i64 sg)).setCell ⟨w.heap.size + 1, 1, none⟩ (.bool fr)).drew.cell? ⟨w.heap.size + 1, 1, none⟩ = some (.bool fr) := ((HR2.out.set 0 _).set 1 _).cell 1 _ rfl
      refine bodyPost_ret (v := .tuple #[u9, .agg #[.int .i64 sg, .bool fr], .string ⟨#[]⟩]) (by simp [results, Try.results40, go_sem, d0, d1]) rfl ?_
      rw [HF.out]
      exact ⟨_, rfl, (((hown.setCell (p := ⟨w.heap.size + 1, 0, none⟩) (by simp) _).setCell (p := ⟨w.heap.size + 1, 1, none⟩) (by simp) _).mono (by omega)).drew, ((hb.setCell (p := ⟨w.heap.size + 1, 0, none⟩) (by simp) _).setCell (p := ⟨w.heap.size + 1, 1, none⟩) (by simp) _).drew⟩
end Go.Proofs.Ythjafhoahhdlnaa

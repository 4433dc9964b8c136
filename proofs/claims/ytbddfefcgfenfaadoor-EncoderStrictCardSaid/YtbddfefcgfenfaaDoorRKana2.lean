/-
  The document's answers on signs that are shifted: HasKana, EncodeKana.
-/
import Derived.Test.YtbddfefcgfenfaaDoorRKana
namespace Go.Proofs.YtbddfefcgfenfaaDoor
open Go.RowKit
set_option maxRecDepth 1000000

theorem hasKana_any (n : Int) (w : World) : Calls Tryd.prog 72 #[.int .i64 n] w fun e w' => e = .returned (.bool (M.hasK n)) ∧ w = w' := by
  obtain ⟨b0, h0⟩ : ∃ b, M.byteK 0 n = b := ⟨_, rfl⟩
  obtain ⟨b1, h1⟩ : ∃ b, M.byteK 1 n = b := ⟨_, rfl⟩
  obtain ⟨b2, h2⟩ : ∃ b, M.byteK 2 n = b := ⟨_, rfl⟩
  have H0 := Lib.hid h0
  have H1 := Lib.hid h1
  have H2 := Lib.hid h2
  by_cases a0 : 0 ≤ b0
  · have HF := Lib.hid (show M.hasK n = true by simp [M.hasK, M.findK, h0, a0])
    clear h0 h1 h2
    go_enter Tryd.func72, Tryd.ntmps72
    go_wp2_with (first | (go_at_call 102; (first | with_reducible refine (kanaByte_to 0 n _ H0.out _).mono ?_ | with_reducible refine (kanaByte_to 1 n _ H1.out _).mono ?_ | with_reducible refine (kanaByte_to 2 n _ H2.out _).mono ?_); rintro e w' ⟨rfl, rfl⟩))
    go_ret
    rw [HF.out]
    refine ⟨?_, rfl⟩
    first | rfl | exact ret_bool (by simp; omega)
  · by_cases a1 : 0 ≤ b1
    · have HF := Lib.hid (show M.hasK n = true by simp [M.hasK, M.findK, h0, h1, a0, a1])
      clear h0 h1 h2
      go_enter Tryd.func72, Tryd.ntmps72
      go_wp2_with (first | (go_at_call 102; (first | with_reducible refine (kanaByte_to 0 n _ H0.out _).mono ?_ | with_reducible refine (kanaByte_to 1 n _ H1.out _).mono ?_ | with_reducible refine (kanaByte_to 2 n _ H2.out _).mono ?_); rintro e w' ⟨rfl, rfl⟩))
      go_ret
      rw [HF.out]
      refine ⟨?_, rfl⟩
      first | rfl | exact ret_bool (by simp; omega)
    · by_cases a2 : 0 ≤ b2
      · have HF := Lib.hid (show M.hasK n = true by simp [M.hasK, M.findK, h0, h1, h2, a0, a1, a2])
        clear h0 h1 h2
        go_enter Tryd.func72, Tryd.ntmps72
        go_wp2_with (first | (go_at_call 102; (first | with_reducible refine (kanaByte_to 0 n _ H0.out _).mono ?_ | with_reducible refine (kanaByte_to 1 n _ H1.out _).mono ?_ | with_reducible refine (kanaByte_to 2 n _ H2.out _).mono ?_); rintro e w' ⟨rfl, rfl⟩))
        go_ret
        rw [HF.out]
        refine ⟨?_, rfl⟩
        first | rfl | exact ret_bool (by simp; omega)
      · have HF := Lib.hid (show M.hasK n = false by simp [M.hasK, M.findK, h0, h1, h2, a0, a1, a2])
        clear h0 h1 h2
        go_enter Tryd.func72, Tryd.ntmps72
        go_wp2_with (first | (go_at_call 102; (first | with_reducible refine (kanaByte_to 0 n _ H0.out _).mono ?_ | with_reducible refine (kanaByte_to 1 n _ H1.out _).mono ?_ | with_reducible refine (kanaByte_to 2 n _ H2.out _).mono ?_); rintro e w' ⟨rfl, rfl⟩))
        go_ret
        rw [HF.out]
        refine ⟨?_, rfl⟩
        first | rfl | exact ret_bool (by simp; omega)
theorem hasKana_to (n : Int) (b : Bool) (h : M.hasK n = b) (w : World) : Calls Tryd.prog 72 #[.int .i64 n] w fun e w' => e = .returned (.bool b) ∧ w = w' := by
  have := hasKana_any n w; rw [h] at this; exact this
set_option maxHeartbeats 8000000 in
theorem encodeKana_any (v : Value) (xs : List Int) (w : World) (hv : IntSl w v xs) (hlen : xs.length ≤ 1000000) : Calls Tryd.prog 70 #[v] w fun e w' => e = .returned (.tuple #[.string ⟨(M.rawK xs).1.toArray⟩, .bool ((M.rawK xs).2 == 0)]) ∧ Bel w w' := by
  obtain ⟨a, ca, rfl, hc1, hc2, hn, hx⟩ := hv
  unfold maxLen at hc2
  go_enter Tryd.func70, Tryd.ntmps70
  go_wp2_with fail
  go_loopw [4, 5, 6] (fun vs vg i wr => ∃ (k : Nat) (now : Int) (acc : List UInt8), k ≤ xs.length ∧ i = .int .i64 k ∧ vg = .int .i64 now ∧ 0 ≤ now ∧ now ≤ 2 ∧ vs = .string ⟨acc.toArray⟩ ∧ acc.length ≤ 4 * k ∧ Hid (M.encK 0 xs = (M.encK now (xs.drop k)).map (acc ++ ·)) ∧ Bel w wr) (fun _ _ i _ => xs.length - (intOf i).toNat)
  case atStart => exact ⟨0, 0, [], by omega, rfl, rfl, by omega, by omega, rfl, by simp, Lib.hid (by rw [List.drop_zero]; cases M.encK 0 xs <;> rfl), Bel.refl _⟩
  case round =>
    obtain ⟨k, now, acc, hk, rfl, rfl, hg0, hg1, rfl, hal, HT, hb⟩ := hrel
    by_cases hlt : k < xs.length
    · obtain ⟨n, hy⟩ : ∃ n, xs[k]? = some n := ⟨_, List.getElem?_eq_getElem hlt⟩
      have hdr : xs.drop k = n :: xs.drop (k + 1) := by
        rw [List.drop_eq_getElem_cons hlt]
        rw [List.getElem?_eq_getElem hlt] at hy
        injection hy with hy
        rw [hy]
      cases a with
      | none => exfalso; have h3 := hlt; rw [hn rfl, List.length_nil] at h3; omega
      | some x =>
        have hcw := hx x rfl k n hy
        have hcell : wr.cell? (x.add k) = some (.int .i64 n) := (Bel.cell hb (World.block_lt_of_cell? w _ hcw)).trans hcw
        have i1 : (k : Int) < (xs.length : Int) := by omega
        obtain ⟨bn, hbn⟩ : ∃ b, M.byteK now n = b := ⟨_, rfl⟩
        obtain ⟨b0, hb0⟩ : ∃ b, M.byteK 0 n = b := ⟨_, rfl⟩
        obtain ⟨b1, hb1⟩ : ∃ b, M.byteK 1 n = b := ⟨_, rfl⟩
        obtain ⟨b2, hb2⟩ : ∃ b, M.byteK 2 n = b := ⟨_, rfl⟩
        have HN := Lib.hid hbn
        have H0 := Lib.hid hb0
        have H1 := Lib.hid hb1
        have H2 := Lib.hid hb2
        have hnow : now = 0 ∨ now = 1 ∨ now = 2 := by omega
        have hh : M.hasK n = decide (0 ≤ M.findK now n) := by
          unfold M.hasK M.findK
          congr 1
          rw [hbn, hb0, hb1, hb2]
          have : bn = b0 ∨ bn = b1 ∨ bn = b2 := by
            rcases hnow with rfl | rfl | rfl
            · exact .inl (hbn.symm.trans hb0)
            · exact .inr (.inl (hbn.symm.trans hb1))
            · exact .inr (.inr (hbn.symm.trans hb2))
          simp only [eq_iff_iff]
          (repeat' split) <;> omega
        rcases M.findK_or now n with ⟨hf, _⟩ | ⟨g, c, hf, hg, hbk, hc, h27⟩
        · have HF := Lib.hid (show M.rawK xs = ([], 5) by
            rw [M.rawK, HT.out, hdr, M.encK, if_pos (by rw [hf]; decide)]; rfl)
          have HH := Lib.hid (show M.hasK n = false by rw [hh, hf]; rfl)
          clear hx hn hy hdr hcw hf hh hbn hb0 hb1 hb2 hnow
          go_wp2_with (first | (go_at_call 72; refine (hasKana_to n _ HH.out _).mono ?_; rintro e w' ⟨rfl, rfl⟩))
          go_ret2
          rw [HF.out]
          exact ⟨rfl, hb⟩
        · have hg2 : g = 0 ∨ g = 1 ∨ g = 2 := by omega
          have hgn : 0 ≤ g := by omega
          have hgm : g ≤ 2 := by omega
          have HH := Lib.hid (show M.hasK n = true by rw [hh, hf]; simpa using hgn)
          have HS := Lib.hid (M.encK_step now g n c (xs.drop (k + 1)) acc hf hgn hbk)
          have HT2 := Lib.hid (show M.encK 0 xs = (M.encK g (xs.drop (k + 1))).map ((acc ++ M.shiftB now g ++ [UInt8.ofNat c]) ++ ·) by
            rw [HT.out, hdr, HS.out])
          have HV := Lib.hid (show [UInt8.ofNat c].map byteVal = [.int .u8 (c : Int)] by simp [byteVal]; omega)
          have hcv : (UInt8.ofNat c).toNat = c := UInt8.toNat_ofNat_of_lt' (show c < 256 by omega)
          by_cases an : 0 ≤ bn
          · have hgw : g = now := by rw [M.findK, hbn, if_pos an] at hf; exact hf.symm
            subst hgw
            obtain rfl : bn = (c : Int) := hbn.symm.trans hbk
            have HL := Lib.hid (show acc ++ M.shiftB g g ++ [UInt8.ofNat c] = acc ++ [UInt8.ofNat c] by simp [M.shiftB])
            rw [HL.out] at HT2
            clear hx hn hy hdr hcw hf hg hbk HS hg2 hh hbn hb0 hb1 hb2 hnow hcv H0 H1 H2
            go_wp2_with (first | (go_at_call 72; refine (hasKana_to n _ HH.out _).mono ?_; rintro e w' ⟨rfl, rfl⟩) | (go_at_call 102; refine (kanaByte_to _ n _ HN.out _).mono ?_; rintro e w' ⟨rfl, rfl⟩) | ((with_reducible show wpList _ _ _ _ _ _); refine wpList_toString rfl (.tmp 56) _ _ 5 rfl Tryd.underlying34 Tryd.underlying5 Tryd.underlying9 _ _ [UInt8.ofNat c] rfl (own_row _ [UInt8.ofNat c] _ HV.out (by simp)) ?_))
            go_roundw
            case rel => exact ⟨k + 1, g, acc ++ [UInt8.ofNat c], by omega, by go_num, rfl, by omega, by omega, by simp [str_append], by rw [List.length_append, List.length_singleton]; omega, HT2, (by repeat (first | exact Bel.refl _ | refine Bel.drewN ?_ _ | refine Bel.drew ?_ | refine Bel.alloc ?_ _ | refine Bel.trans ?_ (by assumption) | refine Bel.setCell ?_ (by simp; omega) _))⟩
            case measure => simp [intOf]; omega
          · have e1 : (g != now) = true := by
              rw [bne_iff_ne]; rintro rfl
              apply an; rw [← hbn, hbk]; omega
            have hbneg : bn < 0 := by omega
            have he : g ≠ now := by simpa using e1
            obtain ⟨p, hp⟩ : ∃ p, [27, 40, M.escB g] = p := ⟨_, rfl⟩
            have HL := Lib.hid (show acc ++ M.shiftB now g ++ [UInt8.ofNat c] = acc ++ p ++ [UInt8.ofNat c] by rw [M.shiftB, if_neg he, hp])
            rw [HL.out] at HT2
            have hpl : p.length = 3 := by rw [← hp]; rfl
            have hf2 : M.findK now n = if 0 ≤ b0 then 0 else if 0 ≤ b1 then 1 else if 0 ≤ b2 then 2 else -1 := by
              rw [M.findK, hbn, hb0, hb1, hb2, if_neg an]
            rw [hf] at hf2
            rcases hg2 with rfl | rfl | rfl
            · have X := Lib.hid (show (⟨#[27, 40]⟩ : ByteArray) ++ (⟨#[66, 74, 73]⟩ : ByteArray).extract 0 1 = ⟨p.toArray⟩ by rw [← hp]; rfl)
              have HC := Lib.hid (show M.byteK 0 n = (c : Int) from hbk)
              clear hx hn hy hdr hcw hf hg hbk HS hh hbn hb0 hb1 hb2 hnow he hp hf2 hcv H0
              have H0 := HC
              go_wp2_with (first | (go_at_call 72; refine (hasKana_to n _ HH.out _).mono ?_; rintro e w' ⟨rfl, rfl⟩) | (go_at_call 102; (first | with_reducible refine (kanaByte_to now n _ HN.out _).mono ?_ | with_reducible refine (kanaByte_to 0 n _ H0.out _).mono ?_ | with_reducible refine (kanaByte_to 1 n _ H1.out _).mono ?_ | with_reducible refine (kanaByte_to 2 n _ H2.out _).mono ?_); rintro e w' ⟨rfl, rfl⟩) | ((with_reducible show wpList _ _ _ _ _ _); refine wpList_toString rfl (.tmp 56) _ _ 5 rfl Tryd.underlying34 Tryd.underlying5 Tryd.underlying9 _ _ [UInt8.ofNat c] rfl (own_row _ [UInt8.ofNat c] _ HV.out (by simp)) ?_))
              refine wp_loop_rounds 4 ?_
              rw [rounds_succ]
              go_wp2_with (first | (go_at_call 72; refine (hasKana_to n _ HH.out _).mono ?_; rintro e w' ⟨rfl, rfl⟩) | (go_at_call 102; (first | with_reducible refine (kanaByte_to now n _ HN.out _).mono ?_ | with_reducible refine (kanaByte_to 0 n _ H0.out _).mono ?_ | with_reducible refine (kanaByte_to 1 n _ H1.out _).mono ?_ | with_reducible refine (kanaByte_to 2 n _ H2.out _).mono ?_); rintro e w' ⟨rfl, rfl⟩) | ((with_reducible show wpList _ _ _ _ _ _); refine wpList_toString rfl (.tmp 56) _ _ 5 rfl Tryd.underlying34 Tryd.underlying5 Tryd.underlying9 _ _ [UInt8.ofNat c] rfl (own_row _ [UInt8.ofNat c] _ HV.out (by simp)) ?_))
              all_goals try (rw [rounds_succ]; go_wp2_with (first | (go_at_call 72; refine (hasKana_to n _ HH.out _).mono ?_; rintro e w' ⟨rfl, rfl⟩) | (go_at_call 102; (first | with_reducible refine (kanaByte_to now n _ HN.out _).mono ?_ | with_reducible refine (kanaByte_to 0 n _ H0.out _).mono ?_ | with_reducible refine (kanaByte_to 1 n _ H1.out _).mono ?_ | with_reducible refine (kanaByte_to 2 n _ H2.out _).mono ?_); rintro e w' ⟨rfl, rfl⟩) | ((with_reducible show wpList _ _ _ _ _ _); refine wpList_toString rfl (.tmp 56) _ _ 5 rfl Tryd.underlying34 Tryd.underlying5 Tryd.underlying9 _ _ [UInt8.ofNat c] rfl (own_row _ [UInt8.ofNat c] _ HV.out (by simp)) ?_)))
              all_goals try (rw [rounds_succ]; go_wp2_with (first | (go_at_call 72; refine (hasKana_to n _ HH.out _).mono ?_; rintro e w' ⟨rfl, rfl⟩) | (go_at_call 102; (first | with_reducible refine (kanaByte_to now n _ HN.out _).mono ?_ | with_reducible refine (kanaByte_to 0 n _ H0.out _).mono ?_ | with_reducible refine (kanaByte_to 1 n _ H1.out _).mono ?_ | with_reducible refine (kanaByte_to 2 n _ H2.out _).mono ?_); rintro e w' ⟨rfl, rfl⟩) | ((with_reducible show wpList _ _ _ _ _ _); refine wpList_toString rfl (.tmp 56) _ _ 5 rfl Tryd.underlying34 Tryd.underlying5 Tryd.underlying9 _ _ [UInt8.ofNat c] rfl (own_row _ [UInt8.ofNat c] _ HV.out (by simp)) ?_)))
              go_roundw
              case rel => exact ⟨k + 1, _, acc ++ p ++ [UInt8.ofNat c], by omega, by go_num, rfl, by omega, by omega, by rw [X.out]; simp [str_append], by rw [List.length_append, List.length_append, List.length_singleton]; omega, HT2, (by repeat (first | exact Bel.refl _ | refine Bel.drewN ?_ _ | refine Bel.drew ?_ | refine Bel.alloc ?_ _ | refine Bel.trans ?_ (by assumption) | refine Bel.setCell ?_ (by simp; omega) _))⟩
              case measure => simp [intOf]; omega
            · have X := Lib.hid (show (⟨#[27, 40]⟩ : ByteArray) ++ (⟨#[66, 74, 73]⟩ : ByteArray).extract 1 2 = ⟨p.toArray⟩ by rw [← hp]; rfl)
              have HC := Lib.hid (show M.byteK 1 n = (c : Int) from hbk)
              have hb0n : b0 < 0 := by split at hf2 <;> omega
              clear hx hn hy hdr hcw hf hg hbk HS hh hbn hb0 hb1 hb2 hnow he hp hf2 hcv H1
              have H1 := HC
              go_wp2_with (first | (go_at_call 72; refine (hasKana_to n _ HH.out _).mono ?_; rintro e w' ⟨rfl, rfl⟩) | (go_at_call 102; (first | with_reducible refine (kanaByte_to now n _ HN.out _).mono ?_ | with_reducible refine (kanaByte_to 0 n _ H0.out _).mono ?_ | with_reducible refine (kanaByte_to 1 n _ H1.out _).mono ?_ | with_reducible refine (kanaByte_to 2 n _ H2.out _).mono ?_); rintro e w' ⟨rfl, rfl⟩) | ((with_reducible show wpList _ _ _ _ _ _); refine wpList_toString rfl (.tmp 56) _ _ 5 rfl Tryd.underlying34 Tryd.underlying5 Tryd.underlying9 _ _ [UInt8.ofNat c] rfl (own_row _ [UInt8.ofNat c] _ HV.out (by simp)) ?_))
              refine wp_loop_rounds 4 ?_
              rw [rounds_succ]
              go_wp2_with (first | (go_at_call 72; refine (hasKana_to n _ HH.out _).mono ?_; rintro e w' ⟨rfl, rfl⟩) | (go_at_call 102; (first | with_reducible refine (kanaByte_to now n _ HN.out _).mono ?_ | with_reducible refine (kanaByte_to 0 n _ H0.out _).mono ?_ | with_reducible refine (kanaByte_to 1 n _ H1.out _).mono ?_ | with_reducible refine (kanaByte_to 2 n _ H2.out _).mono ?_); rintro e w' ⟨rfl, rfl⟩) | ((with_reducible show wpList _ _ _ _ _ _); refine wpList_toString rfl (.tmp 56) _ _ 5 rfl Tryd.underlying34 Tryd.underlying5 Tryd.underlying9 _ _ [UInt8.ofNat c] rfl (own_row _ [UInt8.ofNat c] _ HV.out (by simp)) ?_))
              all_goals try (rw [rounds_succ]; go_wp2_with (first | (go_at_call 72; refine (hasKana_to n _ HH.out _).mono ?_; rintro e w' ⟨rfl, rfl⟩) | (go_at_call 102; (first | with_reducible refine (kanaByte_to now n _ HN.out _).mono ?_ | with_reducible refine (kanaByte_to 0 n _ H0.out _).mono ?_ | with_reducible refine (kanaByte_to 1 n _ H1.out _).mono ?_ | with_reducible refine (kanaByte_to 2 n _ H2.out _).mono ?_); rintro e w' ⟨rfl, rfl⟩) | ((with_reducible show wpList _ _ _ _ _ _); refine wpList_toString rfl (.tmp 56) _ _ 5 rfl Tryd.underlying34 Tryd.underlying5 Tryd.underlying9 _ _ [UInt8.ofNat c] rfl (own_row _ [UInt8.ofNat c] _ HV.out (by simp)) ?_)))
              all_goals try (rw [rounds_succ]; go_wp2_with (first | (go_at_call 72; refine (hasKana_to n _ HH.out _).mono ?_; rintro e w' ⟨rfl, rfl⟩) | (go_at_call 102; (first | with_reducible refine (kanaByte_to now n _ HN.out _).mono ?_ | with_reducible refine (kanaByte_to 0 n _ H0.out _).mono ?_ | with_reducible refine (kanaByte_to 1 n _ H1.out _).mono ?_ | with_reducible refine (kanaByte_to 2 n _ H2.out _).mono ?_); rintro e w' ⟨rfl, rfl⟩) | ((with_reducible show wpList _ _ _ _ _ _); refine wpList_toString rfl (.tmp 56) _ _ 5 rfl Tryd.underlying34 Tryd.underlying5 Tryd.underlying9 _ _ [UInt8.ofNat c] rfl (own_row _ [UInt8.ofNat c] _ HV.out (by simp)) ?_)))
              go_roundw
              case rel => exact ⟨k + 1, _, acc ++ p ++ [UInt8.ofNat c], by omega, by go_num, rfl, by omega, by omega, by rw [X.out]; simp [str_append], by rw [List.length_append, List.length_append, List.length_singleton]; omega, HT2, (by repeat (first | exact Bel.refl _ | refine Bel.drewN ?_ _ | refine Bel.drew ?_ | refine Bel.alloc ?_ _ | refine Bel.trans ?_ (by assumption) | refine Bel.setCell ?_ (by simp; omega) _))⟩
              case measure => simp [intOf]; omega
            · have X := Lib.hid (show (⟨#[27, 40]⟩ : ByteArray) ++ (⟨#[66, 74, 73]⟩ : ByteArray).extract 2 3 = ⟨p.toArray⟩ by rw [← hp]; rfl)
              have HC := Lib.hid (show M.byteK 2 n = (c : Int) from hbk)
              have hb0n : b0 < 0 := by split at hf2 <;> omega
              have hb1n : b1 < 0 := by split at hf2; omega; split at hf2 <;> omega
              clear hx hn hy hdr hcw hf hg hbk HS hh hbn hb0 hb1 hb2 hnow he hp hf2 hcv H2
              have H2 := HC
              go_wp2_with (first | (go_at_call 72; refine (hasKana_to n _ HH.out _).mono ?_; rintro e w' ⟨rfl, rfl⟩) | (go_at_call 102; (first | with_reducible refine (kanaByte_to now n _ HN.out _).mono ?_ | with_reducible refine (kanaByte_to 0 n _ H0.out _).mono ?_ | with_reducible refine (kanaByte_to 1 n _ H1.out _).mono ?_ | with_reducible refine (kanaByte_to 2 n _ H2.out _).mono ?_); rintro e w' ⟨rfl, rfl⟩) | ((with_reducible show wpList _ _ _ _ _ _); refine wpList_toString rfl (.tmp 56) _ _ 5 rfl Tryd.underlying34 Tryd.underlying5 Tryd.underlying9 _ _ [UInt8.ofNat c] rfl (own_row _ [UInt8.ofNat c] _ HV.out (by simp)) ?_))
              refine wp_loop_rounds 4 ?_
              rw [rounds_succ]
              go_wp2_with (first | (go_at_call 72; refine (hasKana_to n _ HH.out _).mono ?_; rintro e w' ⟨rfl, rfl⟩) | (go_at_call 102; (first | with_reducible refine (kanaByte_to now n _ HN.out _).mono ?_ | with_reducible refine (kanaByte_to 0 n _ H0.out _).mono ?_ | with_reducible refine (kanaByte_to 1 n _ H1.out _).mono ?_ | with_reducible refine (kanaByte_to 2 n _ H2.out _).mono ?_); rintro e w' ⟨rfl, rfl⟩) | ((with_reducible show wpList _ _ _ _ _ _); refine wpList_toString rfl (.tmp 56) _ _ 5 rfl Tryd.underlying34 Tryd.underlying5 Tryd.underlying9 _ _ [UInt8.ofNat c] rfl (own_row _ [UInt8.ofNat c] _ HV.out (by simp)) ?_))
              all_goals try (rw [rounds_succ]; go_wp2_with (first | (go_at_call 72; refine (hasKana_to n _ HH.out _).mono ?_; rintro e w' ⟨rfl, rfl⟩) | (go_at_call 102; (first | with_reducible refine (kanaByte_to now n _ HN.out _).mono ?_ | with_reducible refine (kanaByte_to 0 n _ H0.out _).mono ?_ | with_reducible refine (kanaByte_to 1 n _ H1.out _).mono ?_ | with_reducible refine (kanaByte_to 2 n _ H2.out _).mono ?_); rintro e w' ⟨rfl, rfl⟩) | ((with_reducible show wpList _ _ _ _ _ _); refine wpList_toString rfl (.tmp 56) _ _ 5 rfl Tryd.underlying34 Tryd.underlying5 Tryd.underlying9 _ _ [UInt8.ofNat c] rfl (own_row _ [UInt8.ofNat c] _ HV.out (by simp)) ?_)))
              all_goals try (rw [rounds_succ]; go_wp2_with (first | (go_at_call 72; refine (hasKana_to n _ HH.out _).mono ?_; rintro e w' ⟨rfl, rfl⟩) | (go_at_call 102; (first | with_reducible refine (kanaByte_to now n _ HN.out _).mono ?_ | with_reducible refine (kanaByte_to 0 n _ H0.out _).mono ?_ | with_reducible refine (kanaByte_to 1 n _ H1.out _).mono ?_ | with_reducible refine (kanaByte_to 2 n _ H2.out _).mono ?_); rintro e w' ⟨rfl, rfl⟩) | ((with_reducible show wpList _ _ _ _ _ _); refine wpList_toString rfl (.tmp 56) _ _ 5 rfl Tryd.underlying34 Tryd.underlying5 Tryd.underlying9 _ _ [UInt8.ofNat c] rfl (own_row _ [UInt8.ofNat c] _ HV.out (by simp)) ?_)))
              go_roundw
              case rel => exact ⟨k + 1, _, acc ++ p ++ [UInt8.ofNat c], by omega, by go_num, rfl, by omega, by omega, by rw [X.out]; simp [str_append], by rw [List.length_append, List.length_append, List.length_singleton]; omega, HT2, (by repeat (first | exact Bel.refl _ | refine Bel.drewN ?_ _ | refine Bel.drew ?_ | refine Bel.alloc ?_ _ | refine Bel.trans ?_ (by assumption) | refine Bel.setCell ?_ (by simp; omega) _))⟩
              case measure => simp [intOf]; omega
    · obtain rfl : k = xs.length := by omega
      have HE := Lib.hid (show M.encK 0 xs = some (acc ++ M.shiftB now 0) by rw [HT.out, List.drop_length, M.encK]; rfl)
      by_cases h0 : now = 0
      · subst h0
        have HF := Lib.hid (show M.rawK xs = (acc, 0) by rw [M.rawK, HE.out]; simp [M.shiftB])
        go_wp2_with fail
        go_ret2
        rw [HF.out]
        exact ⟨rfl, hb⟩
      · have e1 : (now != 0) = true := by simpa using h0
        have HF := Lib.hid (show M.rawK xs = (acc ++ [27, 40, 66], 0) by rw [M.rawK, HE.out, M.shiftB, if_neg (by omega)]; rfl)
        clear h0
        go_wp2_with fail
        go_ret2
        rw [HF.out]
        exact ⟨by simp [str_append], hb⟩
end Go.Proofs.YtbddfefcgfenfaaDoor

/-
  Package kana: Raw, Encode.
-/
import Derived.Test.YtbddfefcgfenfaaDoorKana3
namespace Go.Proofs.YtbddfefcgfenfaaDoor
open Go.RowKit
set_option maxRecDepth 1000000

theorem escape_to (g : Int) (l : List UInt8) (h : [27, 40, M.escB g] = l) (hg : g = 0 ∨ g = 1 ∨ g = 2) (w : World) : Calls Tryd.prog 135 #[.int .i64 g] w fun e w' => e = .returned (.string ⟨l.toArray⟩) ∧ Bel w w' := by
  have := escape_any g hg w; rw [h] at this; exact this
set_option maxHeartbeats 4000000 in
theorem rawK_any (v : Value) (xs : List Int) (w : World) (hv : IntSl w v xs) (hlen : xs.length ≤ 1000000) : Calls Tryd.prog 99 #[v] w fun e w' => e = .returned (.tuple #[.string ⟨(M.rawK xs).1.toArray⟩, .int .i64 (M.rawK xs).2]) ∧ Bel w w' := by
  obtain ⟨a, ca, rfl, hc1, hc2, hn, hx⟩ := hv
  unfold maxLen at hc2
  go_enter Tryd.func99, Tryd.ntmps99
  go_wp2_with fail
  go_loopw [4, 5, 12] (fun vg vs i wr => ∃ (k : Nat) (now : Int) (acc : List UInt8), k ≤ xs.length ∧ i = .int .i64 k ∧ vg = .int .i64 now ∧ 0 ≤ now ∧ now ≤ 2 ∧ vs = .string ⟨acc.toArray⟩ ∧ acc.length ≤ 4 * k ∧ Hid (M.encK 0 xs = (M.encK now (xs.drop k)).map (acc ++ ·)) ∧ Bel w wr) (fun _ _ i _ => xs.length - (intOf i).toNat)
  case atStart => exact ⟨0, 0, [], by omega, rfl, rfl, by omega, by omega, rfl, by simp, Lib.hid (by rw [List.drop_zero]; cases M.encK 0 xs <;> rfl), Bel.refl _⟩
  case round =>
    obtain ⟨k, now, acc, hk, rfl, rfl, hg0, hg1, rfl, hal, HT, hb⟩ := hrel
    by_cases hlt : k < xs.length
    · obtain ⟨n, hy⟩ : ∃ n, xs[k]? = some n := ⟨_, List.getElem?_eq_getElem hlt⟩
      have hdr : xs.drop k = n :: xs.drop (k + 1) := by
        rw [List.drop_eq_getElem_cons hlt]
        rw [List.getElem?_eq_getElem hlt] at hy
        injection hy with hy
        rw [hy]
      cases a with
      | none => exfalso; have h3 := hlt; rw [hn rfl, List.length_nil] at h3; omega
      | some x =>
        have hcw := hx x rfl k n hy
        have hcell : wr.cell? (x.add k) = some (.int .i64 n) := (Bel.cell hb (World.block_lt_of_cell? w _ hcw)).trans hcw
        have i1 : (k : Int) < (xs.length : Int) := by omega
        rcases M.findK_or now n with ⟨hf, h0, h1, h2, h3⟩ | ⟨g, c, hf, hg, hbk, hc, h27⟩
        · have HF := Lib.hid (show M.rawK xs = ([], 5) by
            rw [M.rawK, HT.out, hdr, M.encK, if_pos (by rw [hf]; decide)]; rfl)
          have H0 := Lib.hid h0
          have H1 := Lib.hid h1
          have H2 := Lib.hid h2
          have H3 := Lib.hid h3
          clear hx hn hy hdr hcw hf h0 h1 h2 h3
          go_wp2_with (first | (go_at_call 132; refine (find_no now n H0.out H1.out H2.out H3.out _).mono ?_; rintro e w' ⟨rfl, hb2⟩))
          go_ret2
          rw [HF.out]
          exact ⟨rfl, (by repeat (first | exact Bel.refl _ | refine Bel.drewN ?_ _ | refine Bel.drew ?_ | refine Bel.alloc ?_ _ | refine Bel.trans ?_ (by assumption) | refine Bel.setCell ?_ (by simp; omega) _))⟩
        · have hg2 : g = 0 ∨ g = 1 ∨ g = 2 := by omega
          have hgn : 0 ≤ g := by omega
          have hgm : g ≤ 2 := by omega
          have HS := Lib.hid (M.encK_step now g n c (xs.drop (k + 1)) acc hf hgn hbk)
          have HT2 := Lib.hid (show M.encK 0 xs = (M.encK g (xs.drop (k + 1))).map ((acc ++ M.shiftB now g ++ [UInt8.ofNat c]) ++ ·) by
            rw [HT.out, hdr, HS.out])
          have HF := Lib.hid hf
          have HG := Lib.hid hg2
          have HB := Lib.hid hbk
          have HV := Lib.hid (show [UInt8.ofNat c].map byteVal = [.int .u8 (c : Int)] by simp [byteVal]; omega)
          by_cases he : g = now
          · subst he
            have HL := Lib.hid (show acc ++ M.shiftB g g ++ [UInt8.ofNat c] = acc ++ [UInt8.ofNat c] by simp [M.shiftB])
            rw [HL.out] at HT2
            clear hx hn hy hdr hcw hf hg hbk HS hg2
            go_wp2_with (first | (go_at_call 132; refine (find_yes g n g c HF.out hgn HB.out _).mono ?_; rintro e w' ⟨rfl, hb2⟩) | ((with_reducible show wpList _ _ _ _ _ _); refine wpList_toString rfl (.tmp 34) _ _ 5 rfl Tryd.underlying34 Tryd.underlying5 Tryd.underlying9 _ _ [UInt8.ofNat c] rfl (own_row _ [UInt8.ofNat c] _ HV.out (by simp)) ?_))
            go_roundw
            case rel => exact ⟨k + 1, g, acc ++ [UInt8.ofNat c], by omega, by go_num, rfl, by omega, by omega, by simp [str_append], by rw [List.length_append, List.length_singleton]; omega, HT2, (by repeat (first | exact Bel.refl _ | refine Bel.drewN ?_ _ | refine Bel.drew ?_ | refine Bel.alloc ?_ _ | refine Bel.trans ?_ (by assumption) | refine Bel.setCell ?_ (by simp; omega) _))⟩
            case measure => simp [intOf]; omega
          · have e1 : (g != now) = true := by simpa using he
            obtain ⟨p, hp⟩ : ∃ p, [27, 40, M.escB g] = p := ⟨_, rfl⟩
            have HL := Lib.hid (show acc ++ M.shiftB now g ++ [UInt8.ofNat c] = acc ++ p ++ [UInt8.ofNat c] by rw [M.shiftB, if_neg he, hp])
            have hpl : p.length = 3 := by rw [← hp]; rfl
            have HP := Lib.hid hp
            rw [HL.out] at HT2
            clear hx hn hy hdr hcw hf hg hbk HS he hp hg2
            go_wp2_with (first | (go_at_call 132; refine (find_yes now n g c HF.out hgn HB.out _).mono ?_; rintro e w' ⟨rfl, hb2⟩) | (go_at_call 135; refine (escape_to g p HP.out HG.out _).mono ?_; rintro e w' ⟨rfl, hb3⟩) | ((with_reducible show wpList _ _ _ _ _ _); refine wpList_toString rfl (.tmp 34) _ _ 5 rfl Tryd.underlying34 Tryd.underlying5 Tryd.underlying9 _ _ [UInt8.ofNat c] rfl (own_row _ [UInt8.ofNat c] _ HV.out (by simp)) ?_))
            go_roundw
            case rel => exact ⟨k + 1, g, acc ++ p ++ [UInt8.ofNat c], by omega, by go_num, rfl, by omega, by omega, by simp [str_append], by rw [List.length_append, List.length_append, List.length_singleton]; omega, HT2, (by repeat (first | exact Bel.refl _ | refine Bel.drewN ?_ _ | refine Bel.drew ?_ | refine Bel.alloc ?_ _ | refine Bel.trans ?_ (by assumption) | refine Bel.setCell ?_ (by simp; omega) _))⟩
            case measure => simp [intOf]; omega
    · obtain rfl : k = xs.length := by omega
      have HE := Lib.hid (show M.encK 0 xs = some (acc ++ M.shiftB now 0) by rw [HT.out, List.drop_length, M.encK]; rfl)
      by_cases h0 : now = 0
      · subst h0
        have HF := Lib.hid (show M.rawK xs = (acc, 0) by rw [M.rawK, HE.out]; simp [M.shiftB])
        go_wp2_with fail
        go_ret2
        rw [HF.out]
        exact ⟨rfl, hb⟩
      · have e1 : (now != 0) = true := by simpa using h0
        have HF := Lib.hid (show M.rawK xs = (acc ++ [27, 40, 66], 0) by rw [M.rawK, HE.out, M.shiftB, if_neg (by omega)]; rfl)
        clear h0
        go_wp2_with (first | (go_at_call 135; refine (escape_to 0 [27, 40, 66] rfl (.inl rfl) _).mono ?_; rintro e w' ⟨rfl, hb3⟩))
        go_ret2
        rw [HF.out]
        exact ⟨by simp [str_append], (by repeat (first | exact Bel.refl _ | refine Bel.drewN ?_ _ | refine Bel.drew ?_ | refine Bel.alloc ?_ _ | refine Bel.trans ?_ (by assumption) | refine Bel.setCell ?_ (by simp; omega) _))⟩
end Go.Proofs.YtbddfefcgfenfaaDoor

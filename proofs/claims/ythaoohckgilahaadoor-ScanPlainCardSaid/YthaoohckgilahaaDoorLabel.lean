/-
  Package label: Trimmed, Folded, Trim, Fold, Of, Find, Name.
-/
import Derived.Test.YthaoohckgilahaaDoorIs
import Derived.Test.YthaoohckgilahaaDoorIndexFn
import Derived.Test.YthaoohckgilahaaDoorPlainLabel
import Derived.Test.YthaoohckgilahaaDoorShelf
import Derived.Shelf.Strings.SlTrimAscii
namespace Go.Proofs.YthaoohckgilahaaDoor
open Go.RowKit Go.Shelf Go.Lib
set_option maxRecDepth 1000000

theorem white_contains (c : UInt8) : [9, 10, 12, 13, 32].contains c = M.white c := by
  unfold M.white
  rw [Bool.eq_iff_iff]
  simp
  constructor <;> (rintro (h | h | h | h | h) <;> simp [h])
theorem trimS_eq (l : List UInt8) : Lib.trimS l [9, 10, 12, 13, 32] = M.trim l := by
  have e : (fun c : UInt8 => [9, 10, 12, 13, 32].contains c) = M.white := funext white_contains
  rw [M.trim_rev]
  unfold Lib.trimS Lib.trimLeftS Lib.trimRightS M.trimL M.trimR
  rw [e]
theorem trimmed_any (s : ByteArray) (w : World) (hs : s.size ≤ 9223372036854775807) : Calls Tryd.prog 61 #[.string s] w fun e w' => e = .returned (.string ⟨(M.trim s.data.toList).toArray⟩) ∧ Bel w w' := by
  have hcon : Calls Tryd.prog 77 #[.string s, .string ⟨#[9, 10, 12, 13, 32]⟩] w fun e w' => e = .returned (.string ⟨(Lib.trimS s.data.toList [9, 10, 12, 13, 32]).toArray⟩) ∧ Below w.heap.size w w' :=
    Any.strings_Trim_laid Tryd.lays160 (by kernel_rfl) s ⟨#[9, 10, 12, 13, 32]⟩ w hs (by decide) (ascii_of_all (by decide))
  rw [trimS_eq] at hcon
  generalize (⟨(M.trim s.data.toList).toArray⟩ : ByteArray) = r at hcon ⊢
  go_enter Tryd.func61, Tryd.ntmps61
  go_wp2_with (go_at_call 77; refine (hcon).mono ?_; rintro e w' ⟨rfl, hb⟩)
  go_ret
  exact ⟨rfl, hb⟩
theorem fold_at (l : List UInt8) (j : Nat) : (M.fold l)[j]? = l[j]?.map M.fold1 := by unfold M.fold; rw [List.getElem?_map]
theorem folded_any (s : ByteArray) (w : World) (hs : s.size ≤ 68719476735) : Calls Tryd.prog 50 #[.string s] w fun e w' => e = .returned (.string ⟨(M.fold s.data.toList).toArray⟩) ∧ Bel w w' := by
  have HS := Lib.hid (Lib.size_eq s)
  have HL := Lib.hid (show (M.fold s.data.toList).length = s.size by rw [M.fold_len, ← Lib.size_eq])
  go_enter Tryd.func50, Tryd.ntmps50
  go_wp2_with (first | ((with_reducible show wpList _ _ _ _ _ _); refine wpList_toBytes rfl (.tmp 6) _ _ 5 rfl Tryd.underlying9 Tryd.underlying72 Tryd.underlying5 s rfl (by omega) ?_; intro cb w2 hb2 hg2 hcb1 hcb2 hcellb hfrz))
  go_loopw [10] (fun i wr => ∃ k : Nat, k ≤ s.size ∧ i = .int .i64 k ∧ Below w.heap.size w2 wr ∧ Hid (∀ j b, s.data.toList[j]? = some b → wr.cell? ⟨w.heap.size, j, none⟩ = some (byteVal (if j < k then M.fold1 b else b))) ∧ (∀ j, j < s.size → wr.frozen? ⟨w.heap.size, j, none⟩ = false)) (fun i _ => s.size - (RowKit.intOf i).toNat)
  case atStart => exact ⟨0, by omega, rfl, Below.refl _ _, Lib.hid (fun j b hj => by rw [if_neg (by omega)]; exact hcellb j b hj), hfrz⟩
  case round =>
    obtain ⟨k, hk, rfl, hb, HC, hf⟩ := hrel
    by_cases hlt : k < s.size
    · have hbyte := byte_at s k hlt
      have hcell := HC.out k _ hbyte
      rw [if_neg (Nat.lt_irrefl k)] at hcell
      have hfz := hf k hlt
      have Hf := Lib.hid hf
      have HB := Lib.hid hbyte
      unfold byteVal at hcell
      clear hf hcellb hfrz hbyte
      generalize s[k] = c at *
      have hc0 : c.toNat < 256 := c.toNat_lt
      by_cases h1 : 65 ≤ c.toNat ∧ c.toNat ≤ 90
      · obtain ⟨h1, h2⟩ := h1
        have HN := Lib.hid (M.add32 c ⟨h1, h2⟩)
        go_wp2_with fail
        go_roundw
        case rel =>
          refine ⟨k + 1, by omega, by go_num, hb.setCell (Nat.le_refl _) _, Lib.hid (fun j b hj => ?_), fun j hj => by rw [World.frozen?_setCell]; exact Hf.out j hj⟩
          by_cases hjk : j = k
          · subst hjk
            rw [HB.out] at hj
            injection hj with hj
            subst hj
            rw [World.cell?_setCell_same _ _ _ hcell, if_pos (by omega), byteVal, M.fold1, if_pos ⟨h1, h2⟩, HN.out]
            rfl
          · rw [World.cell?_setCell_other _ _ _ _ (fun h => hjk (by injection h with _ h; exact h.symm)), HC.out j b hj]
            congr 2
            by_cases hjk2 : j < k
            · rw [if_pos hjk2, if_pos (by omega)]
            · rw [if_neg hjk2, if_neg (by omega)]
        case measure => simp [RowKit.intOf]; omega
      · have HF := Lib.hid (show M.fold1 c = c by rw [M.fold1, if_neg h1])
        have HR := Lib.hid (show ∀ j b, s.data.toList[j]? = some b → wr.cell? ⟨w.heap.size, j, none⟩ = some (byteVal (if j < k + 1 then M.fold1 b else b)) by
          intro j b hj
          rw [HC.out j b hj]
          congr 2
          by_cases hjk : j = k
          · subst hjk
            rw [HB.out] at hj
            injection hj with hj
            subst hj
            rw [if_neg (Nat.lt_irrefl _), if_pos (by omega), HF.out]
          · by_cases hjk2 : j < k
            · rw [if_pos hjk2, if_pos (by omega)]
            · rw [if_neg hjk2, if_neg (by omega)])
        by_cases h2 : 65 ≤ c.toNat
        · have h3 : ¬ c.toNat ≤ 90 := fun h => h1 ⟨h2, h⟩
          clear h1
          go_wp2_with fail
          go_roundw
          case rel => exact ⟨k + 1, by omega, by go_num, hb, HR, Hf.out⟩
          case measure => simp [RowKit.intOf]; omega
        · clear h1
          go_wp2_with fail
          go_roundw
          case rel => exact ⟨k + 1, by omega, by go_num, hb, HR, Hf.out⟩
          case measure => simp [RowKit.intOf]; omega
    · obtain rfl : k = s.size := by omega
      have HR := Lib.hid (show ∀ j b, (M.fold s.data.toList)[j]? = some b → wr.cell? ⟨w.heap.size, j, none⟩ = some (byteVal b) by
        intro j b hj
        rw [fold_at] at hj
        cases hq : s.data.toList[j]? with
        | none => rw [hq] at hj; cases hj
        | some c =>
          rw [hq] at hj
          injection hj with hj
          rw [HC.out j c hq, if_pos (by rw [Lib.size_eq]; exact (List.getElem?_eq_some_iff.1 hq).1), hj])
      clear hf hcellb hfrz HC
      go_wp2_with ((with_reducible show wpList _ _ _ _ _ _); refine wpList_toStringC rfl (.tmp 27) _ _ 5 rfl Tryd.underlying72 Tryd.underlying5 Tryd.underlying9 w.heap.size cb (M.fold s.data.toList) (by rw [HL.out]; rfl) HR.out ?_)
      go_ret
      exact ⟨rfl, hb2.upto hb (Nat.le_refl _)⟩
end Go.Proofs.YthaoohckgilahaaDoor

/-
  The first rune that is some byte below 128: the first such byte.
-/
import Derived.Test.YthaoohckgilahaaDoorPlainScan
import Derived.Shelf.GgClosure.StringsIndexFunc
import Derived.Lib.SpaceUEq
namespace Go.Proofs.YthaoohckgilahaaDoor.M
open Go

theorem get_cons (s : ByteArray) (i : Nat) (h : i < s.size) : s.data.toList.drop i = s.get! i :: s.data.toList.drop (i + 1) := by
  have hk : i < s.data.toList.length := by rw [← Lib.size_eq]; exact h
  rw [List.drop_eq_getElem_cons hk]
  congr 1
  show _ = s.data[i]!
  have h2 : i < s.data.size := by simpa using hk
  rw [getElem!_pos s.data i h2, Array.getElem_toList]
theorem dec_low (s : ByteArray) (i : Nat) (h : (s.get! i).toNat < 128) : Utf8.decode s i = ((s.get! i).toNat, 1) := by
  rw [Lib.decode_at, Lib.decodeN_ascii _ _ _ _ _ h]
theorem dec_high (n b0 b1 b2 b3 : Nat) (h : 128 ≤ b0) : 128 ≤ (Lib.decodeN n b0 b1 b2 b3).1 ∧ 1 ≤ (Lib.decodeN n b0 b1 b2 b3).2 := by
  unfold Lib.decodeN
  repeat' split
  all_goals (simp only; omega)
/-- The first place at which q holds, from k on; -1: none. -/
def firstB (q : UInt8 → Bool) (k : Nat) (l : Bs) : Int := if l.dropWhile (fun c => !q c) = [] then -1 else ((k + (l.takeWhile (fun c => !q c)).length : Nat) : Int)
theorem firstB_no (q : UInt8 → Bool) (k : Nat) (c : UInt8) (t : Bs) (h : q c = false) : firstB q k (c :: t) = firstB q (k + 1) t := by
  have hn : (!q c) = true := by rw [h]; rfl
  unfold firstB
  rw [List.dropWhile_cons_of_pos (p := fun c => !q c) hn, List.takeWhile_cons_of_pos (p := fun c => !q c) hn, List.length_cons]
  congr 2
  omega
theorem firstB_yes (q : UInt8 → Bool) (k : Nat) (c : UInt8) (t : Bs) (h : q c = true) : firstB q k (c :: t) = k := by
  have hn : ¬ (!q c) = true := by rw [h]; decide
  unfold firstB
  rw [List.dropWhile_cons_of_neg (p := fun c => !q c) hn, List.takeWhile_cons_of_neg (p := fun c => !q c) hn, if_neg (by simp)]
  rfl
theorem firstB_skip (q : UInt8 → Bool) (s : ByteArray) (pos : Nat) : ∀ (n : Nat), pos + n ≤ s.size → (∀ j, j < n → q (s.get! (pos + j)) = false) → firstB q pos (s.data.toList.drop pos) = firstB q (pos + n) (s.data.toList.drop (pos + n))
  | 0, _, _ => rfl
  | n + 1, h, hq => by
    rw [firstB_skip q s pos n (by omega) (fun j hj => hq j (by omega)), get_cons s (pos + n) (by omega), firstB_no q _ _ _ (hq n (by omega))]
    rfl
theorem idx_byte (p : Nat → Bool) (q : UInt8 → Bool) (hp : ∀ b : UInt8, b.toNat < 128 → p b.toNat = q b) (hh : ∀ r, 128 ≤ r → p r = false) (hq : ∀ b : UInt8, 128 ≤ b.toNat → q b = false) (s : ByteArray) : ∀ (f pos : Nat), pos ≤ s.size → s.size - pos ≤ f → Lib.idxFuncFrom p true s f pos = firstB q pos (s.data.toList.drop pos)
  | 0, pos, h1, h2 => by
    obtain rfl : pos = s.size := by omega
    rw [List.drop_eq_nil_of_le (by rw [← Lib.size_eq]; exact Nat.le_refl _)]
    rfl
  | f + 1, pos, h1, h2 => by
    rw [Lib.idxFuncFrom]
    by_cases hlt : pos < s.size
    · rw [if_pos hlt]
      by_cases hb : (s.get! pos).toNat < 128
      · rw [dec_low s pos hb, get_cons s pos hlt]
        simp only
        rw [hp _ hb]
        cases hc : q (s.get! pos) with
        | true => rw [if_pos rfl, firstB_yes q _ _ _ hc]
        | false =>
          rw [if_neg (by decide), firstB_no q _ _ _ hc]
          exact idx_byte p q hp hh hq s f (pos + 1) (by omega) (by omega)
      · have d1 := dec_high (s.size - pos) (s.get! pos).toNat (s.get! (pos + 1)).toNat (s.get! (pos + 2)).toNat (s.get! (pos + 3)).toNat (by omega)
        have d2 := Lib.decodeN_conts (s.size - pos) (s.get! pos).toNat (s.get! (pos + 1)).toNat (s.get! (pos + 2)).toNat (s.get! (pos + 3)).toNat
        rw [← Lib.decode_at] at d1 d2
        rw [hh _ d1.1, if_neg (by decide)]
        generalize (Utf8.decode s pos).2 = n at *
        obtain ⟨c2, c3, c4, c5⟩ := d2
        rw [firstB_skip q s pos n (by omega) ?_]
        · exact idx_byte p q hp hh hq s f (pos + n) (by omega) (by omega)
        · intro j hj
          apply hq
          rcases j with _ | _ | _ | _ | j
          · show 128 ≤ (s.get! pos).toNat; omega
          · show 128 ≤ (s.get! (pos + 1)).toNat; omega
          · show 128 ≤ (s.get! (pos + 2)).toNat; omega
          · show 128 ≤ (s.get! (pos + 3)).toNat; omega
          · omega
    · obtain rfl : pos = s.size := by omega
      rw [if_neg hlt, List.drop_eq_nil_of_le (by rw [← Lib.size_eq]; exact Nat.le_refl _)]
      rfl
end Go.Proofs.YthaoohckgilahaaDoor.M

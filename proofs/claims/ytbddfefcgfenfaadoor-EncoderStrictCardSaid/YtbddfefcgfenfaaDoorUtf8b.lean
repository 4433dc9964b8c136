/-
  Package utf8: what Told, All, Decode, Split compute.
-/
import Derived.Test.YtbddfefcgfenfaaDoorUtf8
namespace Go.Proofs.YtbddfefcgfenfaaDoor
open Go.RowKit
set_option maxRecDepth 100000

theorem first_to (s : ByteArray) (n k : Int) (b : Bool) (h : M.first8 s.data.toList = (n, k, b)) (hs : 0 < s.size) (hs2 : s.size ≤ 68719476735) (w : World) : Calls Tryd.prog 172 #[.string s] w fun e w' => e = .returned (.tuple #[.int .i64 n, .int .i64 k, .bool b]) ∧ w = w' := by
  have := first_any s hs hs2 w; rw [h] at this; exact this
theorem told8_any (s : ByteArray) (hs : s.size ≤ 68719476735) (w : World) : Calls Tryd.prog 153 #[.string s] w fun e w' => ∃ v, e = .returned (.tuple #[v, .string ⟨(M.told8 s.data.toList).2.toArray⟩]) ∧ Own w.heap.size 3 w' v ((M.told8 s.data.toList).1.map (Value.int .i64)) ∧ Bel w w' := by
  go_enter Tryd.func153, Tryd.ntmps153
  go_wp2_with fail
  go_loopw [0, 4] (fun vs v wr => ∃ (s' : ByteArray) (xs : List Int), vs = .string s' ∧ xs.length + s'.size ≤ s.size ∧ Hid (M.told8 s.data.toList = (xs ++ (M.told8 s'.data.toList).1, (M.told8 s'.data.toList).2)) ∧ Own w.heap.size 3 wr v (xs.map (Value.int .i64)) ∧ Bel w wr) (fun vs _ _ => strLen vs)
  case atStart => exact ⟨s, [], rfl, by simp, Lib.hid (by simp), Own.nil _ _ _, Bel.refl _⟩
  case round =>
    obtain ⟨s', xs, rfl, hle, HT, hown, hb⟩ := hrel
    by_cases he : s'.size = 0
    · have e0 : s'.toList = [] := by rw [Lib.toList_data]; exact List.eq_nil_of_length_eq_zero (by rw [← Lib.size_eq]; exact he)
      have HF := Lib.hid (show M.told8 s.data.toList = (xs, s'.data.toList) by
        rw [HT.out, ← Lib.toList_data, e0]; simp [M.told8_nil])
      have e1 : (!s'.toList.isEmpty) = false := by rw [e0]; rfl
      clear he e0
      go_wp2_with fail
      go_ret2
      rw [HF.out]
      exact ⟨_, by rw [str_eq]; rfl, hown, hb⟩
    · have hpos : 0 < s'.size := by omega
      have e1 : (!s'.toList.isEmpty) = true := by
        rw [Lib.toList_data]
        have : s'.data.toList ≠ [] := fun h => he (by rw [Lib.size_eq, h]; rfl)
        simpa using this
      obtain ⟨c, t, hct⟩ := cons_of_pos s' hpos
      obtain ⟨⟨n, k, b⟩, hf⟩ : ∃ r, M.first8 s'.data.toList = r := ⟨_, rfl⟩
      have hbd : 1 ≤ k ∧ k ≤ (s'.size : Int) := by
        have h2 := M.first8_bounds c t
        rw [← hct, hf, ← Lib.size_eq] at h2
        exact h2
      obtain ⟨kk, rfl⟩ := Int.eq_ofNat_of_zero_le (show 0 ≤ k by omega)
      have Hf := Lib.hid hf
      cases b with
      | false =>
        have HF := Lib.hid (show M.told8 s.data.toList = (xs, s'.data.toList) by
          rw [HT.out, hct, M.told8_no c t (by rw [← hct, hf])]; simp)
        clear he hf hct
        go_wp2_with (go_at_call 172; refine (first_to _ _ _ _ Hf.out hpos (by omega) _).mono ?_; rintro e w' ⟨rfl, rfl⟩)
        go_ret2
        rw [HF.out]
        exact ⟨_, by rw [str_eq]; rfl, hown, hb⟩
      | true =>
        have HF := Lib.hid (show M.told8 s.data.toList = ((xs ++ [n]) ++ (M.told8 (s'.extract kk s'.size).data.toList).1, (M.told8 (s'.extract kk s'.size).data.toList).2) by
          rw [HT.out, drop_str, hct, M.told8_ok c t (by rw [← hct, hf]), ← hct, hf]; simp)
        have HS := Lib.hid (drop_size s' kk)
        have hk1 : 1 ≤ kk := by omega
        have hk2 : kk ≤ s'.size := by omega
        clear he hf hct hbd
        go_wp2_with (first | (go_at_call 172; refine (first_to _ _ _ _ Hf.out hpos (by omega) _).mono ?_; rintro e w' ⟨rfl, rfl⟩) | (at_builtin; refine wpList_app rfl (.tmp 18) (.tmp 20) 36 rfl elemInt (by decide) w.heap.size _ _ _ rfl rfl hown rfl (by simp; omega) (by first | exact Nat.le_refl _ | assumption | (have := hb.size; omega)) ?_; intro v' w1 hown' hb1))
        go_roundw
        case rel => exact ⟨_, xs ++ [n], rfl, by rw [HS.out, List.length_append, List.length_singleton]; omega, HF, by rw [List.map_append]; exact hown', hb.upto hb1 (Nat.le_refl _)⟩
        case measure => simp only [strLen, HS.out]; omega
theorem told8_to (s : ByteArray) (xs : List Int) (l : List UInt8) (h : M.told8 s.data.toList = (xs, l)) (hs : s.size ≤ 68719476735) (w : World) : Calls Tryd.prog 153 #[.string s] w fun e w' => ∃ v, e = .returned (.tuple #[v, .string ⟨l.toArray⟩]) ∧ Own w.heap.size 3 w' v (xs.map (Value.int .i64)) ∧ Bel w w' := by
  have := told8_any s hs w; rw [h] at this; exact this
theorem all8_any (s : ByteArray) (hs : s.size ≤ 68719476734) (w : World) : Calls Tryd.prog 119 #[.string s] w fun e w' => ∃ v, e = .returned v ∧ Own w.heap.size 3 w' v ((M.all8 s.data.toList).map (Value.int .i64)) ∧ Bel w w' := by
  obtain ⟨⟨xs, l⟩, ht⟩ : ∃ r, M.told8 s.data.toList = r := ⟨_, rfl⟩
  have hlen := M.told8_len s.data.toList
  rw [ht, ← Lib.size_eq] at hlen
  have Ht := Lib.hid ht
  by_cases he : l = []
  · subst he
    have HA := Lib.hid (show M.all8 s.data.toList = xs by rw [M.all8, ht, if_pos rfl])
    clear ht hlen
    go_enter Tryd.func119, Tryd.ntmps119
    go_wp2_with (go_at_call 153; refine (told8_to _ _ _ Ht.out (by omega) _).mono ?_; rintro e w' ⟨v, rfl, ho, hb⟩)
    go_ret
    rw [HA.out]
    exact ⟨_, rfl, by assumption, by assumption⟩
  · have HA := Lib.hid (show M.all8 s.data.toList = xs ++ [65533] by rw [M.all8, ht, if_neg he])
    have e1 : (!l.isEmpty) = true := by simpa using he
    have hl2 : xs.length ≤ s.size := by simp only at hlen; omega
    clear ht hlen he
    go_enter Tryd.func119, Tryd.ntmps119
    go_wp2_with (first | (go_at_call 153; refine (told8_to _ _ _ Ht.out (by omega) _).mono ?_; rintro e w' ⟨v, rfl, ho, hb⟩; have hB := hb.size) | (at_builtin; refine wpList_app rfl (.tmp 12) (.tmp 13) 36 rfl elemInt (by decide) w.heap.size _ _ _ rfl rfl ho rfl (by simp; omega) (by first | exact Nat.le_refl _ | assumption | (have := hb.size; omega)) ?_; intro v' w1 hown' hb1))
    go_ret
    rw [HA.out]
    exact ⟨_, rfl, by rw [List.map_append]; exact hown', hb.upto hb1 (Nat.le_refl _)⟩
end Go.Proofs.YtbddfefcgfenfaaDoor

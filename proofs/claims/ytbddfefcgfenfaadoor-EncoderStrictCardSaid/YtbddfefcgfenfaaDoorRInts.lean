/-
  Are two lists of numbers the same? What the references' SameInts and the laws' intsAre answer.
-/
import Derived.Test.YtbddfefcgfenfaaDoorBase3
import Derived.Test.YtbddfefcgfenfaaDoorPlain
namespace Go.Proofs.YtbddfefcgfenfaaDoor
open Go.RowKit

set_option maxRecDepth 100000 in
theorem sameInts_any (v1 v2 : Value) (xs ys : List Int) (w : World) (h1 : IntSl w v1 xs) (h2 : IntSl w v2 ys) : Calls Tryd.prog 51 #[v1, v2] w fun e w' => e = .returned (.bool (xs == ys)) ∧ Bel w w' := by
  obtain ⟨a, ca, rfl, hc1, hc2, hn, hx⟩ := h1
  obtain ⟨b, cb, rfl, hc3, hc4, hn2, hy⟩ := h2
  unfold maxLen at hc2 hc4
  by_cases hl : xs.length = ys.length
  · have hl1 : xs.length ≤ ys.length := by omega
    have hl2 : ys.length ≤ xs.length := by omega
    have hlb : ((xs.length : Int) != (ys.length : Int)) = false := by rw [bne_eq_false_iff_eq]; omega
    have HL := Lib.hid hl
    clear hl
    go_enter Tryd.func51, Tryd.ntmps51
    go_wp2_with fail
    go_loopw [5] (fun i wr => ∃ k : Nat, k ≤ xs.length ∧ i = .int .i64 k ∧ Hid (∀ j, j < k → xs[j]? = ys[j]?) ∧ ∃ q, wr = w.drewN q) (fun i _ => xs.length - (intOf i).toNat)
    case atStart => exact ⟨0, by omega, rfl, Lib.hid (fun j hj => by omega), 0, rfl⟩
    case round =>
      obtain ⟨k, hk, rfl, HE, q, rfl⟩ := hrel
      by_cases hlt : k < xs.length
      · obtain ⟨m, hm⟩ : ∃ m, xs[k]? = some m := ⟨_, List.getElem?_eq_getElem hlt⟩
        obtain ⟨n, hn1⟩ : ∃ n, ys[k]? = some n := ⟨_, List.getElem?_eq_getElem (by omega)⟩
        cases a with
        | none => rw [hn rfl] at hlt; simp at hlt
        | some x =>
          cases b with
          | none => exfalso; have hl3 := hl1; rw [hn2 rfl, List.length_nil] at hl3; omega
          | some y =>
            have hcx := hx x rfl k m hm
            have hcy := hy y rfl k n hn1
            have i1 : (k : Int) < (xs.length : Int) := by omega
            have i2 : (k : Int) < (ys.length : Int) := by omega
            have i0 : (0 : Int) ≤ (k : Int) := by omega
            by_cases he : m = n
            · subst he
              have HF := Lib.hid (show ∀ j, j < k + 1 → xs[j]? = ys[j]? from fun j hj => by
                by_cases hjk : j < k
                · exact HE.out j hjk
                · obtain rfl : j = k := by omega
                  rw [hm, hn1])
              clear hx hy hn hn2 hm hn1
              go_wp2_with fail
              go_quiet (fail)
              go_wp2_with fail
              go_roundw
              case rel => exact ⟨k + 1, by omega, by go_num, HF, _, rfl⟩
              case measure => simp [intOf]; omega
            · have hne : (m != n) = true := by simpa using he
              have HF := Lib.hid (show (xs == ys) = false by
                rw [beq_eq_false_iff_ne]; rintro rfl
                rw [hm] at hn1; injection hn1 with hn1; exact he hn1)
              clear hx hy hn hn2 hm hn1 he
              go_wp2_with fail
              go_quiet (fail)
              go_wp2_with fail
              go_ret
              rw [HF.out]
              exact ⟨rfl, (by repeat (first | exact Bel.refl _ | refine Bel.drewN ?_ _ | refine Bel.drew ?_ | refine Bel.alloc ?_ _ | refine Bel.trans ?_ (by assumption) | refine Bel.setCell ?_ (by simp; omega) _))⟩
      · obtain rfl : k = xs.length := by omega
        have HF := Lib.hid (show (xs == ys) = true by
          rw [beq_iff_eq]
          refine List.ext_getElem? fun j => ?_
          by_cases hj : j < xs.length
          · exact HE.out j hj
          · rw [List.getElem?_eq_none (by omega), List.getElem?_eq_none (by omega)])
        go_wp2_with fail
        go_ret
        rw [HF.out]
        exact ⟨rfl, (by repeat (first | exact Bel.refl _ | refine Bel.drewN ?_ _ | refine Bel.drew ?_ | refine Bel.alloc ?_ _ | refine Bel.trans ?_ (by assumption) | refine Bel.setCell ?_ (by simp; omega) _))⟩
  · have hlb : ((xs.length : Int) != (ys.length : Int)) = true := by rw [bne_iff_ne]; omega
    have HF := Lib.hid (show (xs == ys) = false by rw [beq_eq_false_iff_ne]; rintro rfl; exact hl rfl)
    clear hl
    go_enter Tryd.func51, Tryd.ntmps51
    go_wp2_with fail
    go_ret
    rw [HF.out]
    exact ⟨rfl, Bel.refl _⟩
theorem sameInts_yes (v1 v2 : Value) (xs ys : List Int) (w : World) (h1 : IntSl w v1 xs) (h2 : IntSl w v2 ys) (h : xs = ys) : Calls Tryd.prog 51 #[v1, v2] w fun e w' => e = .returned (.bool true) ∧ Bel w w' := by
  have := sameInts_any v1 v2 xs ys w h1 h2
  rw [h] at this
  simpa using this
end Go.Proofs.YtbddfefcgfenfaaDoor

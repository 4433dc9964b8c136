/-
  The document's answers on attributes: SameAttrs.
-/
import Derived.Test.YthaoohckgilahaaDoorAttr4
import Derived.Laws.StructEq
namespace Go.Proofs.YthaoohckgilahaaDoor
open Go.RowKit
set_option maxRecDepth 1000000

theorem sameAttrs_any (v1 v2 : Value) (xs ys : List (List UInt8 × List UInt8)) (w : World) (h1 : AttrSl w v1 xs) (h2 : AttrSl w v2 ys) : Calls Tryd.prog 16 #[v1, v2] w fun e w' => e = .returned (.bool (xs == ys)) ∧ Bel w w' := by
  obtain ⟨a, ca, rfl, hc1, hc2, hn, hx⟩ := h1
  obtain ⟨b, cb, rfl, hd1, hd2, hm, hy⟩ := h2
  unfold maxLen at hc2 hd2
  by_cases hl : xs.length = ys.length
  · have hll : ((xs.length : Int) != (ys.length : Int)) = false := by simp; omega
    go_enter Tryd.func16, Tryd.ntmps16
    go_wp2_with fail
    go_loopw [5] (fun i wr => ∃ k : Nat, k ≤ xs.length ∧ i = .int .i64 k ∧ Bel w wr ∧ Hid (xs.take k = ys.take k)) (fun i _ => xs.length - (intOf i).toNat)
    case atStart => exact ⟨0, by omega, rfl, Bel.refl _, Lib.hid rfl⟩
    case round =>
      obtain ⟨k, hk, rfl, hb, HT⟩ := hrel
      by_cases hlt : k < xs.length
      · obtain ⟨p, hp⟩ : ∃ p, xs[k]? = some p := ⟨_, List.getElem?_eq_getElem hlt⟩
        obtain ⟨q, hq⟩ : ∃ q, ys[k]? = some q := ⟨_, List.getElem?_eq_getElem (by omega)⟩
        cases a with
        | none => exfalso; have h3 := hlt; rw [hn rfl, List.length_nil] at h3; omega
        | some x =>
          cases b with
          | none => exfalso; have h3 := hlt; rw [hl, hm rfl, List.length_nil] at h3; omega
          | some y =>
            obtain ⟨g, o1, rfl, hx'⟩ := hx x rfl
            obtain ⟨g2, o2, rfl, hy'⟩ := hy y rfl
            obtain ⟨c1, c2⟩ := hx' k p hp
            obtain ⟨d1, d2⟩ := hy' k q hq
            have c1 := (hb.cell (World.block_lt_of_cell? w _ c1)).trans c1
            have c2 := (hb.cell (World.block_lt_of_cell? w _ c2)).trans c2
            have d1 := (hb.cell (World.block_lt_of_cell? w _ d1)).trans d1
            have d2 := (hb.cell (World.block_lt_of_cell? w _ d2)).trans d2
            have hky : k < ys.length := by omega
            clear hx hy hx' hy' hn hm
            by_cases e1 : p.1 = q.1
            · by_cases e2 : p.2 = q.2
              · have HT2 := Lib.hid (show xs.take (k + 1) = ys.take (k + 1) by
                  rw [List.take_add_one, List.take_add_one, HT.out, hp, hq, Prod.ext e1 e2])
                clear hp hq
                go_wp2_with fail
                go_quiet (fail)
                go_wp2_with fail
                go_roundw
                case rel => exact ⟨k + 1, by omega, by go_num, hb.drewN _, HT2⟩
                case measure => simp [intOf]; omega
              · have HF := Lib.hid (show (xs == ys) = false by
                  rw [beq_eq_false_iff_ne]
                  intro h
                  subst h
                  rw [hp] at hq
                  injection hq with hq
                  exact e2 (by rw [hq]))
                clear hp hq
                go_wp2_with fail
                go_quiet (fail)
                go_wp2_with fail
                go_ret
                exact ⟨by rw [HF.out]; rfl, hb.drewN _⟩
            · have HF := Lib.hid (show (xs == ys) = false by
                rw [beq_eq_false_iff_ne]
                intro h
                subst h
                rw [hp] at hq
                injection hq with hq
                exact e1 (by rw [hq]))
              clear hp hq
              go_wp2_with fail
              go_quiet (fail)
              go_wp2_with fail
              go_ret
              exact ⟨by rw [HF.out]; rfl, hb.drewN _⟩
      · obtain rfl : k = xs.length := by omega
        have HF := Lib.hid (show (xs == ys) = true by
          have := HT.out
          rw [List.take_length, hl, List.take_length] at this
          rw [this]; exact beq_self_eq_true ys)
        go_wp2_with fail
        go_ret
        exact ⟨by rw [HF.out]; rfl, hb⟩
  · have hll : ((xs.length : Int) != (ys.length : Int)) = true := by simp; omega
    have HF := Lib.hid (show (xs == ys) = false by
      rw [beq_eq_false_iff_ne]
      intro h
      exact hl (by rw [h]))
    clear hl
    go_enter Tryd.func16, Tryd.ntmps16
    go_wp2_with fail
    go_ret
    exact ⟨by rw [HF.out]; rfl, Bel.refl _⟩
end Go.Proofs.YthaoohckgilahaaDoor

/-
  Texts of the proof, laid together: RAttr2, LawAttr. No condition of its own.
-/
import Derived.Test.YteingkjdemlhgaaGreatDoorG3
import Derived.Laws.StructEq

/-
  The document's answers on attributes: SameAttrs.
-/
namespace Go.Proofs.YteingkjdemlhgaaGreatDoor
open Go.RowKit
set_option maxRecDepth 1000000
theorem sameAttrs_any (v1 v2 : Value) (xs ys : List (List UInt8 × List UInt8)) (w : World) (h1 : AttrSl w v1 xs) (h2 : AttrSl w v2 ys) : Calls Tryz.prog 45 #[v1, v2] w fun e w' => e = .returned (.bool (xs == ys)) ∧ Bel w w' := by
  obtain ⟨a, ca, rfl, hc1, hc2, hn, hx⟩ := h1
  obtain ⟨b, cb, rfl, hd1, hd2, hm, hy⟩ := h2
  unfold maxLen at hc2 hd2
  by_cases hl : xs.length = ys.length
  · have hll : ((xs.length : Int) != (ys.length : Int)) = false := by simp; omega
    go_enter Tryz.func45, Tryz.ntmps45
    go_wp2_with fail
    go_loopw [5] (fun i wr => ∃ k : Nat, k ≤ xs.length ∧ i = .int .i64 k ∧ Bel w wr ∧ Hid (xs.take k = ys.take k)) (fun i _ => xs.length - (intOf i).toNat)
    case atStart => exact ⟨0, by omega, rfl, Bel.refl _, Lib.hid rfl⟩
    case round =>
      obtain ⟨k, hk, rfl, hb, HT⟩ := hrel
      by_cases hlt : k < xs.length
      · obtain ⟨p, hp⟩ : ∃ p, xs[k]? = some p := ⟨_, List.getElem?_eq_getElem hlt⟩
        obtain ⟨q, hq⟩ : ∃ q, ys[k]? = some q := ⟨_, List.getElem?_eq_getElem (by omega)⟩
        cases a with
        | none => exfalso; have h3 := hlt; rw [hn rfl, List.length_nil] at h3; omega
        | some x =>
          cases b with
          | none => exfalso; have h3 := hlt; rw [hl, hm rfl, List.length_nil] at h3; omega
          | some y =>
            obtain ⟨g, o1, rfl, hx'⟩ := hx x rfl (List.ne_nil_of_length_pos (by omega))
            obtain ⟨g2, o2, rfl, hy'⟩ := hy y rfl (List.ne_nil_of_length_pos (by omega))
            obtain ⟨c1, c2⟩ := hx' k p hp
            obtain ⟨d1, d2⟩ := hy' k q hq
            have c1 := (hb.cell (World.block_lt_of_cell? w _ c1)).trans c1
            have c2 := (hb.cell (World.block_lt_of_cell? w _ c2)).trans c2
            have d1 := (hb.cell (World.block_lt_of_cell? w _ d1)).trans d1
            have d2 := (hb.cell (World.block_lt_of_cell? w _ d2)).trans d2
            have hky : k < ys.length := by omega
            clear hx hy hx' hy' hn hm
            by_cases e1 : p.1 = q.1
            · by_cases e2 : p.2 = q.2
              · have HT2 := Lib.hid (show xs.take (k + 1) = ys.take (k + 1) by
                  rw [List.take_add_one, List.take_add_one, HT.out, hp, hq, Prod.ext e1 e2])
                clear hp hq
                go_wp2_with fail
                go_quiet (fail)
                go_wp2_with fail
                go_roundw
                case rel => exact ⟨k + 1, by omega, by go_num, hb.drewN _, HT2⟩
                case measure => simp [intOf]; omega
              · have HF := Lib.hid (show (xs == ys) = false by
                  rw [beq_eq_false_iff_ne]
                  intro h
                  subst h
                  rw [hp] at hq
                  injection hq with hq
                  exact e2 (by rw [hq]))
                clear hp hq
                go_wp2_with fail
                go_quiet (fail)
                go_wp2_with fail
                go_ret
                exact ⟨by rw [HF.out]; rfl, hb.drewN _⟩
            · have HF := Lib.hid (show (xs == ys) = false by
                rw [beq_eq_false_iff_ne]
                intro h
                subst h
                rw [hp] at hq
                injection hq with hq
                exact e1 (by rw [hq]))
              clear hp hq
              go_wp2_with fail
              go_quiet (fail)
              go_wp2_with fail
              go_ret
              exact ⟨by rw [HF.out]; rfl, hb.drewN _⟩
      · obtain rfl : k = xs.length := by omega
        have HF := Lib.hid (show (xs == ys) = true by
          have := HT.out
          rw [List.take_length, hl, List.take_length] at this
          rw [this]; exact beq_self_eq_true ys)
        go_wp2_with fail
        go_ret
        exact ⟨by rw [HF.out]; rfl, hb⟩
  · have hll : ((xs.length : Int) != (ys.length : Int)) = true := by simp; omega
    have HF := Lib.hid (show (xs == ys) = false by
      rw [beq_eq_false_iff_ne]
      intro h
      exact hl (by rw [h]))
    clear hl
    go_enter Tryz.func45, Tryz.ntmps45
    go_wp2_with fail
    go_ret
    exact ⟨by rw [HF.out]; rfl, Bel.refl _⟩
end Go.Proofs.YteingkjdemlhgaaGreatDoor

/-
  The laws on attributes: attrBegun, AttrEach.
-/
namespace Go.Proofs.YteingkjdemlhgaaGreatDoor
open Go.RowKit
set_option maxRecDepth 1000000
theorem begun_next : M.nextA ((⟨#[47, 32, 65, 32, 61, 32, 39, 66, 32, 99, 39, 32, 100, 62]⟩ : ByteArray).data.toList.drop 0) = (some ([97], [98, 32, 99]), [32, 100, 62]) := by decide +kernel
theorem begun_all : M.attrsA ((⟨#[97, 61, 49, 32, 98, 62]⟩ : ByteArray).data.toList.drop 0) = ([([97], [49]), ([98], [])], [62]) := by decide +kernel
theorem begun_charset : M.charE (⟨#[116, 101, 120, 116, 47, 104, 116, 109, 108, 59, 32, 67, 104, 97, 114, 115, 101, 116, 32, 61, 32, 34, 108, 97, 116, 105, 110, 49, 34]⟩ : ByteArray).data.toList = (4, 0) := by decide +kernel
theorem attrLit (w : World) (p q : List UInt8 × List UInt8) : AttrSl (w.alloc (.cells #[.string ⟨p.1.toArray⟩, .string ⟨p.2.toArray⟩, .string ⟨q.1.toArray⟩, .string ⟨q.2.toArray⟩] 56)) (.slice (some ⟨w.heap.size, 0, none⟩) 2 2) [p, q] := by
  refine ⟨some ⟨w.heap.size, 0, none⟩, 2, rfl, Nat.le_refl _, by unfold maxLen; omega, (fun h => by cases h), fun x hx _ => ⟨w.heap.size, 0, by injection hx with hx; exact hx.symm, fun i r hr => ?_⟩⟩
  match i, hr with
  | 0, hr => injection hr with hr; subst hr; exact ⟨by rw [World.cell?_alloc_new]; rfl, by rw [World.cell?_alloc_new]; rfl⟩
  | 1, hr => injection hr with hr; subst hr; exact ⟨by rw [World.cell?_alloc_new]; rfl, by rw [World.cell?_alloc_new]; rfl⟩
theorem attrBegun_any (w : World) (hL : Len w) : Calls Tryz.prog 17 #[] w fun e w' => e = .returned (.bool true) ∧ Bel w w' := by
  have h1 := nextOk_any ⟨#[47, 32, 65, 32, 61, 32, 39, 66, 32, 99, 39, 32, 100, 62]⟩ 0 (by decide) (by decide) _ _ begun_next (by decide)
  have h2 := allOk_any ⟨#[97, 61, 49, 32, 98, 62]⟩ 0 (by decide) (by decide) _ _ begun_all (by decide)
  have h3 := charset_to ⟨#[116, 101, 120, 116, 47, 104, 116, 109, 108, 59, 32, 67, 104, 97, 114, 115, 101, 116, 32, 61, 32, 34, 108, 97, 116, 105, 110, 49, 34]⟩ 4 0 begun_charset
  have H1 := Lib.hid h1
  have H2 := Lib.hid h2
  have H3 := Lib.hid h3
  clear h1 h2 h3
  go_enter Tryz.func17, Tryz.ntmps17
  go_wp2_with fail
  refine (H1.out _).mono ?_
  rintro e w1 ⟨rfl, b1⟩
  rw [show agA (some ([97], [98, 32, 99])) = .agg #[.string ⟨#[97]⟩, .string ⟨#[98, 32, 99]⟩] from rfl, show (some (([97], [98, 32, 99]) : List UInt8 × List UInt8)).isSome = true from rfl, show ((ByteArray.size ⟨#[47, 32, 65, 32, 61, 32, 39, 66, 32, 99, 39, 32, 100, 62]⟩ - List.length ([32, 100, 62] : List UInt8) : Nat) : Int) = 11 from rfl]
  go_wp2_with fail
  have hx := Box.new w1 56 [.string ⟨#[97]⟩, .string ⟨#[98, 32, 99]⟩]
  have b2 := b1.alloc (.cells #[.string ⟨#[97]⟩, .string ⟨#[98, 32, 99]⟩] 56)
  generalize (w1.alloc (.cells #[.string ⟨#[97]⟩, .string ⟨#[98, 32, 99]⟩] 56)) = w2 at *
  have hx : Box w2 w1.heap.size 56 [.string ⟨#[97]⟩, .string ⟨#[98, 32, 99]⟩] := hx
  refine (H2.out _).mono ?_
  rintro e w3 ⟨v, rfl, hown, b3⟩
  have hx := hx.bel b3
  have b4 := b2.trans b3
  have hsl := hown.sl
  rw [show ((ByteArray.size ⟨#[97, 61, 49, 32, 98, 62]⟩ - List.length ([62] : List UInt8) : Nat) : Int) = 5 from rfl]
  clear hown b3 b2 b1
  go_wp2_with fail
  refine (H3.out _ (hL.bel b4)).mono ?_
  rintro e w4 ⟨rfl, b5⟩
  have hx := hx.bel b5
  have hsl := hsl.bel b5
  have b6 := b4.trans b5
  have c0 := hx.cell 0 _ rfl
  have c1 := hx.cell 1 _ rfl
  clear b4 b5
  go_wp2_with (go_at_call 45; refine (sameAttrs_any v _ _ _ _ (hsl.bel ((Bel.refl w4).alloc _)) (attrLit w4 ([97], [49]) ([98], []))).mono ?_; rintro e w5 ⟨rfl, b7⟩)
  go_ret
  exact ⟨rfl, (b6.alloc _).trans b7⟩
end Go.Proofs.YteingkjdemlhgaaGreatDoor

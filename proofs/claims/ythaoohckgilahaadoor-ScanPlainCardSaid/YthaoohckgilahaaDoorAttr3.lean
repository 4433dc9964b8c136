/-
  Package attr: next.
-/
import Derived.Test.YthaoohckgilahaaDoorAttr2
import Derived.Deep.Cut
import Derived.Deep.CutRange
namespace Go.Proofs.YthaoohckgilahaaDoor
open Go.RowKit
set_option maxRecDepth 1000000

theorem white_to (c : UInt8) (b : Bool) (h : M.white c = b) (w : World) : Calls Tryd.prog 45 #[.int .u8 (c.toNat : Int)] w fun e w' => e = .returned (.bool b) ∧ w' = w :=
  (white_any c w).mono fun _ _ ⟨h1, h2⟩ => ⟨by rw [h1, h], h2.symm⟩
/-- A byte of a name, the first of which may be a =. -/
def nameP (from_ : Nat) (k : Nat) (c : UInt8) : Bool := !M.white c && ((c.toNat : Int) != 47) && ((c.toNat : Int) != 62) && (((c.toNat : Int) != 61) || ((k : Int) == (from_ : Int)))
theorem says_name (g : Nat) (s : ByteArray) (w : World) (b1 b4 : Nat) (from_ : Nat) (h1 : b1 ≠ g) (h4 : b4 ≠ g) (hx1 : Box w b1 48 [.pointer (some ⟨g, 0, none⟩)]) (hx4 : Box w b4 3 [.int .i64 (from_ : Int)]) :
    Says 48 #[.pointer (some ⟨b1, 0, none⟩), .pointer (some ⟨b4, 0, none⟩)] g s w (nameP from_) := fun W k c hB hR => by
  have c1 := (hB.box hx1 h1).cell 0 _ rfl
  have c4 := (hB.box hx4 h4).cell 0 _ rfl
  have cr := Box.cell hR 1 _ rfl
  show Calls Tryd.prog 48 #[.int .u8 (c.toNat : Int), .pointer (some ⟨b1, 0, none⟩), .pointer (some ⟨b4, 0, none⟩)] W _
  clear hx1 hx4 hB hR
  have H := Lib.hid (show nameP from_ k c = (!M.white c && ((c.toNat : Int) != 47) && ((c.toNat : Int) != 62) && (((c.toNat : Int) != 61) || ((k : Int) == (from_ : Int)))) from rfl)
  cases hw : M.white c with
  | true =>
    have HW := Lib.hid hw
    clear hw
    go_enter Tryd.func48, Tryd.ntmps48
    go_wp2_with fail
    go_quiet (first | (go_at_call 45; exact Calls.quiet_of_same (white_to c _ HW.out _)))
    go_wp2
    go_ret
    exact ⟨by rw [H.out, HW.out]; exact ret_bool (by simp [*]), _, rfl⟩
  | false =>
    have HW := Lib.hid hw
    clear hw
    cases h47 : ((c.toNat : Int) != 47) with
    | false =>
      go_enter Tryd.func48, Tryd.ntmps48
      go_wp2_with fail
      go_quiet (first | (go_at_call 45; exact Calls.quiet_of_same (white_to c _ HW.out _)))
      go_wp2
      go_ret
      exact ⟨by rw [H.out, HW.out]; exact ret_bool (by simp [*]), _, rfl⟩
    | true =>
      cases h62 : ((c.toNat : Int) != 62) with
      | false =>
        go_enter Tryd.func48, Tryd.ntmps48
        go_wp2_with fail
        go_quiet (first | (go_at_call 45; exact Calls.quiet_of_same (white_to c _ HW.out _)))
        go_wp2
        go_ret
        exact ⟨by rw [H.out, HW.out]; exact ret_bool (by simp [*]), _, rfl⟩
      | true =>
        cases h61 : ((c.toNat : Int) != 61) with
        | false =>
          go_enter Tryd.func48, Tryd.ntmps48
          go_wp2_with fail
          go_quiet (first | (go_at_call 45; exact Calls.quiet_of_same (white_to c _ HW.out _)))
          go_wp2
          go_ret
          exact ⟨by rw [H.out, HW.out]; exact ret_bool (by simp [*]), _, rfl⟩
        | true =>
          go_enter Tryd.func48, Tryd.ntmps48
          go_wp2_with fail
          go_quiet (first | (go_at_call 45; exact Calls.quiet_of_same (white_to c _ HW.out _)))
          go_wp2
          go_ret
          exact ⟨by rw [H.out, HW.out]; exact ret_bool (by simp [*]), _, rfl⟩
theorem name_rest (f : Nat) : ∀ (k : Nat) (t : List UInt8), f < k → passN (nameP f) k t = (t.takeWhile M.nameB).length
  | _, [], _ => rfl
  | k, c :: t, h => by
    have e : nameP f k c = M.nameB c := by
      have hkf : ((k : Int) == (f : Int)) = false := by simp; omega
      rw [nameP, hkf, Bool.or_false, M.nameB, Bool.and_assoc, Bool.and_assoc]
      congr 1
      rw [Bool.eq_iff_iff]
      have e47 : UInt8.toNat 47 = 47 := rfl
      have e62 : UInt8.toNat 62 = 62 := rfl
      have e61 : UInt8.toNat 61 = 61 := rfl
      simp only [Bool.and_eq_true, bne_iff_ne, ne_eq, decide_eq_true_eq, ← UInt8.toNat_inj]
      constructor <;> (intro ⟨h1, h2, h3⟩; refine ⟨?_, ?_, ?_⟩ <;> omega)
    rw [passN, List.takeWhile_cons, e]
    split
    · rw [name_rest f (k + 1) t (by omega)]; rfl
    · rfl
theorem name_first (k : Nat) (c : UInt8) (t : List UInt8) (h1 : M.skipB c = false) (h2 : c ≠ 62) : passN (nameP k) k (c :: t) = (t.takeWhile M.nameB).length + 1 := by
  have e : nameP k k c = true := by
    have hkf : ((k : Int) == (k : Int)) = true := by simp
    rw [skip_int, Bool.or_eq_false_iff] at h1
    have h3 : ((c.toNat : Int) != 62) = true := by rw [← end_int]; simpa using h2
    have h4 : ((c.toNat : Int) != 47) = true := by rw [bne, h1.2]; rfl
    rw [nameP, hkf, Bool.or_true, h1.1, h3, h4]; rfl
  rw [passN, if_pos e, name_rest k (k + 1) t (by omega)]
theorem value_len (l : List UInt8) : ((M.valueA l).1.getD []).length ≤ l.length := by
  have h0 := M.dropWhile_le M.white l
  unfold M.valueA
  split
  · exact Nat.zero_le _
  · rename_i q t hq
    rw [hq, List.length_cons] at h0
    split
    · unfold M.quotedA
      have h1 := (List.takeWhile_prefix (fun c => c != q) (l := t)).length_le
      split
      · exact Nat.zero_le _
      · show (t.takeWhile (fun c => c != q)).length ≤ _; omega
    · have h1 := (List.takeWhile_prefix M.valB (l := q :: t)).length_le
      show ((q :: t).takeWhile M.valB).length ≤ _
      rw [List.length_cons] at h1; omega
def agA (o : Option (List UInt8 × List UInt8)) : Value := .agg #[.string ⟨(o.getD ([], [])).1.toArray⟩, .string ⟨(o.getD ([], [])).2.toArray⟩]
set_option maxHeartbeats 4000000 in
theorem next_any (g : Nat) (s : ByteArray) (k : Nat) (l : List UInt8) (w : World) (hr : Rd w g s k) (hk : k ≤ s.size) (hl : s.data.toList.drop k = l) (hs : s.size ≤ 68719476735) :
    Calls Tryd.prog 26 #[.pointer (some ⟨g, 0, none⟩)] w fun e w' => e = .returned (.tuple #[agA (M.nextA l).1, .bool (M.nextA l).1.isSome]) ∧ ∃ k', k' ≤ s.size ∧ Rd w' g s k' ∧ s.data.toList.drop k' = (M.nextA l).2 ∧ Bes g w w' := by
  have hgl : g < w.heap.size := Box.lt hr
  have ne1 : w.heap.size ≠ g := by omega
  have ne2 : w.heap.size + 1 ≠ g := by omega
  have hx : Box ((w.alloc (.cells #[.pointer (some ⟨g, 0, none⟩)] 48)).alloc (.cells #[.string ⟨#[]⟩, .string ⟨#[]⟩] 23)) w.heap.size 48 [.pointer (some ⟨g, 0, none⟩)] := (Box.new w 48 [.pointer (some ⟨g, 0, none⟩)]).bel ((Bel.refl _).alloc _)
  have hy : Box ((w.alloc (.cells #[.pointer (some ⟨g, 0, none⟩)] 48)).alloc (.cells #[.string ⟨#[]⟩, .string ⟨#[]⟩] 23)) (w.heap.size + 1) 23 [.string ⟨#[]⟩, .string ⟨#[]⟩] := by
    have := Box.new (w.alloc (.cells #[.pointer (some ⟨g, 0, none⟩)] 48)) 23 [.string ⟨#[]⟩, .string ⟨#[]⟩]
    rwa [World.size_alloc] at this
  have hb0 : Bel w ((w.alloc (.cells #[.pointer (some ⟨g, 0, none⟩)] 48)).alloc (.cells #[.string ⟨#[]⟩, .string ⟨#[]⟩] 23)) := ((Bel.refl w).alloc _).alloc _
  go_enter Tryd.func26, Tryd.ntmps26
  go_wp2_with fail
  generalize ((w.alloc (.cells #[.pointer (some ⟨g, 0, none⟩)] 48)).alloc (.cells #[.string ⟨#[]⟩, .string ⟨#[]⟩] 23)) = W0 at *
  have hr0 := hr.bel hb0
  have hB := Bes.of_bel (g := g) hb0
  clear hr hb0
  refine (pass_to g s k 44 #[] M.skipB l W0 hr0 hk hl hs (enters_of Tryd.func44 (by kernel_rfl) rfl) (says_skip g s W0)).mono ?_
  rintro e W1 ⟨rfl, k1, hk1, hr1, hl1, hB1⟩
  have hx := hB1.box hx ne1
  have hy := hB1.box hy ne2
  have hB := hB.trans hB1
  have cx := hx.cell 0 _ rfl
  obtain ⟨b, hq0⟩ : ∃ b, headP (fun c => c != 62) (l.dropWhile M.skipB) = b := ⟨_, rfl⟩
  go_wp2_with fail
  refine (here_to g s k1 47 #[] (fun c => c != 62) _ b W1 hr1 hk1 hl1 hq0 (enters_of Tryd.func47 (by kernel_rfl) rfl) (says_end g s W1)).mono ?_
  rintro e W2 ⟨rfl, hr2, hb1⟩
  have hx := hx.bel hb1
  have hy := hy.bel hb1
  have hB := hB.trans (Bes.of_bel hb1)
  have cx := hx.cell 0 _ rfl
  clear hr0 hr1 hB1 hb1
  cases b with
  | false =>
    have HN := Lib.hid (show M.nextA l = (none, l.dropWhile M.skipB) by
      unfold M.nextA
      cases hd : l.dropWhile M.skipB with
      | nil => rfl
      | cons c t =>
        rw [hd] at hq0
        have hc : c = 62 := by simpa [headP] using hq0
        simp only
        rw [if_pos hc])
    have cy0 := hy.cell 0 _ rfl
    have cy1 := hy.cell 1 _ rfl
    have fy0 := hy.frozen 0
    have fy1 := hy.frozen 1
    go_wp2_with fail
    have hz := (hy.set 0 (.string ⟨#[]⟩)).set 1 (.string ⟨#[]⟩)
    have d0 := hz.cell 0 _ rfl
    have d1 := hz.cell 1 _ rfl
    refine bodyPost_ret (v := .tuple #[.agg #[.string ⟨#[]⟩, .string ⟨#[]⟩], .bool false]) (by simp [results, Tryd.results26, go_sem, d0, d1]) rfl ?_
    rw [HN.out]
    refine ⟨rfl, k1, hk1, ?_, hl1, ?_⟩
    · exact Box.far (Box.far hr2 (p := ⟨w.heap.size + 1, 0, none⟩) (fun h => ne2 h.symm) _) (p := ⟨w.heap.size + 1, 1, none⟩) (fun h => ne2 h.symm) _
    · exact (hB.setNew (p := ⟨w.heap.size + 1, 0, none⟩) (Nat.le_succ _) _).setNew (p := ⟨w.heap.size + 1, 1, none⟩) (Nat.le_succ _) _
  | true =>
    cases hd : l.dropWhile M.skipB with
    | nil => rw [hd] at hq0; cases hq0
    | cons c t =>
      rw [hd] at hq0 hl1
      have hc62 : c ≠ 62 := by simpa [headP] using hq0
      have hcs : M.skipB c = false := M.dropWhile_head M.skipB l c (by rw [hd]; rfl)
      have HA := Lib.hid (show M.nextA l = M.afterA (c :: t.takeWhile M.nameB) ((t.dropWhile M.nameB).dropWhile M.white) by
        rw [M.nextA, hd]; simp only; rw [if_neg hc62])
      have hpn := name_first k1 c t hcs hc62
      clear hd hq0 hl
      have c1 := Box.cell hr2 1 _ rfl
      have lx := hx.lt
      have ly := hy.lt
      have lg := Box.lt hr2
      go_wp2_with fail
      have hb1 : Bel W2 (W2.alloc (.cells #[.int .i64 (k1 : Int)] 3)) := (Bel.refl W2).alloc _
      have hx4 := Box.new W2 3 [.int .i64 (k1 : Int)]
      have ne4 : W2.heap.size ≠ g := by omega
      have hr3 := hr2.bel hb1
      have hx := hx.bel hb1
      have hy := hy.bel hb1
      have hB := hB.trans (Bes.of_bel hb1)
      have cx := hx.cell 0 _ rfl
      generalize (W2.alloc (.cells #[.int .i64 (k1 : Int)] 3)) = W3 at *
      have hx4 : Box W3 W2.heap.size 3 [.int .i64 (k1 : Int)] := hx4
      clear hr2 hb1 c1 lx ly lg
      refine (pass_any g s k1 48 #[.pointer (some ⟨w.heap.size, 0, none⟩), .pointer (some ⟨W2.heap.size, 0, none⟩)] (nameP k1) W3 hr3 hk1 hs (enters_of Tryd.func48 (by kernel_rfl) rfl) (says_name g s W3 w.heap.size W2.heap.size k1 ne1 ne4 hx hx4)).mono ?_
      rw [hl1, hpn, List.take_succ_cons, take_while]
      rintro e W4 ⟨rfl, hr4, hB1⟩
      have hx := hB1.box hx ne1
      have hy := hB1.box hy ne2
      have hB := hB.trans hB1
      have cx := hx.cell 0 _ rfl
      have hlen := congrArg List.length hl1
      rw [List.length_drop, ← Lib.size_eq, List.length_cons] at hlen
      have htw := (List.takeWhile_prefix M.nameB (l := t)).length_le
      have hk4 : k1 + ((t.takeWhile M.nameB).length + 1) ≤ s.size := by omega
      have hl4 : s.data.toList.drop (k1 + ((t.takeWhile M.nameB).length + 1)) = t.dropWhile M.nameB := by
        rw [← List.drop_drop, hl1, List.drop_succ_cons, drop_while]
      have hnl : (c :: t.takeWhile M.nameB).length ≤ 68719476735 := by rw [List.length_cons]; omega
      generalize k1 + ((t.takeWhile M.nameB).length + 1) = k4 at *
      clear hr3 hB1 hpn hlen htw hx4
      go_wp2_with fail
      refine (pass_to g s k4 45 #[] M.white _ W4 hr4 hk4 hl4 hs (enters_of Tryd.func45 (by kernel_rfl) rfl) (says_white g s W4)).mono ?_
      rintro e W5 ⟨rfl, k5, hk5, hr5, hl5, hB1⟩
      have hx := hB1.box hx ne1
      have hy := hB1.box hy ne2
      have hB := hB.trans hB1
      have cx := hx.cell 0 _ rfl
      clear hr4 hB1 hl4
      generalize (t.dropWhile M.nameB).dropWhile M.white = l5 at *
      generalize c :: t.takeWhile M.nameB = nm at *
      have lx := hx.lt
      have ly := hy.lt
      have lg := Box.lt hr5
      obtain ⟨b, hq0⟩ : ∃ b, headP (fun c => c == 61) l5 = b := ⟨_, rfl⟩
      have hx4 := Box.new W5 9 [.string ⟨#[61]⟩]
      have ne5 : W5.heap.size ≠ g := by omega
      go_wp2_with fail
      go_cut [26] from 23 to 26 (fun v wx => v = .bool (!b) ∧ Bel W5 wx)
      case first =>
        go_region_with ((first | (go_at_call 49; refine (one_any _ _).mono ?_; rintro e W6 ⟨rfl, rfl⟩) | (go_at_call 46; refine (here_to g s k5 65 #[.pointer (some ⟨W5.heap.size, 0, none⟩)] (fun c => c == 61) l5 b _ (hr5.bel (by repeat (first | exact Bel.refl _ | refine Bel.drewN ?_ _ | refine Bel.drew ?_ | refine Bel.alloc ?_ _ | refine Bel.trans ?_ (by assumption) | refine Bel.setCell ?_ (by simp; omega) _))) hk5 hl5 hq0 (enters_of Tryd.func65 (by kernel_rfl) rfl) (says_one g s _ _ ⟨#[61]⟩ ne5 (Box.bel hx4 (by repeat (first | exact Bel.refl _ | refine Bel.drewN ?_ _ | refine Bel.drew ?_ | refine Bel.alloc ?_ _ | refine Bel.trans ?_ (by assumption) | refine Bel.setCell ?_ (by simp; omega) _))) (fun c => c == 61) isEq)).mono ?_; rintro e W7 ⟨rfl, hr7, hb7⟩)))
        all_goals
          try go_wp2_with fail
          go_meet
          exact ⟨rfl, Bel.trans (by repeat (first | exact Bel.refl _ | refine Bel.drew ?_ | refine Bel.alloc ?_ _)) hb7⟩
      case rest =>
      obtain ⟨rfl, hb1⟩ := hcut
      rename World => W7
      have hr7 := hr5.bel hb1
      have hx := hx.bel hb1
      have hy := hy.bel hb1
      have hB := hB.trans (Bes.of_bel hb1)
      have cx := hx.cell 0 _ rfl
      clear hr5 hb1 hx4 lx ly lg
      cases b with
      | false =>
        have HN := Lib.hid (show M.nextA l = (some (M.fold nm, []), l5) by
          rw [HA.out]
          cases l5 with
          | nil => rfl
          | cons e t =>
            have he : e ≠ 61 := by simpa [headP] using hq0
            rw [M.afterA, if_neg he])
        go_wp2_with fail
        refine (folded_any ⟨nm.toArray⟩ W7 (by rw [size_str]; exact hnl)).mono ?_
        rintro e W8 ⟨rfl, hb1⟩
        have hr8 := hr7.bel hb1
        have hx := hx.bel hb1
        have hy := hy.bel hb1
        have hB := hB.trans (Bes.of_bel hb1)
        have cx := hx.cell 0 _ rfl
        clear hr7 hb1
        have cy0 := hy.cell 0 _ rfl
        have cy1 := hy.cell 1 _ rfl
        have fy0 := hy.frozen 0
        have fy1 := hy.frozen 1
        go_wp2_with fail
        have hz := (hy.set 0 (.string ⟨(M.fold nm).toArray⟩)).set 1 (.string ⟨#[]⟩)
        have d0 := hz.cell 0 _ rfl
        have d1 := hz.cell 1 _ rfl
        refine bodyPost_ret (v := .tuple #[.agg #[.string ⟨(M.fold nm).toArray⟩, .string ⟨#[]⟩], .bool true]) (by simp [results, Tryd.results26, go_sem, d0, d1]) rfl ?_
        rw [HN.out]
        refine ⟨rfl, k5, hk5, ?_, hl5, ?_⟩
        · exact Box.far (Box.far hr8 (p := ⟨w.heap.size + 1, 0, none⟩) (fun h => ne2 h.symm) _) (p := ⟨w.heap.size + 1, 1, none⟩) (fun h => ne2 h.symm) _
        · exact (hB.setNew (p := ⟨w.heap.size + 1, 0, none⟩) (Nat.le_succ _) _).setNew (p := ⟨w.heap.size + 1, 1, none⟩) (Nat.le_succ _) _
      | true =>
        cases l5 with
        | nil => cases hq0
        | cons e5 t5 =>
          have he : e5 = 61 := by simpa [headP] using hq0
          have hlen := congrArg List.length hl5
          rw [List.length_drop, ← Lib.size_eq, List.length_cons] at hlen
          have HV0 := Lib.hid (show M.nextA l = ((M.valueA t5).1.map (fun v => (M.fold nm, M.fold v)), (M.valueA t5).2) by
            rw [HA.out, M.afterA, if_pos he])
          have c1 := Box.cell hr7 1 _ rfl
          have f1 := Box.frozen hr7 1
          clear hq0
          go_wp2_with fail
          have hr8 : Rd (W7.setCell ⟨g, 1, none⟩ (.int .i64 ((k5 : Int) + 1))) g s (k5 + 1) := hr7.move (k5 + 1)
          have hx := Box.far hx (p := ⟨g, 1, none⟩) ne1 (.int .i64 ((k5 : Int) + 1))
          have hy := Box.far hy (p := ⟨g, 1, none⟩) ne2 (.int .i64 ((k5 : Int) + 1))
          have hB := hB.setCell 1 (.int .i64 ((k5 : Int) + 1))
          generalize W7.setCell ⟨g, 1, none⟩ (.int .i64 ((k5 : Int) + 1)) = W8 at *
          have hl8 : s.data.toList.drop (k5 + 1) = t5 := by rw [← List.drop_drop, hl5]; rfl
          clear c1 f1 hr7
          refine (value_any g s (k5 + 1) t5 W8 hr8 (by omega) hl8 hs).mono ?_
          rintro e W9 ⟨rfl, k9, hk9, hr9, hl9, hB1⟩
          have hx := hB1.box hx ne1
          have hy := hB1.box hy ne2
          have hB := hB.trans hB1
          have cx := hx.cell 0 _ rfl
          have hvl := value_len t5
          clear hr8 hB1 hl8 hl5
          cases hv : (M.valueA t5).1 with
          | none =>
            have HN := Lib.hid (show M.nextA l = (none, (M.valueA t5).2) by rw [HV0.out, hv]; rfl)
            clear hv hvl
            have cy0 := hy.cell 0 _ rfl
            have cy1 := hy.cell 1 _ rfl
            have fy0 := hy.frozen 0
            have fy1 := hy.frozen 1
            go_wp2_with fail
            have hz := (hy.set 0 (.string ⟨#[]⟩)).set 1 (.string ⟨#[]⟩)
            have d0 := hz.cell 0 _ rfl
            have d1 := hz.cell 1 _ rfl
            refine bodyPost_ret (v := .tuple #[.agg #[.string ⟨#[]⟩, .string ⟨#[]⟩], .bool false]) (by simp [results, Tryd.results26, go_sem, d0, d1]) rfl ?_
            rw [HN.out]
            refine ⟨rfl, k9, hk9, ?_, hl9, ?_⟩
            · exact Box.far (Box.far hr9 (p := ⟨w.heap.size + 1, 0, none⟩) (fun h => ne2 h.symm) _) (p := ⟨w.heap.size + 1, 1, none⟩) (fun h => ne2 h.symm) _
            · exact (hB.setNew (p := ⟨w.heap.size + 1, 0, none⟩) (Nat.le_succ _) _).setNew (p := ⟨w.heap.size + 1, 1, none⟩) (Nat.le_succ _) _
          | some vv =>
            have HN := Lib.hid (show M.nextA l = (some (M.fold nm, M.fold vv), (M.valueA t5).2) by rw [HV0.out, hv]; rfl)
            rw [hv] at hvl
            have hvl2 : vv.length ≤ t5.length := hvl
            clear hv hvl
            go_wp2_with fail
            refine (folded_any ⟨nm.toArray⟩ W9 (by rw [size_str]; exact hnl)).mono ?_
            rintro e W10 ⟨rfl, hb1⟩
            have hr10 := hr9.bel hb1
            have hx := hx.bel hb1
            have hy := hy.bel hb1
            have hB := hB.trans (Bes.of_bel hb1)
            have cx := hx.cell 0 _ rfl
            clear hr9 hb1
            go_wp2_with fail
            refine (folded_any ⟨vv.toArray⟩ W10 (by rw [size_str]; omega)).mono ?_
            rintro e W11 ⟨rfl, hb1⟩
            have hr11 := hr10.bel hb1
            have hx := hx.bel hb1
            have hy := hy.bel hb1
            have hB := hB.trans (Bes.of_bel hb1)
            have cx := hx.cell 0 _ rfl
            clear hr10 hb1
            have cy0 := hy.cell 0 _ rfl
            have cy1 := hy.cell 1 _ rfl
            have fy0 := hy.frozen 0
            have fy1 := hy.frozen 1
            go_wp2_with fail
            have hz := (hy.set 0 (.string ⟨(M.fold nm).toArray⟩)).set 1 (.string ⟨(M.fold vv).toArray⟩)
            have d0 := hz.cell 0 _ rfl
            have d1 := hz.cell 1 _ rfl
            refine bodyPost_ret (v := .tuple #[.agg #[.string ⟨(M.fold nm).toArray⟩, .string ⟨(M.fold vv).toArray⟩], .bool true]) (by simp [results, Tryd.results26, go_sem, d0, d1]) rfl ?_
            rw [HN.out]
            refine ⟨rfl, k9, hk9, ?_, hl9, ?_⟩
            · exact Box.far (Box.far hr11 (p := ⟨w.heap.size + 1, 0, none⟩) (fun h => ne2 h.symm) _) (p := ⟨w.heap.size + 1, 1, none⟩) (fun h => ne2 h.symm) _
            · exact (hB.setNew (p := ⟨w.heap.size + 1, 0, none⟩) (Nat.le_succ _) _).setNew (p := ⟨w.heap.size + 1, 1, none⟩) (Nat.le_succ _) _
end Go.Proofs.YthaoohckgilahaaDoor

/-
  Texts of the proof, laid together: Scan4, RScan2, Scan5, RAttr2, LawAttr, LawScan, RInts, LawKit. No condition of its own.
-/
import Derived.Test.YthaoohckgilahaaDoorG5
import Derived.Deep.CutBlock
import Derived.Deep.Cut
import Derived.Deep.CutRange
import Derived.Test.YthaoohckgilahaaDoorG3
import Derived.Laws.StructEq
import Derived.Test.YthaoohckgilahaaDoorG1
import Derived.Test.YthaoohckgilahaaDoorG4

/-
  Package scan: the looker's step.
-/
namespace Go.Proofs.YthaoohckgilahaaDoor
open Go.RowKit
set_option maxRecDepth 1000000
set_option maxHeartbeats 4000000

theorem pre_roomS (l sub : List UInt8) (h : Lib.hasPrefix (M.fold l) sub = true) (hs : sub ≠ []) : sub.length ≤ l.length := by
  have h1 : Lib.occAt (M.fold l) sub 0 = true := h
  rcases Lib.occAt_room h1 with h2 | h2
  · rw [M.fold_len] at h2
    omega
  · exact absurd h2 hs
theorem byteN_slash (l : List UInt8) : M.slashW (l.drop 5) = (M.white (byteN l 5) || (((byteN l 5).toNat : Int) == 47)) := by
  have e : byteN l 5 = (((l.drop 5).head?).map M.fold1).getD 0 := by
    unfold byteN M.fold
    rw [List.head?_drop, List.getElem?_map]
  rw [e]
  cases l.drop 5 with
  | nil => decide
  | cons c t =>
    show M.skipB c = (M.white (M.fold1 c) || (((M.fold1 c).toNat : Int) == 47))
    have hw : M.white (M.fold1 c) = M.white c := by
      rw [M.white_nat, M.white_nat, Bool.eq_iff_iff, decide_eq_true_eq, decide_eq_true_eq, M.fold1_nat]
      split <;> omega
    rw [hw, M.skipB]
    congr 1
    rw [Bool.eq_iff_iff, decide_eq_true_eq, beq_iff_eq, ← fold1_47]
    omega
theorem Len.bes {g : Nat} {w w' : World} {s low : ByteArray} {k : Nat} (hL : Len w) (h : Lk w g s low k) (hb : Bes g w w') : Len w' := by
  obtain ⟨m, hm⟩ := hL
  have hg : 0 ≠ g := by
    rintro rfl
    have := Box.cell h 0 _ rfl
    rw [hm] at this
    cases this
  refine ⟨m, ?_⟩
  have hlt := World.block_lt_of_cell? w _ hm
  have hblk := hb.block _ hlt hg
  unfold World.cell? at hm ⊢
  rw [hblk]
  exact hm
theorem step_any (g : Nat) (s low : ByteArray) (k : Nat) (w : World) (h : Lk w g s low k) (hl : Low s low) (hk : k ≤ s.size) (hlt : k < s.size) (hs : s.size ≤ 3000) (hL : Len w) (n : Int) (t : List UInt8) (hst : M.stepS (s.data.toList.drop k) = (n, t)) : Calls Tryd.prog 59 #[.pointer (some ⟨g, 0, none⟩)] w fun e w' => e = .returned (.int .i64 n) ∧ (∃ k', k' ≤ s.size ∧ Lk w' g s low k' ∧ s.data.toList.drop k' = t) ∧ Bes g w w' := by
  have h0 := h
  obtain ⟨o, ho⟩ : ∃ o, M.nameEnd (s.data.toList.drop k) = o := ⟨_, rfl⟩
  have NM := Lib.hid (fun W hW => named_any g s low k W hW hl hk hs o ho)
  obtain ⟨c5, hc5⟩ : ∃ c, byteN (s.data.toList.drop k) 5 = c := ⟨_, rfl⟩
  have B5 : ∀ W, Lk W g s low k → Calls Tryd.prog 75 #[.pointer (some ⟨g, 0, none⟩), .int .i64 5] W fun e w' => e = .returned (.int .u8 (c5.toNat : Int)) ∧ ∃ m, w' = W.drewN m := fun W hW => by
    have := byteAt_any g s low k 5 W hW hl hk hs (by decide)
    rw [hc5] at this
    exact this
  have G5 := Lib.hid B5
  obtain ⟨b1, hb1⟩ : ∃ b, Lib.hasPrefix (M.fold (s.data.toList.drop k)) M.openS = b := ⟨_, rfl⟩
  have B1 := fun W hW => begins_any g s low ⟨#[60, 33, 45, 45]⟩ k W hW hl hk
  rw [show (⟨#[60, 33, 45, 45]⟩ : ByteArray).data.toList = M.openS from rfl, hb1] at B1
  have G1 := Lib.hid B1
  obtain ⟨b2, hb2⟩ : ∃ b, Lib.hasPrefix (M.fold (s.data.toList.drop k)) M.metaS = b := ⟨_, rfl⟩
  have B2 := fun W hW => begins_any g s low ⟨#[60, 109, 101, 116, 97]⟩ k W hW hl hk
  rw [show (⟨#[60, 109, 101, 116, 97]⟩ : ByteArray).data.toList = M.metaS from rfl, hb2] at B2
  have G2 := Lib.hid B2
  obtain ⟨b3, hb3⟩ : ∃ b, Lib.hasPrefix (M.fold (s.data.toList.drop k)) [60, 33] = b := ⟨_, rfl⟩
  have B3 := fun W hW => begins_any g s low ⟨#[60, 33]⟩ k W hW hl hk
  rw [show (⟨#[60, 33]⟩ : ByteArray).data.toList = [60, 33] from rfl, hb3] at B3
  have G3 := Lib.hid B3
  obtain ⟨b4, hb4⟩ : ∃ b, Lib.hasPrefix (M.fold (s.data.toList.drop k)) [60, 47] = b := ⟨_, rfl⟩
  have B4 := fun W hW => begins_any g s low ⟨#[60, 47]⟩ k W hW hl hk
  rw [show (⟨#[60, 47]⟩ : ByteArray).data.toList = [60, 47] from rfl, hb4] at B4
  have G4 := Lib.hid B4
  obtain ⟨b6, hb6⟩ : ∃ b, Lib.hasPrefix (M.fold (s.data.toList.drop k)) [60, 63] = b := ⟨_, rfl⟩
  have B6 := fun W hW => begins_any g s low ⟨#[60, 63]⟩ k W hW hl hk
  rw [show (⟨#[60, 63]⟩ : ByteArray).data.toList = [60, 63] from rfl, hb6] at B6
  have G6 := Lib.hid B6
  rw [M.pre2_fold _ (by decide)] at hb3 hb4 hb6
  have HST := Lib.hid hst
  unfold M.stepS at hst
  rw [byteN_slash, hc5, ho, hb1, hb2, hb3, hb4, hb6] at hst
  have hroom1 := pre_roomS (s.data.toList.drop k) M.openS
  rw [hb1, List.length_drop, ← Lib.size_eq, show M.openS.length = 4 from rfl] at hroom1
  have hroom2 := pre_roomS (s.data.toList.drop k) M.metaS
  rw [hb2, List.length_drop, ← Lib.size_eq, show M.metaS.length = 5 from rfl] at hroom2
  clear hc5 hb1 hb2 hb3 hb4 hb6 HST B5 B1 B2 B3 B4 B6
  cases b1 with
  | true =>
    have hr4 := hroom1 rfl (by decide)
    rw [if_pos rfl] at hst
    injection hst with e1 e2
    subst e1
    have HE := Lib.hid e2
    clear e2 hroom1 hroom2 ho
    go_enter Tryd.func59, Tryd.ntmps59
    go_wp2_with fail
    refine (NM.out _ h).mono ?_
    rintro e W1 ⟨rfl, b1⟩
    have h := Box.bel h b1
    have hB : Bes g w W1 := Bes.of_bel b1
    clear b1
    go_wp2_with fail
    refine (G1.out _ h).mono ?_
    rintro e W2 ⟨rfl, m, rfl⟩
    have h := Box.drewN h m
    have hB := hB.trans (Bes.of_bel ((Bel.refl W1).drewN m))
    generalize World.drewN W1 m = W2 at h hB ⊢
    go_wp2_with fail
    refine (to_any g s low ⟨#[45, 45, 62]⟩ k 2 _ h hl (by omega) hs (by decide) (by decide) (by decide) (Len.bes hL h0 hB)).mono ?_
    rintro e W9 ⟨rfl, ⟨k', hk', h9, hd⟩, hB9⟩
    go_wp2_with fail
    go_ret
    exact ⟨rfl, ⟨k', hk', h9, by rw [hd, ← HE.out]; first | rfl | (rw [List.drop_drop]; rfl)⟩, hB.trans hB9⟩
  | false =>
    rw [if_neg (by decide)] at hst
    cases b2 with
    | false =>
      rw [if_neg (by rintro ⟨h9, _⟩; cases h9)] at hst
      cases o with
      | some en =>
        have hsuf := M.nameEnd_suf _ _ ho
        have hd0 := M.Suf.at (M.Suf.trans (a := en) hsuf (M.Suf.drop s.data.toList k))
        rw [← Lib.size_eq] at hd0
        obtain ⟨xs, r, hn⟩ : ∃ xs r, M.attrsA en = (xs, r) := ⟨_, _, rfl⟩
        have hst : ((0 : Int), (M.attrsA en).2.drop 1) = (n, t) := hst
        rw [hn] at hst
        rw [hd0] at hn
        have T := fun W hW => tag_any g s low k (s.size - en.length) W hW (by omega) hs xs r hn
        rw [show ((s.size - en.length : Nat) : Int) = endOf s (some en) from rfl] at T
        have TG := Lib.hid T
        clear T hn hd0 hsuf
        injection hst with e1 e2
        subst e1
        have HE := Lib.hid e2
        clear e2 hroom1 hroom2 ho
        have ho9 : (some en).isSome = true := rfl
        go_enter Tryd.func59, Tryd.ntmps59
        go_wp2_with fail
        refine (NM.out _ h).mono ?_
        rintro e W1 ⟨rfl, b1⟩
        have h := Box.bel h b1
        have hB : Bes g w W1 := Bes.of_bel b1
        clear b1
        go_wp2_with fail
        refine (G1.out _ h).mono ?_
        rintro e W2 ⟨rfl, m, rfl⟩
        have h := Box.drewN h m
        have hB := hB.trans (Bes.of_bel ((Bel.refl W1).drewN m))
        generalize World.drewN W1 m = W2 at h hB ⊢
        go_wp2_with fail
        refine (G2.out _ h).mono ?_
        rintro e W3 ⟨rfl, m, rfl⟩
        have h := Box.drewN h m
        have hB := hB.trans (Bes.of_bel ((Bel.refl W2).drewN m))
        generalize World.drewN W2 m = W3 at h hB ⊢
        go_wp2_with fail
        refine (TG.out _ h).mono ?_
        rintro e W9 ⟨v, rfl, hsl, ⟨k', hk', h9, hd⟩, hB9⟩
        go_wp2_with fail
        go_ret
        exact ⟨rfl, ⟨k', hk', h9, hd.trans HE.out⟩, hB.trans hB9⟩
      | none =>
        have ho9 : (none : Option (List UInt8)).isSome = false := rfl
        have hst : (if b3 = true ∨ b4 = true ∨ b6 = true then ((0 : Int), M.behindF [62] (s.data.toList.drop k)) else (0, (s.data.toList.drop k).drop 1)) = (n, t) := hst
        cases b3 with
        | true =>
          rw [if_pos (.inl rfl)] at hst
          injection hst with e1 e2
          subst e1
          have HE := Lib.hid e2
          clear e2 hroom1 hroom2 ho
          go_enter Tryd.func59, Tryd.ntmps59
          go_wp2_with fail
          refine (NM.out _ h).mono ?_
          rintro e W1 ⟨rfl, b1⟩
          have h := Box.bel h b1
          have hB : Bes g w W1 := Bes.of_bel b1
          clear b1
          go_wp2_with fail
          refine (G1.out _ h).mono ?_
          rintro e W2 ⟨rfl, m, rfl⟩
          have h := Box.drewN h m
          have hB := hB.trans (Bes.of_bel ((Bel.refl W1).drewN m))
          generalize World.drewN W1 m = W2 at h hB ⊢
          go_wp2_with fail
          refine (G2.out _ h).mono ?_
          rintro e W3 ⟨rfl, m, rfl⟩
          have h := Box.drewN h m
          have hB := hB.trans (Bes.of_bel ((Bel.refl W2).drewN m))
          generalize World.drewN W2 m = W3 at h hB ⊢
          go_wp2_with fail
          refine (G3.out _ h).mono ?_
          rintro e W20 ⟨rfl, m, rfl⟩
          have h := Box.drewN h m
          have hB := hB.trans (Bes.of_bel ((Bel.refl W3).drewN m))
          generalize World.drewN W3 m = W20 at h hB ⊢
          go_wp2_with fail
          refine (to_any g s low ⟨#[62]⟩ k 0 _ h hl (by omega) hs (by decide) (by decide) (by decide) (Len.bes hL h0 hB)).mono ?_
          rintro e W9 ⟨rfl, ⟨k', hk', h9, hd⟩, hB9⟩
          go_wp2_with fail
          go_ret
          exact ⟨rfl, ⟨k', hk', h9, by rw [hd, ← HE.out]; first | rfl | (rw [List.drop_drop]; rfl)⟩, hB.trans hB9⟩
        | false =>
          cases b4 with
          | true =>
            rw [if_pos (.inr (.inl rfl))] at hst
            injection hst with e1 e2
            subst e1
            have HE := Lib.hid e2
            clear e2 hroom1 hroom2 ho
            go_enter Tryd.func59, Tryd.ntmps59
            go_wp2_with fail
            refine (NM.out _ h).mono ?_
            rintro e W1 ⟨rfl, b1⟩
            have h := Box.bel h b1
            have hB : Bes g w W1 := Bes.of_bel b1
            clear b1
            go_wp2_with fail
            refine (G1.out _ h).mono ?_
            rintro e W2 ⟨rfl, m, rfl⟩
            have h := Box.drewN h m
            have hB := hB.trans (Bes.of_bel ((Bel.refl W1).drewN m))
            generalize World.drewN W1 m = W2 at h hB ⊢
            go_wp2_with fail
            refine (G2.out _ h).mono ?_
            rintro e W3 ⟨rfl, m, rfl⟩
            have h := Box.drewN h m
            have hB := hB.trans (Bes.of_bel ((Bel.refl W2).drewN m))
            generalize World.drewN W2 m = W3 at h hB ⊢
            go_wp2_with fail
            refine (G3.out _ h).mono ?_
            rintro e W20 ⟨rfl, m, rfl⟩
            have h := Box.drewN h m
            have hB := hB.trans (Bes.of_bel ((Bel.refl W3).drewN m))
            generalize World.drewN W3 m = W20 at h hB ⊢
            go_wp2_with fail
            refine (G4.out _ h).mono ?_
            rintro e W21 ⟨rfl, m, rfl⟩
            have h := Box.drewN h m
            have hB := hB.trans (Bes.of_bel ((Bel.refl W20).drewN m))
            generalize World.drewN W20 m = W21 at h hB ⊢
            go_wp2_with fail
            refine (to_any g s low ⟨#[62]⟩ k 0 _ h hl (by omega) hs (by decide) (by decide) (by decide) (Len.bes hL h0 hB)).mono ?_
            rintro e W9 ⟨rfl, ⟨k', hk', h9, hd⟩, hB9⟩
            go_wp2_with fail
            go_ret
            exact ⟨rfl, ⟨k', hk', h9, by rw [hd, ← HE.out]; first | rfl | (rw [List.drop_drop]; rfl)⟩, hB.trans hB9⟩
          | false =>
            cases b6 with
            | true =>
              rw [if_pos (.inr (.inr rfl))] at hst
              injection hst with e1 e2
              subst e1
              have HE := Lib.hid e2
              clear e2 hroom1 hroom2 ho
              go_enter Tryd.func59, Tryd.ntmps59
              go_wp2_with fail
              refine (NM.out _ h).mono ?_
              rintro e W1 ⟨rfl, b1⟩
              have h := Box.bel h b1
              have hB : Bes g w W1 := Bes.of_bel b1
              clear b1
              go_wp2_with fail
              refine (G1.out _ h).mono ?_
              rintro e W2 ⟨rfl, m, rfl⟩
              have h := Box.drewN h m
              have hB := hB.trans (Bes.of_bel ((Bel.refl W1).drewN m))
              generalize World.drewN W1 m = W2 at h hB ⊢
              go_wp2_with fail
              refine (G2.out _ h).mono ?_
              rintro e W3 ⟨rfl, m, rfl⟩
              have h := Box.drewN h m
              have hB := hB.trans (Bes.of_bel ((Bel.refl W2).drewN m))
              generalize World.drewN W2 m = W3 at h hB ⊢
              go_wp2_with fail
              refine (G3.out _ h).mono ?_
              rintro e W20 ⟨rfl, m, rfl⟩
              have h := Box.drewN h m
              have hB := hB.trans (Bes.of_bel ((Bel.refl W3).drewN m))
              generalize World.drewN W3 m = W20 at h hB ⊢
              go_wp2_with fail
              refine (G4.out _ h).mono ?_
              rintro e W21 ⟨rfl, m, rfl⟩
              have h := Box.drewN h m
              have hB := hB.trans (Bes.of_bel ((Bel.refl W20).drewN m))
              generalize World.drewN W20 m = W21 at h hB ⊢
              go_wp2_with fail
              refine (G6.out _ h).mono ?_
              rintro e W22 ⟨rfl, m, rfl⟩
              have h := Box.drewN h m
              have hB := hB.trans (Bes.of_bel ((Bel.refl W21).drewN m))
              generalize World.drewN W21 m = W22 at h hB ⊢
              go_wp2_with fail
              refine (to_any g s low ⟨#[62]⟩ k 0 _ h hl (by omega) hs (by decide) (by decide) (by decide) (Len.bes hL h0 hB)).mono ?_
              rintro e W9 ⟨rfl, ⟨k', hk', h9, hd⟩, hB9⟩
              go_wp2_with fail
              go_ret
              exact ⟨rfl, ⟨k', hk', h9, by rw [hd, ← HE.out]; first | rfl | (rw [List.drop_drop]; rfl)⟩, hB.trans hB9⟩
            | false =>
              rw [if_neg (by decide)] at hst
              injection hst with e1 e2
              subst e1
              have HE := Lib.hid e2
              clear e2 hroom1 hroom2 ho
              go_enter Tryd.func59, Tryd.ntmps59
              go_wp2_with fail
              refine (NM.out _ h).mono ?_
              rintro e W1 ⟨rfl, b1⟩
              have h := Box.bel h b1
              have hB : Bes g w W1 := Bes.of_bel b1
              clear b1
              go_wp2_with fail
              refine (G1.out _ h).mono ?_
              rintro e W2 ⟨rfl, m, rfl⟩
              have h := Box.drewN h m
              have hB := hB.trans (Bes.of_bel ((Bel.refl W1).drewN m))
              generalize World.drewN W1 m = W2 at h hB ⊢
              go_wp2_with fail
              refine (G2.out _ h).mono ?_
              rintro e W3 ⟨rfl, m, rfl⟩
              have h := Box.drewN h m
              have hB := hB.trans (Bes.of_bel ((Bel.refl W2).drewN m))
              generalize World.drewN W2 m = W3 at h hB ⊢
              go_wp2_with fail
              refine (G3.out _ h).mono ?_
              rintro e W20 ⟨rfl, m, rfl⟩
              have h := Box.drewN h m
              have hB := hB.trans (Bes.of_bel ((Bel.refl W3).drewN m))
              generalize World.drewN W3 m = W20 at h hB ⊢
              go_wp2_with fail
              refine (G4.out _ h).mono ?_
              rintro e W21 ⟨rfl, m, rfl⟩
              have h := Box.drewN h m
              have hB := hB.trans (Bes.of_bel ((Bel.refl W20).drewN m))
              generalize World.drewN W20 m = W21 at h hB ⊢
              go_wp2_with fail
              refine (G6.out _ h).mono ?_
              rintro e W22 ⟨rfl, m, rfl⟩
              have h := Box.drewN h m
              have hB := hB.trans (Bes.of_bel ((Bel.refl W21).drewN m))
              generalize World.drewN W21 m = W22 at h hB ⊢
              have c2 := Box.cell h 2 _ rfl
              have f2 := Box.frozen h 2
              go_wp2_with fail
              go_ret
              exact ⟨rfl, ⟨k + 1, by omega, by rw [show (k : Int) + 1 = ((k + 1 : Nat) : Int) by omega]; exact Lk.move h (k + 1), by rw [← HE.out, List.drop_drop]⟩, hB.setCell 2 _⟩
    | true =>
      cases hw : M.white c5 with
      | true =>
        rw [if_pos ⟨rfl, by rw [hw]; rfl⟩] at hst
        have HW := Lib.hid hw
        clear hw
        have hr5 := hroom2 rfl (by decide)
        obtain ⟨xs, r, hn⟩ : ∃ xs r, M.attrsA ((s.data.toList.drop k).drop 5) = (xs, r) := ⟨_, _, rfl⟩
        rw [hn] at hst
        rw [List.drop_drop] at hn
        have hshort : ShortV xs := fun q hq => by have h9 := M.attrsA_val _ (s.data.toList.drop (k + 5)) (Nat.le_refl _) q (by rw [hn]; exact hq); rw [List.length_drop, ← Lib.size_eq] at h9; omega
        have T := fun W hW => tag_any g s low k (k + 5) W hW (by omega) hs xs r hn
        rw [show ((k + 5 : Nat) : Int) = (k : Int) + 5 by omega] at T
        have TG := Lib.hid T
        clear T hn
        injection hst with e1 e2
        subst e1
        have HE := Lib.hid e2
        clear e2 hroom1 hroom2 ho
        go_enter Tryd.func59, Tryd.ntmps59
        go_wp2_with fail
        refine (NM.out _ h).mono ?_
        rintro e W1 ⟨rfl, b1⟩
        have h := Box.bel h b1
        have hB : Bes g w W1 := Bes.of_bel b1
        clear b1
        go_wp2_with fail
        refine (G1.out _ h).mono ?_
        rintro e W2 ⟨rfl, m, rfl⟩
        have h := Box.drewN h m
        have hB := hB.trans (Bes.of_bel ((Bel.refl W1).drewN m))
        generalize World.drewN W1 m = W2 at h hB ⊢
        go_wp2_with fail
        refine (G2.out _ h).mono ?_
        rintro e W3 ⟨rfl, m, rfl⟩
        have h := Box.drewN h m
        have hB := hB.trans (Bes.of_bel ((Bel.refl W2).drewN m))
        generalize World.drewN W2 m = W3 at h hB ⊢
        go_wp2_with fail
        refine (G5.out _ h).mono ?_
        rintro e W4 ⟨rfl, m, rfl⟩
        have h := Box.drewN h m
        have hB := hB.trans (Bes.of_bel ((Bel.refl W3).drewN m))
        generalize World.drewN W3 m = W4 at h hB ⊢
        have c2 := Box.cell h 2 _ rfl
        go_wp2_with fail
        refine (white_to c5 _ HW.out _).mono ?_
        rintro e W' ⟨rfl, hW'⟩
        have hW' := hW'.symm
        subst hW'
        go_wp2_with fail
        refine (TG.out _ h).mono ?_
        rintro e W9 ⟨v, rfl, hsl, ⟨k', hk', h9, hd⟩, hB9⟩
        have hB9 := hB.trans hB9
        have hL9 := Len.bes hL h0 hB9
        go_wp2_with fail
        refine (metaS_any v xs W9 hsl hshort hL9).mono ?_
        rintro e W10 ⟨rfl, b10⟩
        go_wp2_with fail
        go_ret
        exact ⟨rfl, ⟨k', hk', Lk.bel h9 b10, hd.trans HE.out⟩, hB9.trans (Bes.of_bel b10)⟩
      | false =>
        have HW := Lib.hid hw
        cases h47 : ((c5.toNat : Int) == 47) with
        | true =>
          rw [if_pos ⟨rfl, by rw [hw, h47]; rfl⟩] at hst
          clear hw
          have hr5 := hroom2 rfl (by decide)
          obtain ⟨xs, r, hn⟩ : ∃ xs r, M.attrsA ((s.data.toList.drop k).drop 5) = (xs, r) := ⟨_, _, rfl⟩
          rw [hn] at hst
          rw [List.drop_drop] at hn
          have hshort : ShortV xs := fun q hq => by have h9 := M.attrsA_val _ (s.data.toList.drop (k + 5)) (Nat.le_refl _) q (by rw [hn]; exact hq); rw [List.length_drop, ← Lib.size_eq] at h9; omega
          have T := fun W hW => tag_any g s low k (k + 5) W hW (by omega) hs xs r hn
          rw [show ((k + 5 : Nat) : Int) = (k : Int) + 5 by omega] at T
          have TG := Lib.hid T
          clear T hn
          injection hst with e1 e2
          subst e1
          have HE := Lib.hid e2
          clear e2 hroom1 hroom2 ho
          go_enter Tryd.func59, Tryd.ntmps59
          go_wp2_with fail
          refine (NM.out _ h).mono ?_
          rintro e W1 ⟨rfl, b1⟩
          have h := Box.bel h b1
          have hB : Bes g w W1 := Bes.of_bel b1
          clear b1
          go_wp2_with fail
          refine (G1.out _ h).mono ?_
          rintro e W2 ⟨rfl, m, rfl⟩
          have h := Box.drewN h m
          have hB := hB.trans (Bes.of_bel ((Bel.refl W1).drewN m))
          generalize World.drewN W1 m = W2 at h hB ⊢
          go_wp2_with fail
          refine (G2.out _ h).mono ?_
          rintro e W3 ⟨rfl, m, rfl⟩
          have h := Box.drewN h m
          have hB := hB.trans (Bes.of_bel ((Bel.refl W2).drewN m))
          generalize World.drewN W2 m = W3 at h hB ⊢
          go_wp2_with fail
          refine (G5.out _ h).mono ?_
          rintro e W4 ⟨rfl, m, rfl⟩
          have h := Box.drewN h m
          have hB := hB.trans (Bes.of_bel ((Bel.refl W3).drewN m))
          generalize World.drewN W3 m = W4 at h hB ⊢
          go_wp2_with fail
          refine (white_to c5 _ HW.out _).mono ?_
          rintro e W' ⟨rfl, hW'⟩
          have hW' := hW'.symm
          subst hW'
          go_wp2_with fail
          refine (G5.out _ h).mono ?_
          rintro e W5 ⟨rfl, m, rfl⟩
          have h := Box.drewN h m
          have hB := hB.trans (Bes.of_bel ((Bel.refl W4).drewN m))
          generalize World.drewN W4 m = W5 at h hB ⊢
          have c2 := Box.cell h 2 _ rfl
          go_wp2_with fail
          refine (TG.out _ h).mono ?_
          rintro e W9 ⟨v, rfl, hsl, ⟨k', hk', h9, hd⟩, hB9⟩
          have hB9 := hB.trans hB9
          have hL9 := Len.bes hL h0 hB9
          go_wp2_with fail
          refine (metaS_any v xs W9 hsl hshort hL9).mono ?_
          rintro e W10 ⟨rfl, b10⟩
          go_wp2_with fail
          go_ret
          exact ⟨rfl, ⟨k', hk', Lk.bel h9 b10, hd.trans HE.out⟩, hB9.trans (Bes.of_bel b10)⟩
        | false =>
          rw [if_neg (by rintro ⟨_, h9⟩; rw [hw, h47] at h9; cases h9)] at hst
          clear hw
          cases o with
          | some en =>
            have hsuf := M.nameEnd_suf _ _ ho
            have hd0 := M.Suf.at (M.Suf.trans (a := en) hsuf (M.Suf.drop s.data.toList k))
            rw [← Lib.size_eq] at hd0
            obtain ⟨xs, r, hn⟩ : ∃ xs r, M.attrsA en = (xs, r) := ⟨_, _, rfl⟩
            have hst : ((0 : Int), (M.attrsA en).2.drop 1) = (n, t) := hst
            rw [hn] at hst
            rw [hd0] at hn
            have T := fun W hW => tag_any g s low k (s.size - en.length) W hW (by omega) hs xs r hn
            rw [show ((s.size - en.length : Nat) : Int) = endOf s (some en) from rfl] at T
            have TG := Lib.hid T
            clear T hn hd0 hsuf
            injection hst with e1 e2
            subst e1
            have HE := Lib.hid e2
            clear e2 hroom1 hroom2 ho
            have ho9 : (some en).isSome = true := rfl
            go_enter Tryd.func59, Tryd.ntmps59
            go_wp2_with fail
            refine (NM.out _ h).mono ?_
            rintro e W1 ⟨rfl, b1⟩
            have h := Box.bel h b1
            have hB : Bes g w W1 := Bes.of_bel b1
            clear b1
            go_wp2_with fail
            refine (G1.out _ h).mono ?_
            rintro e W2 ⟨rfl, m, rfl⟩
            have h := Box.drewN h m
            have hB := hB.trans (Bes.of_bel ((Bel.refl W1).drewN m))
            generalize World.drewN W1 m = W2 at h hB ⊢
            go_wp2_with fail
            refine (G2.out _ h).mono ?_
            rintro e W3 ⟨rfl, m, rfl⟩
            have h := Box.drewN h m
            have hB := hB.trans (Bes.of_bel ((Bel.refl W2).drewN m))
            generalize World.drewN W2 m = W3 at h hB ⊢
            go_wp2_with fail
            refine (G5.out _ h).mono ?_
            rintro e W4 ⟨rfl, m, rfl⟩
            have h := Box.drewN h m
            have hB := hB.trans (Bes.of_bel ((Bel.refl W3).drewN m))
            generalize World.drewN W3 m = W4 at h hB ⊢
            go_wp2_with fail
            refine (white_to c5 _ HW.out _).mono ?_
            rintro e W' ⟨rfl, hW'⟩
            have hW' := hW'.symm
            subst hW'
            go_wp2_with fail
            refine (G5.out _ h).mono ?_
            rintro e W5 ⟨rfl, m, rfl⟩
            have h := Box.drewN h m
            have hB := hB.trans (Bes.of_bel ((Bel.refl W4).drewN m))
            generalize World.drewN W4 m = W5 at h hB ⊢
            have c2 := Box.cell h 2 _ rfl
            go_wp2_with fail
            refine (TG.out _ h).mono ?_
            rintro e W9 ⟨v, rfl, hsl, ⟨k', hk', h9, hd⟩, hB9⟩
            go_wp2_with fail
            go_ret
            exact ⟨rfl, ⟨k', hk', h9, hd.trans HE.out⟩, hB.trans hB9⟩
          | none =>
            have ho9 : (none : Option (List UInt8)).isSome = false := rfl
            have hst : (if b3 = true ∨ b4 = true ∨ b6 = true then ((0 : Int), M.behindF [62] (s.data.toList.drop k)) else (0, (s.data.toList.drop k).drop 1)) = (n, t) := hst
            cases b3 with
            | true =>
              rw [if_pos (.inl rfl)] at hst
              injection hst with e1 e2
              subst e1
              have HE := Lib.hid e2
              clear e2 hroom1 hroom2 ho
              go_enter Tryd.func59, Tryd.ntmps59
              go_wp2_with fail
              refine (NM.out _ h).mono ?_
              rintro e W1 ⟨rfl, b1⟩
              have h := Box.bel h b1
              have hB : Bes g w W1 := Bes.of_bel b1
              clear b1
              go_wp2_with fail
              refine (G1.out _ h).mono ?_
              rintro e W2 ⟨rfl, m, rfl⟩
              have h := Box.drewN h m
              have hB := hB.trans (Bes.of_bel ((Bel.refl W1).drewN m))
              generalize World.drewN W1 m = W2 at h hB ⊢
              go_wp2_with fail
              refine (G2.out _ h).mono ?_
              rintro e W3 ⟨rfl, m, rfl⟩
              have h := Box.drewN h m
              have hB := hB.trans (Bes.of_bel ((Bel.refl W2).drewN m))
              generalize World.drewN W2 m = W3 at h hB ⊢
              go_wp2_with fail
              refine (G5.out _ h).mono ?_
              rintro e W4 ⟨rfl, m, rfl⟩
              have h := Box.drewN h m
              have hB := hB.trans (Bes.of_bel ((Bel.refl W3).drewN m))
              generalize World.drewN W3 m = W4 at h hB ⊢
              go_wp2_with fail
              refine (white_to c5 _ HW.out _).mono ?_
              rintro e W' ⟨rfl, hW'⟩
              have hW' := hW'.symm
              subst hW'
              go_wp2_with fail
              refine (G5.out _ h).mono ?_
              rintro e W5 ⟨rfl, m, rfl⟩
              have h := Box.drewN h m
              have hB := hB.trans (Bes.of_bel ((Bel.refl W4).drewN m))
              generalize World.drewN W4 m = W5 at h hB ⊢
              have c2 := Box.cell h 2 _ rfl
              go_wp2_with fail
              refine (G3.out _ h).mono ?_
              rintro e W20 ⟨rfl, m, rfl⟩
              have h := Box.drewN h m
              have hB := hB.trans (Bes.of_bel ((Bel.refl W5).drewN m))
              generalize World.drewN W5 m = W20 at h hB ⊢
              go_wp2_with fail
              refine (to_any g s low ⟨#[62]⟩ k 0 _ h hl (by omega) hs (by decide) (by decide) (by decide) (Len.bes hL h0 hB)).mono ?_
              rintro e W9 ⟨rfl, ⟨k', hk', h9, hd⟩, hB9⟩
              go_wp2_with fail
              go_ret
              exact ⟨rfl, ⟨k', hk', h9, by rw [hd, ← HE.out]; first | rfl | (rw [List.drop_drop]; rfl)⟩, hB.trans hB9⟩
            | false =>
              cases b4 with
              | true =>
                rw [if_pos (.inr (.inl rfl))] at hst
                injection hst with e1 e2
                subst e1
                have HE := Lib.hid e2
                clear e2 hroom1 hroom2 ho
                go_enter Tryd.func59, Tryd.ntmps59
                go_wp2_with fail
                refine (NM.out _ h).mono ?_
                rintro e W1 ⟨rfl, b1⟩
                have h := Box.bel h b1
                have hB : Bes g w W1 := Bes.of_bel b1
                clear b1
                go_wp2_with fail
                refine (G1.out _ h).mono ?_
                rintro e W2 ⟨rfl, m, rfl⟩
                have h := Box.drewN h m
                have hB := hB.trans (Bes.of_bel ((Bel.refl W1).drewN m))
                generalize World.drewN W1 m = W2 at h hB ⊢
                go_wp2_with fail
                refine (G2.out _ h).mono ?_
                rintro e W3 ⟨rfl, m, rfl⟩
                have h := Box.drewN h m
                have hB := hB.trans (Bes.of_bel ((Bel.refl W2).drewN m))
                generalize World.drewN W2 m = W3 at h hB ⊢
                go_wp2_with fail
                refine (G5.out _ h).mono ?_
                rintro e W4 ⟨rfl, m, rfl⟩
                have h := Box.drewN h m
                have hB := hB.trans (Bes.of_bel ((Bel.refl W3).drewN m))
                generalize World.drewN W3 m = W4 at h hB ⊢
                go_wp2_with fail
                refine (white_to c5 _ HW.out _).mono ?_
                rintro e W' ⟨rfl, hW'⟩
                have hW' := hW'.symm
                subst hW'
                go_wp2_with fail
                refine (G5.out _ h).mono ?_
                rintro e W5 ⟨rfl, m, rfl⟩
                have h := Box.drewN h m
                have hB := hB.trans (Bes.of_bel ((Bel.refl W4).drewN m))
                generalize World.drewN W4 m = W5 at h hB ⊢
                have c2 := Box.cell h 2 _ rfl
                go_wp2_with fail
                refine (G3.out _ h).mono ?_
                rintro e W20 ⟨rfl, m, rfl⟩
                have h := Box.drewN h m
                have hB := hB.trans (Bes.of_bel ((Bel.refl W5).drewN m))
                generalize World.drewN W5 m = W20 at h hB ⊢
                go_wp2_with fail
                refine (G4.out _ h).mono ?_
                rintro e W21 ⟨rfl, m, rfl⟩
                have h := Box.drewN h m
                have hB := hB.trans (Bes.of_bel ((Bel.refl W20).drewN m))
                generalize World.drewN W20 m = W21 at h hB ⊢
                go_wp2_with fail
                refine (to_any g s low ⟨#[62]⟩ k 0 _ h hl (by omega) hs (by decide) (by decide) (by decide) (Len.bes hL h0 hB)).mono ?_
                rintro e W9 ⟨rfl, ⟨k', hk', h9, hd⟩, hB9⟩
                go_wp2_with fail
                go_ret
                exact ⟨rfl, ⟨k', hk', h9, by rw [hd, ← HE.out]; first | rfl | (rw [List.drop_drop]; rfl)⟩, hB.trans hB9⟩
              | false =>
                cases b6 with
                | true =>
                  rw [if_pos (.inr (.inr rfl))] at hst
                  injection hst with e1 e2
                  subst e1
                  have HE := Lib.hid e2
                  clear e2 hroom1 hroom2 ho
                  go_enter Tryd.func59, Tryd.ntmps59
                  go_wp2_with fail
                  refine (NM.out _ h).mono ?_
                  rintro e W1 ⟨rfl, b1⟩
                  have h := Box.bel h b1
                  have hB : Bes g w W1 := Bes.of_bel b1
                  clear b1
                  go_wp2_with fail
                  refine (G1.out _ h).mono ?_
                  rintro e W2 ⟨rfl, m, rfl⟩
                  have h := Box.drewN h m
                  have hB := hB.trans (Bes.of_bel ((Bel.refl W1).drewN m))
                  generalize World.drewN W1 m = W2 at h hB ⊢
                  go_wp2_with fail
                  refine (G2.out _ h).mono ?_
                  rintro e W3 ⟨rfl, m, rfl⟩
                  have h := Box.drewN h m
                  have hB := hB.trans (Bes.of_bel ((Bel.refl W2).drewN m))
                  generalize World.drewN W2 m = W3 at h hB ⊢
                  go_wp2_with fail
                  refine (G5.out _ h).mono ?_
                  rintro e W4 ⟨rfl, m, rfl⟩
                  have h := Box.drewN h m
                  have hB := hB.trans (Bes.of_bel ((Bel.refl W3).drewN m))
                  generalize World.drewN W3 m = W4 at h hB ⊢
                  go_wp2_with fail
                  refine (white_to c5 _ HW.out _).mono ?_
                  rintro e W' ⟨rfl, hW'⟩
                  have hW' := hW'.symm
                  subst hW'
                  go_wp2_with fail
                  refine (G5.out _ h).mono ?_
                  rintro e W5 ⟨rfl, m, rfl⟩
                  have h := Box.drewN h m
                  have hB := hB.trans (Bes.of_bel ((Bel.refl W4).drewN m))
                  generalize World.drewN W4 m = W5 at h hB ⊢
                  have c2 := Box.cell h 2 _ rfl
                  go_wp2_with fail
                  refine (G3.out _ h).mono ?_
                  rintro e W20 ⟨rfl, m, rfl⟩
                  have h := Box.drewN h m
                  have hB := hB.trans (Bes.of_bel ((Bel.refl W5).drewN m))
                  generalize World.drewN W5 m = W20 at h hB ⊢
                  go_wp2_with fail
                  refine (G4.out _ h).mono ?_
                  rintro e W21 ⟨rfl, m, rfl⟩
                  have h := Box.drewN h m
                  have hB := hB.trans (Bes.of_bel ((Bel.refl W20).drewN m))
                  generalize World.drewN W20 m = W21 at h hB ⊢
                  go_wp2_with fail
                  refine (G6.out _ h).mono ?_
                  rintro e W22 ⟨rfl, m, rfl⟩
                  have h := Box.drewN h m
                  have hB := hB.trans (Bes.of_bel ((Bel.refl W21).drewN m))
                  generalize World.drewN W21 m = W22 at h hB ⊢
                  go_wp2_with fail
                  refine (to_any g s low ⟨#[62]⟩ k 0 _ h hl (by omega) hs (by decide) (by decide) (by decide) (Len.bes hL h0 hB)).mono ?_
                  rintro e W9 ⟨rfl, ⟨k', hk', h9, hd⟩, hB9⟩
                  go_wp2_with fail
                  go_ret
                  exact ⟨rfl, ⟨k', hk', h9, by rw [hd, ← HE.out]; first | rfl | (rw [List.drop_drop]; rfl)⟩, hB.trans hB9⟩
                | false =>
                  rw [if_neg (by decide)] at hst
                  injection hst with e1 e2
                  subst e1
                  have HE := Lib.hid e2
                  clear e2 hroom1 hroom2 ho
                  go_enter Tryd.func59, Tryd.ntmps59
                  go_wp2_with fail
                  refine (NM.out _ h).mono ?_
                  rintro e W1 ⟨rfl, b1⟩
                  have h := Box.bel h b1
                  have hB : Bes g w W1 := Bes.of_bel b1
                  clear b1
                  go_wp2_with fail
                  refine (G1.out _ h).mono ?_
                  rintro e W2 ⟨rfl, m, rfl⟩
                  have h := Box.drewN h m
                  have hB := hB.trans (Bes.of_bel ((Bel.refl W1).drewN m))
                  generalize World.drewN W1 m = W2 at h hB ⊢
                  go_wp2_with fail
                  refine (G2.out _ h).mono ?_
                  rintro e W3 ⟨rfl, m, rfl⟩
                  have h := Box.drewN h m
                  have hB := hB.trans (Bes.of_bel ((Bel.refl W2).drewN m))
                  generalize World.drewN W2 m = W3 at h hB ⊢
                  go_wp2_with fail
                  refine (G5.out _ h).mono ?_
                  rintro e W4 ⟨rfl, m, rfl⟩
                  have h := Box.drewN h m
                  have hB := hB.trans (Bes.of_bel ((Bel.refl W3).drewN m))
                  generalize World.drewN W3 m = W4 at h hB ⊢
                  go_wp2_with fail
                  refine (white_to c5 _ HW.out _).mono ?_
                  rintro e W' ⟨rfl, hW'⟩
                  have hW' := hW'.symm
                  subst hW'
                  go_wp2_with fail
                  refine (G5.out _ h).mono ?_
                  rintro e W5 ⟨rfl, m, rfl⟩
                  have h := Box.drewN h m
                  have hB := hB.trans (Bes.of_bel ((Bel.refl W4).drewN m))
                  generalize World.drewN W4 m = W5 at h hB ⊢
                  have c2 := Box.cell h 2 _ rfl
                  go_wp2_with fail
                  refine (G3.out _ h).mono ?_
                  rintro e W20 ⟨rfl, m, rfl⟩
                  have h := Box.drewN h m
                  have hB := hB.trans (Bes.of_bel ((Bel.refl W5).drewN m))
                  generalize World.drewN W5 m = W20 at h hB ⊢
                  go_wp2_with fail
                  refine (G4.out _ h).mono ?_
                  rintro e W21 ⟨rfl, m, rfl⟩
                  have h := Box.drewN h m
                  have hB := hB.trans (Bes.of_bel ((Bel.refl W20).drewN m))
                  generalize World.drewN W20 m = W21 at h hB ⊢
                  go_wp2_with fail
                  refine (G6.out _ h).mono ?_
                  rintro e W22 ⟨rfl, m, rfl⟩
                  have h := Box.drewN h m
                  have hB := hB.trans (Bes.of_bel ((Bel.refl W21).drewN m))
                  generalize World.drewN W21 m = W22 at h hB ⊢
                  have c2 := Box.cell h 2 _ rfl
                  have f2 := Box.frozen h 2
                  go_wp2_with fail
                  go_ret
                  exact ⟨rfl, ⟨k + 1, by omega, by rw [show (k : Int) + 1 = ((k + 1 : Nat) : Int) by omega]; exact Lk.move h (k + 1), by rw [← HE.out, List.drop_drop]⟩, hB.setCell 2 _⟩
end Go.Proofs.YthaoohckgilahaaDoor

/-
  The document's answers on scans: isLetter, ScanOf.
-/
namespace Go.Proofs.YthaoohckgilahaaDoor
open Go.RowKit
set_option maxRecDepth 1000000
set_option maxHeartbeats 16000000

theorem letter_fold (c : UInt8) : M.letterB (M.fold1 c) = (decide ((97 : Int) ≤ (c.toNat : Int) ∧ (c.toNat : Int) ≤ 122) || decide ((65 : Int) ≤ (c.toNat : Int) ∧ (c.toNat : Int) ≤ 90)) := by
  unfold M.letterB
  rw [Bool.eq_iff_iff, M.fold1_nat]
  simp only [decide_eq_true_eq, Bool.or_eq_true]
  split <;> omega
theorem isLetter_to (c : UInt8) (b : Bool) (h : M.letterB (M.fold1 c) = b) (w : World) : Calls Tryd.prog 38 #[.int .u8 (c.toNat : Int)] w fun e w' => e = .returned (.bool b) ∧ w = w' := by
  have hcl : c.toNat < 256 := c.toNat_lt
  rw [letter_fold] at h
  cases d1 : decide ((97 : Int) ≤ (c.toNat : Int) ∧ (c.toNat : Int) ≤ 122) with
  | true =>
    rw [d1] at h
    have H := Lib.hid h
    have HD := Lib.hid d1
    clear h d1
    go_enter Tryd.func38, Tryd.ntmps38
    go_wp2_with fail
    refine (between_any _ _ _ _).mono ?_
    rintro e w' ⟨rfl, rfl⟩
    rw [HD.out]
    go_wp2_with fail
    go_ret
    exact ⟨by rw [← H.out]; rfl, rfl⟩
  | false =>
    rw [d1, Bool.false_or] at h
    have H := Lib.hid h
    have HD := Lib.hid d1
    clear h d1
    go_enter Tryd.func38, Tryd.ntmps38
    go_wp2_with fail
    refine (between_any _ _ _ _).mono ?_
    rintro e w' ⟨rfl, rfl⟩
    rw [HD.out]
    go_wp2_with fail
    refine (between_any _ _ _ _).mono ?_
    rintro e w' ⟨rfl, rfl⟩
    rw [H.out]
    go_wp2_with fail
    go_ret
    exact ⟨rfl, rfl⟩
theorem byteN_in (s : ByteArray) (j i k : Nat) (hk : j + i = k) (h : k < s.size) : byteN (s.data.toList.drop j) i = M.fold1 s[k] := by
  subst hk
  unfold byteN M.fold
  rw [List.getElem?_map, List.getElem?_drop, byte_at s (j + i) h]
  rfl
theorem byteN_out (s : ByteArray) (j i : Nat) (h : s.size ≤ j + i) : byteN (s.data.toList.drop j) i = 0 := by
  unfold byteN M.fold
  rw [List.getElem?_map, List.getElem?_drop, List.getElem?_eq_none (by rw [← Lib.size_eq]; exact h)]
  rfl
theorem end_int2 (c : UInt8) : M.endB c = (M.white c || !((c.toNat : Int) != 62)) := by
  unfold M.endB
  congr 1
  rw [Bool.eq_iff_iff, decide_eq_true_eq, ← UInt8.toNat_inj]
  show c.toNat = 62 ↔ _
  simp
  omega
def p62 (c : UInt8) : Bool := ((c.toNat : Int) != 62)
theorem p62_int (c : UInt8) : p62 c = ((c.toNat : Int) != 62) := rfl
theorem behind_62 : ∀ l : List UInt8, M.behindF [62] l = (l.dropWhile p62).drop 1
  | [] => rfl
  | c :: t => by
    rw [M.behindF]
    have hp : Lib.hasPrefix (M.fold (c :: t)) [62] = !p62 c := by
      show ((62 == M.fold1 c) && true) = !p62 c
      rw [Bool.and_true, Bool.eq_iff_iff, beq_iff_eq, Bool.not_eq_true', p62, bne_eq_false_iff_eq]
      have h62 := M.fold1_eq 62 (.inl (by decide)) c
      constructor
      · intro h
        rw [h62.1 h.symm]; rfl
      · intro h
        have hc : c = 62 := by rw [← UInt8.toNat_inj]; show c.toNat = 62; omega
        rw [hc]; rfl
    cases hc : p62 c with
    | true => rw [hp, hc, if_neg (by decide), List.dropWhile_cons_of_pos hc, behind_62 t]
    | false => rw [hp, hc, if_pos (show (!false) = true from rfl), List.dropWhile_cons_of_neg (by rw [hc]; decide)]; rfl
/-- Where the name of a tag begins that stands here; 0: none does. -/
def nameAt (l : List UInt8) (j : Nat) : Nat := if nameQ l = true then (if M.letterB (byteN l 1) = true then j + 1 else j + 2) else 0
theorem fold1_47b (c : UInt8) : ((M.fold1 c).toNat == 47) = ((c.toNat : Int) == 47) := by
  rw [Bool.eq_iff_iff, beq_iff_eq, beq_iff_eq, fold1_47, ← UInt8.toNat_inj]
  show c.toNat = 47 ↔ _
  omega
theorem fold1_60b (c : UInt8) : ((M.fold1 c).toNat == 60) = ((c.toNat : Int) == 60) := by
  rw [Bool.eq_iff_iff, beq_iff_eq, beq_iff_eq, fold1_60, ← UInt8.toNat_inj]
  show c.toNat = 60 ↔ _
  omega
theorem letter_47 (b : UInt8) (h : b.toNat = 47) : M.letterB b = false := by unfold M.letterB; rw [h]; decide
theorem end_ne60 (c : UInt8) (h : (M.fold1 c).toNat = 60) : M.endB c = false := by rw [fold1_60] at h; subst h; decide
theorem end_ne47 (c : UInt8) (h : (M.fold1 c).toNat = 47) : M.endB c = false := by rw [fold1_47] at h; subst h; decide
theorem name_from (s : ByteArray) (j : Nat) (h : nameQ (s.data.toList.drop j) = true) : nameAt (s.data.toList.drop j) j ≤ s.size ∧ 0 < nameAt (s.data.toList.drop j) j ∧ j < nameAt (s.data.toList.drop j) j ∧ (s.data.toList.drop (nameAt (s.data.toList.drop j) j)).dropWhile (fun c => !M.endB c) = (s.data.toList.drop j).dropWhile (fun c => !M.endB c) := by
  have hq := h
  unfold nameQ at h
  rw [Bool.and_eq_true, beq_iff_eq] at h
  obtain ⟨h0, h1⟩ := h
  have hj : j + 0 < s.size := by
    by_cases hh : j + 0 < s.size
    · exact hh
    · rw [byteN_out s j 0 (by omega)] at h0; exact absurd h0 (by decide)
  rw [byteN_in s j 0 j rfl hj] at h0
  have d0 := dw_go (fun c => !M.endB c) s j hj (by show (!M.endB s[j]) = true; rw [end_ne60 _ h0]; rfl)
  unfold nameAt
  rw [if_pos hq]
  have hj1 : j + 1 < s.size := by
    by_cases hh : j + 1 < s.size
    · exact hh
    · rw [byteN_out s j 1 (by omega), if_neg (by decide), byteN_out s j 1 (by omega)] at h1; exact absurd h1 (by decide)
  by_cases hl : M.letterB (byteN (s.data.toList.drop j) 1) = true
  · rw [if_pos hl]
    exact ⟨by omega, by omega, by omega, d0⟩
  · rw [if_neg hl]
    have h47 : (byteN (s.data.toList.drop j) 1).toNat = 47 := by
      by_cases hh : (byteN (s.data.toList.drop j) 1).toNat = 47
      · exact hh
      · rw [if_neg hh] at h1; exact absurd h1 hl
    rw [if_pos h47] at h1
    have hj2 : j + 2 < s.size := by
      by_cases hh : j + 2 < s.size
      · exact hh
      · rw [byteN_out s j 2 (by omega)] at h1; exact absurd h1 (by decide)
    rw [byteN_in s j 1 (j + 1) rfl hj1] at h47
    have d1 := dw_go (fun c => !M.endB c) s (j + 1) hj1 (by show (!M.endB s[j + 1]) = true; rw [end_ne47 _ h47]; rfl)
    exact ⟨by omega, by omega, by omega, d1.trans d0⟩
theorem behind_step (sub : List UInt8) (s : ByteArray) (k : Nat) (hk : k < s.size) (h : Lib.hasPrefix (M.fold (s.data.toList.drop k)) sub = false) : M.behindF sub (s.data.toList.drop (k + 1)) = M.behindF sub (s.data.toList.drop k) := by
  rw [drop_cons s k hk] at h ⊢
  rw [M.behindF, if_neg (by rw [h]; decide)]
theorem behind_here (sub : List UInt8) (s : ByteArray) (k : Nat) (hk : k < s.size) (h : Lib.hasPrefix (M.fold (s.data.toList.drop k)) sub = true) : M.behindF sub (s.data.toList.drop k) = s.data.toList.drop (k + sub.length) := by
  rw [← List.drop_drop]
  rw [drop_cons s k hk] at h ⊢
  rw [M.behindF, if_pos h]
theorem scanRef_any (s0 : ByteArray) (hs0 : s0.size ≤ 9000) (w : World) : Calls Tryd.prog 20 #[.string s0] w fun e w' => e = .returned (.int .i64 (M.scanA s0.data.toList)) ∧ Bel w w' := by
  go_enter Tryd.func20, Tryd.ntmps20
  go_upto_if 13 with fail
  go_cut [0] from 11 to 15 (fun v wx => (∃ s : ByteArray, v = .string s ∧ s.size ≤ 256 ∧ M.scanA s0.data.toList = M.scan0 s.data.toList) ∧ w = wx)
  case first =>
    by_cases hl : 256 < s0.size
    · have hbd : (0 : Int) ≤ 256 ∧ (256 : Int) ≤ (s0.size : Int) := by omega
      go_wp2_with fail
      go_meet
      exact ⟨⟨s0.extract 0 256, by first | rfl | simp, by rw [Lib.size_eq, Lib.extract_data, List.length_take]; omega, by rw [Lib.extract_data, List.drop_zero, Nat.sub_zero, M.scanA]⟩, rfl⟩
    · go_wp2_with fail
      go_meet
      exact ⟨⟨s0, rfl, by omega, by rw [M.scanA, List.take_of_length_le (by rw [← Lib.size_eq]; omega)]⟩, rfl⟩
  case rest =>
  obtain ⟨⟨s, rfl, hs, ht⟩, rfl⟩ := hcut
  have HT := Lib.hid ht
  clear ht hs0
  go_wp2_with fail
  go_loopg [3] (s.size + 4) (fun gg v wr => ∃ j : Nat, v = .int .i64 (j : Int) ∧ j ≤ s.size + 3 ∧ s.size + 3 - j ≤ gg ∧ Bel w wr ∧ Hid (M.scanA s0.data.toList = M.scan0 (s.data.toList.drop j)))
  case atStart => exact ⟨0, rfl, by omega, by omega, Bel.refl _, Lib.hid (by rw [List.drop_zero]; exact HT.out)⟩
  case round =>
    obtain ⟨j, rfl, hj3, hg, hb, HJ⟩ := hrel
    by_cases hlt : j < s.size
    · obtain ⟨n, t, hst⟩ : ∃ n t, M.stepS (s.data.toList.drop j) = (n, t) := ⟨_, _, rfl⟩
      have hsc : M.scan0 (s.data.toList.drop j) = if n = 0 then M.scan0 t else n := by
        have := M.scan0_cons s[j] (s.data.toList.drop (j + 1))
        rw [← drop_cons s j hlt, hst] at this
        exact this
      have HS := Lib.hid (HJ.out.trans hsc)
      clear hsc HJ
      obtain ⟨b1, hb1⟩ : ∃ b, Lib.hasPrefix (M.fold (s.data.toList.drop j)) M.openS = b := ⟨_, rfl⟩
      have BG1 := Lib.hid (fun W => beginsAt_any s ⟨#[60, 33, 45, 45]⟩ j (by omega) (by omega) W)
      rw [show (⟨#[60, 33, 45, 45]⟩ : ByteArray).data.toList = M.openS from rfl, hb1] at BG1
      obtain ⟨b2, hb2⟩ : ∃ b, Lib.hasPrefix (M.fold (s.data.toList.drop j)) M.metaS = b := ⟨_, rfl⟩
      have BG2 := Lib.hid (fun W => beginsAt_any s ⟨#[60, 109, 101, 116, 97]⟩ j (by omega) (by omega) W)
      rw [show (⟨#[60, 109, 101, 116, 97]⟩ : ByteArray).data.toList = M.metaS from rfl, hb2] at BG2
      obtain ⟨b3, hb3⟩ : ∃ b, Lib.hasPrefix (M.fold (s.data.toList.drop j)) [60, 33] = b := ⟨_, rfl⟩
      have BG3 := Lib.hid (fun W => beginsAt_any s ⟨#[60, 33]⟩ j (by omega) (by omega) W)
      rw [show (⟨#[60, 33]⟩ : ByteArray).data.toList = [60, 33] from rfl, hb3] at BG3
      obtain ⟨b4, hb4⟩ : ∃ b, Lib.hasPrefix (M.fold (s.data.toList.drop j)) [60, 47] = b := ⟨_, rfl⟩
      have BG4 := Lib.hid (fun W => beginsAt_any s ⟨#[60, 47]⟩ j (by omega) (by omega) W)
      rw [show (⟨#[60, 47]⟩ : ByteArray).data.toList = [60, 47] from rfl, hb4] at BG4
      obtain ⟨b6, hb6⟩ : ∃ b, Lib.hasPrefix (M.fold (s.data.toList.drop j)) [60, 63] = b := ⟨_, rfl⟩
      have BG6 := Lib.hid (fun W => beginsAt_any s ⟨#[60, 63]⟩ j (by omega) (by omega) W)
      rw [show (⟨#[60, 63]⟩ : ByteArray).data.toList = [60, 63] from rfl, hb6] at BG6
      rw [M.pre2_fold _ (by decide)] at hb3 hb4 hb6
      have hroom1 := pre_roomS (s.data.toList.drop j) M.openS
      rw [hb1, List.length_drop, ← Lib.size_eq, show M.openS.length = 4 from rfl] at hroom1
      have hroom2 := pre_roomS (s.data.toList.drop j) M.metaS
      rw [hb2, List.length_drop, ← Lib.size_eq, show M.metaS.length = 5 from rfl] at hroom2
      obtain ⟨sl, hsl⟩ : ∃ sl, M.slashW (s.data.toList.drop (j + 5)) = sl := ⟨_, rfl⟩
      obtain ⟨o, ho⟩ : ∃ o, M.nameEnd (s.data.toList.drop j) = o := ⟨_, rfl⟩
      unfold M.stepS at hst
      have d5 : List.drop 5 (List.drop j s.data.toList) = List.drop (j + 5) s.data.toList := by rw [List.drop_drop]
      rw [hb1, hb2, hb3, hb4, hb6, ho, d5, hsl] at hst
      clear d5
      clear hb1 hb2 hb3 hb4 hb6
      cases b1 with
      | true =>
        have hr4 := hroom1 rfl (by decide)
        rw [if_pos rfl, List.drop_drop] at hst
        injection hst with e1 e2
        subst e1
        have HR := Lib.hid (HS.out.trans (if_pos rfl))
        have HE := Lib.hid e2
        clear e2 HS hroom1 hroom2 ho hsl
        go_wp2_with fail
        refine (BG1.out _).mono ?_
        rintro e W ⟨rfl, hbb⟩
        have hb := hb.trans hbb
        clear hbb
        go_upto_block 2 with fail
        go_cut [4] from 25 to 36 (fun v wx => (∃ k : Nat, v = .int .i64 (k : Int) ∧ k ≤ s.size ∧ j + 2 ≤ k ∧ s.data.toList.drop (k + 3) = t) ∧ Bel w wx)
        case first =>
          go_wp2_with fail
          go_loopw [4] (fun v wr => ∃ k : Nat, v = .int .i64 (k : Int) ∧ k ≤ s.size ∧ j + 2 ≤ k ∧ Bel w wr ∧ Hid (M.behindF M.closeS (s.data.toList.drop k) = t)) (fun v _ => s.size - (intOf v).toNat)
          case atStart => exact ⟨j + 2, by first | rfl | go_num, by omega, Nat.le_refl _, hb, HE⟩
          case round =>
            obtain ⟨k, rfl, hk, hjk, hbk, HK⟩ := hrel
            by_cases hkl : k < s.size
            · have bk := Lib.hid (fun W => beginsAt_any s ⟨#[45, 45, 62]⟩ k (by omega) (by omega) W)
              cases hp : Lib.hasPrefix (M.fold (s.data.toList.drop k)) M.closeS with
              | true =>
                rw [show (⟨#[45, 45, 62]⟩ : ByteArray).data.toList = M.closeS from rfl, hp] at bk
                have HX := Lib.hid ((behind_here M.closeS s k hkl hp).symm.trans HK.out)
                clear hp HK
                go_wp2_with fail
                refine (bk.out _).mono ?_
                rintro e W3 ⟨rfl, hbb⟩
                go_wp2_with fail
                go_meet
                exact ⟨⟨k, rfl, hk, hjk, HX.out⟩, hbk.trans hbb⟩
              | false =>
                rw [show (⟨#[45, 45, 62]⟩ : ByteArray).data.toList = M.closeS from rfl, hp] at bk
                have HX := Lib.hid ((behind_step M.closeS s k hkl hp).trans HK.out)
                clear hp HK
                go_wp2_with fail
                refine (bk.out _).mono ?_
                rintro e W3 ⟨rfl, hbb⟩
                go_wp2_with fail
                go_roundw
                case rel => exact ⟨k + 1, by go_num, by omega, by omega, hbk.trans hbb, HX⟩
                case measure => simp [intOf]; omega
            · obtain rfl : k = s.size := by omega
              have HX := Lib.hid (show s.data.toList.drop (s.size + 3) = t by rw [← HK.out, drop_end, List.drop_eq_nil_of_le (by rw [← Lib.size_eq]; omega)]; rfl)
              go_wp2_with fail
              go_meet
              exact ⟨⟨s.size, rfl, hk, hjk, HX.out⟩, hbk⟩
        case rest =>
        obtain ⟨⟨k, rfl, hk, hjk, hdk⟩, hb⟩ := hcut
        have HX := Lib.hid (show M.scanA s0.data.toList = M.scan0 (s.data.toList.drop (k + 3)) by rw [HR.out, hdk])
        clear hdk HR HE
        go_wp2_with fail
        go_roundg (s.size + 3 - (k + 3))
        case measure => omega
        case rel => exact ⟨k + 3, by go_num, by omega, Nat.le_refl _, hb, HX⟩
      | false =>
        rw [if_neg (by decide)] at hst
        go_wp2_with fail
        refine (BG1.out _).mono ?_
        rintro e W ⟨rfl, hbb⟩
        have hb := hb.trans hbb
        clear hbb
        go_upto_region 10 with fail
        go_cut [62] from 39 to 62 (fun v wx => v = .bool (b2 && sl) ∧ Bel w wx)
        case first =>
          clear hst HS ho
          cases b2 with
          | false =>
            go_wp2_with fail
            refine (BG2.out _).mono ?_
            rintro e W2 ⟨rfl, hbb⟩
            go_wp2_with fail
            go_meet
            exact ⟨rfl, hb.trans hbb⟩
          | true =>
            obtain ⟨j5, hj5⟩ : ∃ j5 : Nat, j + 5 = j5 := ⟨_, rfl⟩
            have hi5 : (j : Int) + 5 = (j5 : Int) := by omega
            rw [hj5] at hsl
            by_cases h5 : j5 < s.size
            · rw [drop_cons s j5 h5] at hsl
              have hsl : M.skipB s[j5] = sl := hsl
              rw [skip_int] at hsl
              cases hw : M.white s[j5] with
              | true =>
                have HW := Lib.hid hw
                have HSL := Lib.hid (show sl = true by rw [← hsl, hw]; rfl)
                clear hw hsl hj5
                go_wp2_with fail
                refine (BG2.out _).mono ?_
                rintro e W2 ⟨rfl, hbb⟩
                go_wp2_with (go_at_call 30; refine (isWhite_any _ _).mono ?_; rintro e w' ⟨rfl, rfl⟩; rw [HW.out])
                go_meet
                exact ⟨by rw [HSL.out]; rfl, hb.trans hbb⟩
              | false =>
                have HW := Lib.hid hw
                have HSL := Lib.hid (show sl = ((s[j5].toNat : Int) == 47) by rw [← hsl, hw]; rfl)
                clear hw hsl hj5
                go_wp2_with fail
                refine (BG2.out _).mono ?_
                rintro e W2 ⟨rfl, hbb⟩
                go_wp2_with (go_at_call 30; refine (isWhite_any _ _).mono ?_; rintro e w' ⟨rfl, rfl⟩; rw [HW.out])
                go_meet
                exact ⟨by rw [HSL.out]; rfl, hb.trans hbb⟩
            · have HSL := Lib.hid (show sl = false by rw [← hsl, List.drop_eq_nil_of_le (by rw [← Lib.size_eq]; omega)]; rfl)
              clear hsl hj5
              go_wp2_with fail
              refine (BG2.out _).mono ?_
              rintro e W2 ⟨rfl, hbb⟩
              go_wp2_with fail
              go_meet
              exact ⟨by rw [HSL.out]; rfl, hb.trans hbb⟩
        case rest =>
        obtain ⟨rfl, hb⟩ := hcut
        cases hm : (b2 && sl) with
        | true =>
          rw [Bool.and_eq_true] at hm
          obtain ⟨m1, m2⟩ := hm
          have h5 : j + 5 < s.size := by
            by_cases hh : j + 5 < s.size
            · exact hh
            · rw [List.drop_eq_nil_of_le (by rw [← Lib.size_eq]; omega)] at hsl
              rw [← hsl] at m2
              cases m2
          rw [if_pos ⟨m1, m2⟩] at hst
          obtain ⟨xs, r, hn⟩ : ∃ xs r, M.attrsA (s.data.toList.drop (j + 5)) = (xs, r) := ⟨_, _, rfl⟩
          rw [hn] at hst
          injection hst with e1 e2
          have e2 : r.drop 1 = t := e2
          have e1 : M.metaA xs = n := e1
          have hshort : ShortV xs := fun q hq => by have h9 := M.attrsA_val _ (s.data.toList.drop (j + 5)) (Nat.le_refl _) q (by rw [hn]; exact hq); rw [List.length_drop, ← Lib.size_eq] at h9; omega
          have hsuf := (M.attrsA_suf _ (s.data.toList.drop (j + 5)) (Nat.le_refl _)).1
          rw [hn] at hsuf
          have hrd := M.Suf.at (M.Suf.trans (a := r) hsuf (M.Suf.drop s.data.toList (j + 5)))
          rw [← Lib.size_eq] at hrd
          have hrl := hsuf.len
          rw [List.length_drop, ← Lib.size_eq] at hrl
          have hrl : r.length ≤ s.size - (j + 5) := hrl
          have T := fun W => attrsAt_any s (j + 5) (by omega) (by omega) xs r hn W
          obtain ⟨en, hen⟩ : ∃ en : Nat, en = s.size - r.length := ⟨_, rfl⟩
          rw [← hen] at T hrd
          have hen1 : (j + 5) ≤ en := by omega
          have hen2 : en ≤ s.size := by omega
          have HD := Lib.hid hrd
          clear hrd hsuf hrl hen
          rw [show ((j + 5 : Nat) : Int) = (j : Int) + 5 by omega] at T
          have TG := Lib.hid T
          have MG := Lib.hid (fun v W hW => metaOf_any v xs W hW hshort)
          rw [e1] at MG
          clear T hn e1 ho hroom1 hroom2 hsl m1 m2 hshort
          by_cases hn0 : n = 0
          · subst hn0
            have HR := Lib.hid (show M.scanA s0.data.toList = M.scan0 (s.data.toList.drop (en + 1)) by rw [HS.out, if_pos rfl, ← e2, HD.out, List.drop_drop])
            clear e2 HS HD
            go_wp2_with fail
            refine (TG.out _).mono ?_
            rintro e W3 ⟨v, rfl, hown, hbb⟩
            have hb := hb.trans hbb
            go_wp2_with fail
            refine (MG.out v _ hown.sl).mono ?_
            rintro e W4 ⟨rfl, hbb⟩
            have hb := hb.trans hbb
            go_wp2_with fail
            go_roundg (s.size + 3 - (en + 1))
            case measure => omega
            case rel => exact ⟨en + 1, by go_num, by omega, Nat.le_refl _, hb, HR⟩
          · have HR := Lib.hid (show M.scanA s0.data.toList = n by rw [HS.out, if_neg hn0])
            have hn9 : (n == 0) = false := by simp [hn0]
            clear e2 HS HD hn0
            go_wp2_with fail
            refine (TG.out _).mono ?_
            rintro e W3 ⟨v, rfl, hown, hbb⟩
            have hb := hb.trans hbb
            go_wp2_with fail
            refine (MG.out v _ hown.sl).mono ?_
            rintro e W4 ⟨rfl, hbb⟩
            have hb := hb.trans hbb
            go_wp2_with fail
            go_ret
            exact ⟨by rw [HR.out]; rfl, hb⟩
        | false =>
          rw [if_neg (by rintro ⟨m1, m2⟩; rw [m1, m2] at hm; cases hm)] at hst
          clear hm hsl hroom1 hroom2
          obtain ⟨nq, hnq⟩ : ∃ nq, nameQ (s.data.toList.drop j) = nq := ⟨_, rfl⟩
          obtain ⟨nm, hnm⟩ : ∃ nm, nameAt (s.data.toList.drop j) j = nm := ⟨_, rfl⟩
          have hnf := name_from s j
          rw [hnm] at hnf
          go_upto_region 17 with fail
          go_upto_if 80 with fail
          go_cut [8] from 77 to 115 (fun v wx => v = .int .i64 (nm : Int) ∧ Bel w wx)
          case first =>
            clear hst HS ho hnq hnf
            have e0 := byteN_in s j 0 j rfl hlt
            obtain ⟨j1, hj1⟩ : ∃ j1 : Nat, j + 1 = j1 := ⟨_, rfl⟩
            have hi1 : (j : Int) + 1 = (j1 : Int) := by omega
            obtain ⟨j2, hj2⟩ : ∃ j2 : Nat, j + 2 = j2 := ⟨_, rfl⟩
            have hi2 : (j : Int) + 2 = (j2 : Int) := by omega
            unfold nameAt nameQ at hnm
            rw [e0, fold1_60b, hj1, hj2] at hnm
            clear e0
            cases h60 : ((s[j].toNat : Int) == 60) with
            | false =>
              have hz : nm = 0 := by rw [← hnm, h60, Bool.false_and, if_neg (by decide)]
              clear hnm hj1 hj2
              go_wp2_with fail
              go_meet
              exact ⟨by first | (rw [hz]; done) | (rw [hz]; rfl) | (rw [hz]; go_num), hb⟩
            | true =>
              rw [h60, Bool.true_and] at hnm
              by_cases h1 : j1 < s.size
              · have e1 := byteN_in s j 1 j1 hj1 h1
                rw [e1] at hnm
                cases hl1 : M.letterB (M.fold1 s[j1]) with
                | true =>
                  have n47 : ¬ (M.fold1 s[j1]).toNat = 47 := fun h9 => by rw [letter_47 _ h9] at hl1; cases hl1
                  have m47 : ((s[j1].toNat : Int) == 47) = false := by rw [← fold1_47b]; simpa using n47
                  have hz : nm = j1 := by rw [← hnm, if_neg n47, e1, if_pos hl1, if_pos hl1]
                  have HL1 := Lib.hid hl1
                  clear hnm hj1 hj2 e1 n47 hl1
                  by_cases h2 : j2 < s.size
                  · skip
                    go_wp2_with fail
                    refine (isLetter_to s[j1] _ HL1.out _).mono ?_
                    rintro e W9 ⟨rfl, hW9⟩
                    subst hW9
                    go_wp2_with fail
                    go_meet
                    exact ⟨by first | (rw [hz]; done) | (rw [hz]; rfl) | (rw [hz]; go_num), hb⟩
                  · skip
                    go_wp2_with fail
                    refine (isLetter_to s[j1] _ HL1.out _).mono ?_
                    rintro e W9 ⟨rfl, hW9⟩
                    subst hW9
                    go_wp2_with fail
                    go_meet
                    exact ⟨by first | (rw [hz]; done) | (rw [hz]; rfl) | (rw [hz]; go_num), hb⟩
                | false =>
                  have HL1 := Lib.hid hl1
                  cases h47 : ((s[j1].toNat : Int) == 47) with
                  | true =>
                    have m47 : (M.fold1 s[j1]).toNat = 47 := by have h9 := fold1_47b s[j1]; rw [h47] at h9; simpa using h9
                    rw [if_pos m47] at hnm
                    by_cases h2 : j2 < s.size
                    · have e2 := byteN_in s j 2 j2 hj2 h2
                      rw [e2] at hnm
                      cases hl2 : M.letterB (M.fold1 s[j2]) with
                      | true =>
                        have hz : nm = j2 := by rw [← hnm, if_pos hl2, if_neg (by rw [hl1]; decide)]
                        have HL2 := Lib.hid hl2
                        clear hnm hj1 hj2 e1 e2 m47 hl1 hl2
                        go_wp2_with fail
                        refine (isLetter_to s[j1] _ HL1.out _).mono ?_
                        rintro e W9 ⟨rfl, hW9⟩
                        subst hW9
                        go_wp2_with fail
                        refine (isLetter_to s[j2] _ HL2.out _).mono ?_
                        rintro e W9 ⟨rfl, hW9⟩
                        subst hW9
                        go_wp2_with fail
                        go_meet
                        exact ⟨by first | (rw [hz]; done) | (rw [hz]; rfl) | (rw [hz]; go_num), hb⟩
                      | false =>
                        have hz : nm = 0 := by rw [← hnm, if_neg (by rw [hl2]; decide)]
                        have HL2 := Lib.hid hl2
                        clear hnm hj1 hj2 e1 e2 m47 hl1 hl2
                        go_wp2_with fail
                        refine (isLetter_to s[j1] _ HL1.out _).mono ?_
                        rintro e W9 ⟨rfl, hW9⟩
                        subst hW9
                        go_wp2_with fail
                        refine (isLetter_to s[j2] _ HL2.out _).mono ?_
                        rintro e W9 ⟨rfl, hW9⟩
                        subst hW9
                        go_wp2_with fail
                        go_meet
                        exact ⟨by first | (rw [hz]; done) | (rw [hz]; rfl) | (rw [hz]; go_num), hb⟩
                    · have hz : nm = 0 := by rw [← hnm, byteN_out s j 2 (by omega), if_neg (by decide)]
                      clear hnm hj1 hj2 e1 m47 hl1
                      go_wp2_with fail
                      refine (isLetter_to s[j1] _ HL1.out _).mono ?_
                      rintro e W9 ⟨rfl, hW9⟩
                      subst hW9
                      go_wp2_with fail
                      go_meet
                      exact ⟨by first | (rw [hz]; done) | (rw [hz]; rfl) | (rw [hz]; go_num), hb⟩
                  | false =>
                    have n47 : ¬ (M.fold1 s[j1]).toNat = 47 := by have h9 := fold1_47b s[j1]; rw [h47] at h9; simpa using h9
                    have hz : nm = 0 := by rw [← hnm, if_neg n47, e1, if_neg (by rw [hl1]; decide)]
                    clear hnm hj1 hj2 e1 n47 hl1
                    by_cases h2 : j2 < s.size
                    · skip
                      go_wp2_with fail
                      refine (isLetter_to s[j1] _ HL1.out _).mono ?_
                      rintro e W9 ⟨rfl, hW9⟩
                      subst hW9
                      go_wp2_with fail
                      go_meet
                      exact ⟨by first | (rw [hz]; done) | (rw [hz]; rfl) | (rw [hz]; go_num), hb⟩
                    · skip
                      go_wp2_with fail
                      refine (isLetter_to s[j1] _ HL1.out _).mono ?_
                      rintro e W9 ⟨rfl, hW9⟩
                      subst hW9
                      go_wp2_with fail
                      go_meet
                      exact ⟨by first | (rw [hz]; done) | (rw [hz]; rfl) | (rw [hz]; go_num), hb⟩
              · have hz : nm = 0 := by rw [← hnm, byteN_out s j 1 (by omega), if_neg (show ¬ UInt8.toNat 0 = 47 by decide), byteN_out s j 1 (by omega), if_neg (by decide)]
                have h2 : ¬ j2 < s.size := by omega
                clear hnm hj1 hj2
                go_wp2_with fail
                go_meet
                exact ⟨by first | (rw [hz]; done) | (rw [hz]; rfl) | (rw [hz]; go_num), hb⟩
          case rest =>
          obtain ⟨rfl, hb⟩ := hcut
          cases nq with
          | true =>
            obtain ⟨hn1, hn2, hn3, hn4⟩ := hnf hnq
            have hoe : o = some ((s.data.toList.drop j).dropWhile (fun c => !M.endB c)) := by rw [← ho, nameEnd_eq, hnq]; rfl
            rw [hoe] at hst
            have hst : ((0 : Int), (M.attrsA ((s.data.toList.drop j).dropWhile (fun c => !M.endB c))).2.drop 1) = (n, t) := hst
            injection hst with e1 e2
            subst e1
            have HE := Lib.hid e2
            have HN4 := Lib.hid hn4
            have HR := Lib.hid (HS.out.trans (if_pos rfl))
            have g0 : decide (0 < (nm : Int)) = true := by simp; omega
            clear e2 hn4 hoe ho hnq hnf hnm HS hst
            go_upto_block 4 with fail
            go_cut [8] from 118 to 136 (fun v wx => (∃ j : Nat, v = .int .i64 (j : Int) ∧ nm ≤ j ∧ j ≤ s.size ∧ s.data.toList.drop j = (s.data.toList.drop nm).dropWhile (fun c => !M.endB c)) ∧ wc = wx)
            case first =>
              go_wp2_with fail
              go_loop [8] (fun v => ∃ j : Nat, v = .int .i64 (j : Int) ∧ nm ≤ j ∧ j ≤ s.size ∧ Hid ((s.data.toList.drop j).dropWhile (fun c => !M.endB c) = (s.data.toList.drop nm).dropWhile (fun c => !M.endB c))) (fun v => s.size - (intOf v).toNat)
              case atStart => exact ⟨nm, by first | rfl | go_num, Nat.le_refl _, by omega, Lib.hid rfl⟩
              case round =>
                obtain ⟨j, rfl, hsj, hj, HJ⟩ := hrel
                by_cases hlt : j < s.size
                ·
                  cases h62 : ((s[j].toNat : Int) != 62) with
                  | true =>
                    cases hw : M.white s[j] with
                    | true =>
                      have hp : ((fun c => !M.endB c)) s[j] = false := by simp [end_int2, h62, hw]
                      have HR := Lib.hid ((dw_stop ((fun c => !M.endB c)) s j hlt hp).symm.trans HJ.out)
                      have HW := Lib.hid hw
                      clear hp hw
                      go_wp2_with (go_at_call 30; refine (isWhite_any _ _).mono ?_; rintro e w' ⟨rfl, rfl⟩; rw [HW.out])
                      go_meet
                      exact ⟨⟨j, rfl, hsj, hj, HR.out⟩, rfl⟩
                    | false =>
                      have hp : ((fun c => !M.endB c)) s[j] = true := by simp [end_int2, h62, hw]
                      have HR := Lib.hid ((dw_go ((fun c => !M.endB c)) s j hlt hp).trans HJ.out)
                      have HW := Lib.hid hw
                      clear hp hw
                      go_wp2_with (go_at_call 30; refine (isWhite_any _ _).mono ?_; rintro e w' ⟨rfl, rfl⟩; rw [HW.out])
                      go_round
                      case rel => exact ⟨j + 1, by go_num, by omega, by omega, HR⟩
                      case measure => simp [intOf]; omega
                  | false =>
                    have hp : ((fun c => !M.endB c)) s[j] = false := by simp [end_int2, h62]
                    have HR := Lib.hid ((dw_stop ((fun c => !M.endB c)) s j hlt hp).symm.trans HJ.out)
                    clear hp
                    go_wp2_with fail
                    go_meet
                    exact ⟨⟨j, rfl, hsj, hj, HR.out⟩, rfl⟩
                · obtain rfl : j = s.size := by omega
                  have HR := Lib.hid (show s.data.toList.drop s.size = (s.data.toList.drop nm).dropWhile (fun c => !M.endB c) by rw [← HJ.out, drop_end]; rfl)
                  go_wp2_with fail
                  go_meet
                  exact ⟨⟨s.size, rfl, hsj, hj, HR.out⟩, rfl⟩
            case rest =>
            obtain ⟨⟨k, rfl, hnk, hk, hdk⟩, rfl⟩ := hcut
            rw [HN4.out] at hdk
            obtain ⟨xs, r, hn⟩ : ∃ xs r, M.attrsA (s.data.toList.drop k) = (xs, r) := ⟨_, _, rfl⟩
            have e2 : r.drop 1 = t := by have h9 := HE.out; rw [← hdk, hn] at h9; exact h9
            have hsuf := (M.attrsA_suf _ (s.data.toList.drop k) (Nat.le_refl _)).1
            rw [hn] at hsuf
            have hrd := M.Suf.at (M.Suf.trans (a := r) hsuf (M.Suf.drop s.data.toList k))
            rw [← Lib.size_eq] at hrd
            have hrl := hsuf.len
            rw [List.length_drop, ← Lib.size_eq] at hrl
            have hrl : r.length ≤ s.size - k := hrl
            have T := fun W => attrsAt_any s k (by omega) (by omega) xs r hn W
            obtain ⟨en, hen⟩ : ∃ en : Nat, en = s.size - r.length := ⟨_, rfl⟩
            rw [← hen] at T hrd
            have hen1 : k ≤ en := by omega
            have hen2 : en ≤ s.size := by omega
            have HD := Lib.hid hrd
            clear hrd hsuf hrl hen
            have TG := Lib.hid T
            have HX := Lib.hid (show M.scanA s0.data.toList = M.scan0 (s.data.toList.drop (en + 1)) by rw [HR.out, ← e2, HD.out, List.drop_drop])
            clear T hn e2 hdk HE HN4 HR HD
            go_wp2_with fail
            refine (TG.out _).mono ?_
            rintro e W3 ⟨v, rfl, hown, hbb⟩
            have hb := hb.trans hbb
            go_wp2_with fail
            go_roundg (s.size + 3 - (en + 1))
            case measure => omega
            case rel => exact ⟨en + 1, by go_num, by omega, Nat.le_refl _, hb, HX⟩
          | false =>
            have hz : nm = 0 := by rw [← hnm, nameAt, hnq, if_neg (by decide)]
            have hon : o = none := by rw [← ho, nameEnd_eq, hnq]; rfl
            rw [hon] at hst
            have hst : (if b3 = true ∨ b4 = true ∨ b6 = true then ((0 : Int), M.behindF [62] (s.data.toList.drop j)) else (0, (s.data.toList.drop j).drop 1)) = (n, t) := hst
            clear hnm hnf hnq ho hon
            subst hz
            go_upto_region 27 with fail
            go_cut [157] from 145 to 157 (fun v wx => v = .bool (b3 || b4 || b6) ∧ Bel w wx)
            case first =>
              clear hst HS
              cases b3 with
              | true =>
                go_wp2_with fail
                refine (BG3.out _).mono ?_
                rintro e W2 ⟨rfl, hbb⟩
                go_wp2_with fail
                go_meet
                exact ⟨rfl, hb.trans hbb⟩
              | false =>
                cases b4 with
                | true =>
                  go_wp2_with fail
                  refine (BG3.out _).mono ?_
                  rintro e W2 ⟨rfl, hbb⟩
                  have hb := hb.trans hbb
                  go_wp2_with fail
                  refine (BG4.out _).mono ?_
                  rintro e W3 ⟨rfl, hbb⟩
                  go_wp2_with fail
                  go_meet
                  exact ⟨rfl, hb.trans hbb⟩
                | false =>
                  go_wp2_with fail
                  refine (BG3.out _).mono ?_
                  rintro e W2 ⟨rfl, hbb⟩
                  have hb := hb.trans hbb
                  go_wp2_with fail
                  refine (BG4.out _).mono ?_
                  rintro e W3 ⟨rfl, hbb⟩
                  have hb := hb.trans hbb
                  go_wp2_with fail
                  refine (BG6.out _).mono ?_
                  rintro e W4 ⟨rfl, hbb⟩
                  go_wp2_with fail
                  go_meet
                  exact ⟨by simp, hb.trans hbb⟩
            case rest =>
            obtain ⟨rfl, hb⟩ := hcut
            cases hq : (b3 || b4 || b6) with
            | true =>
              rw [if_pos (by simpa [Bool.or_eq_true, or_assoc] using hq), behind_62] at hst
              injection hst with e1 e2
              subst e1
              have HE := Lib.hid e2
              have HR := Lib.hid (HS.out.trans (if_pos rfl))
              clear e2 HS hq
              go_upto_if 157 with fail
              go_cut [3] from 158 to 169 (fun v wx => (∃ k : Nat, v = .int .i64 (k : Int) ∧ j ≤ k ∧ k ≤ s.size ∧ s.data.toList.drop (k + 1) = t) ∧ Bel w wx)
              case first =>
                go_wp2_with fail
                go_loop [3] (fun v => ∃ k : Nat, v = .int .i64 (k : Int) ∧ j ≤ k ∧ k ≤ s.size ∧ Hid (((s.data.toList.drop k).dropWhile p62).drop 1 = t)) (fun v => s.size - (intOf v).toNat)
                case atStart => exact ⟨j, rfl, Nat.le_refl _, by omega, HE⟩
                case round =>
                  obtain ⟨k, rfl, hjk, hk, HK⟩ := hrel
                  by_cases hkl : k < s.size
                  · cases hc : ((s[k].toNat : Int) != 62) with
                    | true =>
                      have HX := Lib.hid (show ((s.data.toList.drop (k + 1)).dropWhile p62).drop 1 = t by rw [dw_go p62 s k hkl hc]; exact HK.out)
                      clear HK
                      go_wp2_with fail
                      go_round
                      case rel => exact ⟨k + 1, by go_num, by omega, by omega, HX⟩
                      case measure => simp [intOf]; omega
                    | false =>
                      have HX := Lib.hid (show s.data.toList.drop (k + 1) = t by rw [← HK.out, dw_stop p62 s k hkl hc, List.drop_drop])
                      clear HK
                      go_wp2_with fail
                      go_meet
                      exact ⟨⟨k, rfl, hjk, hk, HX.out⟩, hb⟩
                  · obtain rfl : k = s.size := by omega
                    have HX := Lib.hid (show s.data.toList.drop (s.size + 1) = t by rw [← HK.out, drop_end, List.drop_eq_nil_of_le (by rw [← Lib.size_eq]; omega)]; rfl)
                    go_wp2_with fail
                    go_meet
                    exact ⟨⟨s.size, rfl, hjk, hk, HX.out⟩, hb⟩
              case rest =>
              obtain ⟨⟨k, rfl, hjk, hk, hdk⟩, hb⟩ := hcut
              have HX := Lib.hid (show M.scanA s0.data.toList = M.scan0 (s.data.toList.drop (k + 1)) by rw [HR.out, hdk])
              clear hdk HR HE
              go_wp2_with fail
              go_roundg (s.size + 3 - (k + 1))
              case measure => omega
              case rel => exact ⟨k + 1, by go_num, by omega, Nat.le_refl _, hb, HX⟩
            | false =>
              rw [if_neg (by intro h9; simp [Bool.or_eq_false_iff] at hq; obtain ⟨⟨q1, q2⟩, q3⟩ := hq; rw [q1, q2, q3] at h9; rcases h9 with h9 | h9 | h9 <;> cases h9), List.drop_drop] at hst
              injection hst with e1 e2
              subst e1
              have HX := Lib.hid (show M.scanA s0.data.toList = M.scan0 (s.data.toList.drop (j + 1)) by rw [HS.out, if_pos rfl, e2])
              clear e2 HS hq
              go_wp2_with fail
              go_roundg (s.size + 3 - (j + 1))
              case measure => omega
              case rel => exact ⟨j + 1, by go_num, by omega, Nat.le_refl _, hb, HX⟩
    · have HR := Lib.hid (show M.scanA s0.data.toList = 0 by rw [HJ.out, List.drop_eq_nil_of_le (by rw [← Lib.size_eq]; omega)]; rfl)
      go_wp2_with fail
      go_ret
      exact ⟨by rw [HR.out]; rfl, hb⟩
end Go.Proofs.YthaoohckgilahaaDoor

/-
  Package scan: Of, Scan.
-/
namespace Go.Proofs.YthaoohckgilahaaDoor
open Go.RowKit
set_option maxRecDepth 1000000
set_option maxHeartbeats 4000000

theorem scanOf_any (s : ByteArray) (hs : s.size ≤ 9000) (w : World) (hL : Len w) : Calls Tryd.prog 37 #[.string s] w fun e w' => e = .returned (.int .i64 (M.scanA s.data.toList)) ∧ Bel w w' := by
  obtain ⟨mn, hmn⟩ : ∃ mn : Nat, mn = min s.size 256 := ⟨_, rfl⟩
  have hmi : min (s.size : Int) 256 = (mn : Int) := by omega
  have hms : mn ≤ s.size := by omega
  have hbd : (0 : Int) ≤ (mn : Int) ∧ (mn : Int) ≤ (s.size : Int) := by omega
  obtain ⟨u, hu⟩ : ∃ u : ByteArray, s.extract 0 mn = u := ⟨_, rfl⟩
  have hul : u.data.toList = s.data.toList.take 256 := by
    rw [← hu, Lib.extract_data, List.drop_zero, Nat.sub_zero, hmn, Lib.size_eq]
    by_cases h9 : s.data.toList.length ≤ 256
    · rw [Nat.min_eq_left h9, List.take_length, List.take_of_length_le h9]
    · rw [Nat.min_eq_right (by omega)]
  have hus : u.size ≤ 256 := by rw [Lib.size_eq, hul, List.length_take]; omega
  have HA := Lib.hid (show M.scanA s.data.toList = M.scan0 u.data.toList by rw [M.scanA, hul])
  clear hul hmn
  go_enter Tryd.func37, Tryd.ntmps37
  go_wp2_with fail
  clear hu hmi hbd
  refine (folded_any u w (by omega)).mono ?_
  rintro e W0 ⟨rfl, b0⟩
  obtain ⟨low, hlow⟩ : ∃ low : ByteArray, low = ⟨(M.fold u.data.toList).toArray⟩ := ⟨_, rfl⟩
  have hl : Low u low := by rw [hlow, Low]
  rw [← hlow]
  clear hlow
  go_wp2_with fail
  have hr1 : Lk (W0.alloc (.cells #[.string u, .string low, .int .i64 0] 77)) W0.heap.size u low 0 := Box.new W0 77 [.string u, .string low, .int .i64 0]
  have hb2 := b0.alloc (.cells #[.string u, .string low, .int .i64 0] 77)
  have hgs := b0.size
  generalize (W0.alloc (.cells #[.string u, .string low, .int .i64 0] 77)) = W1 at *
  generalize W0.heap.size = g at *
  go_loopg [4] (u.size + 1) (fun gg _ wr => ∃ (j : Nat), j ≤ u.size ∧ u.size - j ≤ gg ∧ Lk wr g u low j ∧ Bel w wr ∧ Hid (M.scanA s.data.toList = M.scan0 (u.data.toList.drop j)))
  case atStart => exact ⟨0, by omega, by omega, hr1, hb2, HA⟩
  case round =>
    clear hr1 hb2
    obtain ⟨j, hj, hg, hr, hb, HJ⟩ := hrel
    have c2 := Box.cell hr 2 _ rfl
    by_cases hlt : j < u.size
    · obtain ⟨n, t, hst⟩ : ∃ n t, M.stepS (u.data.toList.drop j) = (n, t) := ⟨_, _, rfl⟩
      have st := step_any g u low j wr hr hl hj hlt (by omega) (hL.bel hb) n t hst
      obtain ⟨c, l, hcl⟩ : ∃ c l, u.data.toList.drop j = c :: l := by
        cases hd : u.data.toList.drop j with
        | nil =>
          have := congrArg List.length hd
          rw [List.length_drop, ← Lib.size_eq, List.length_nil] at this
          omega
        | cons c l => exact ⟨c, l, rfl⟩
      have hless := M.stepS_less c l
      rw [← hcl, hst, List.length_drop, ← Lib.size_eq] at hless
      have hless : t.length < u.size - j := hless
      have hsc := M.scan0_cons c l
      rw [← hcl, hst] at hsc
      have hs2 : M.scan0 (u.data.toList.drop j) = if n = 0 then M.scan0 t else n := hsc
      clear hst hcl hsc
      by_cases hn : n = 0
      · rw [if_pos hn] at hs2
        subst hn
        have HR := Lib.hid (HJ.out.trans hs2)
        clear hs2 HJ
        go_wp2_with fail
        refine st.mono ?_
        rintro e W2 ⟨rfl, ⟨k', hk', hr2, hd⟩, hB⟩
        have hlen := congrArg List.length hd
        rw [List.length_drop, ← Lib.size_eq] at hlen
        have HD := Lib.hid hd
        clear hd
        go_wp2_with fail
        go_roundg (u.size - k')
        case measure => omega
        case rel => exact ⟨k', hk', Nat.le_refl _, hr2, hB.bel hb hgs, Lib.hid (by rw [HR.out, HD.out])⟩
      · rw [if_neg hn] at hs2
        have HR := Lib.hid (HJ.out.trans hs2)
        have hn9 : (n == 0) = false := by simp [hn]
        clear hs2 HJ hn
        go_wp2_with fail
        refine st.mono ?_
        rintro e W2 ⟨rfl, ⟨k', hk', hr2, hd⟩, hB⟩
        clear hd
        go_wp2_with fail
        go_ret
        exact ⟨by rw [HR.out]; rfl, hB.bel hb hgs⟩
    · obtain rfl : j = u.size := by omega
      have HR := Lib.hid (show M.scanA s.data.toList = 0 by rw [HJ.out, List.drop_eq_nil_of_le (by rw [← Lib.size_eq]; exact Nat.le_refl _)]; rfl)
      go_wp2_with fail
      go_ret
      exact ⟨by rw [HR.out]; rfl, hb⟩
theorem scan_to (s : ByteArray) (n x : Int) (h : M.scanE s.data.toList = (n, x)) (w : World) (hL : Len w) : Calls Tryd.prog 18 #[.string s] w fun e w' => e = .returned (.tuple #[.int .i64 n, .int .i64 x]) ∧ Bel w w' := by
  by_cases hl : 3000 < s.size
  · rw [M.scanE, if_pos (by rw [← Lib.size_eq]; exact hl)] at h
    injection h with h1 h2
    subst h1; subst h2
    go_enter Tryd.func18, Tryd.ntmps18
    go_wp2
    go_ret2
    exact ⟨rfl, Bel.refl _⟩
  · rw [M.scanE, if_neg (by rw [← Lib.size_eq]; exact hl)] at h
    injection h with h1 h2
    subst h1; subst h2
    go_enter Tryd.func18, Tryd.ntmps18
    go_wp2_with (go_at_call 37; refine (scanOf_any s (by omega) _ hL).mono ?_; rintro e w' ⟨rfl, hb⟩)
    go_ret2
    exact ⟨rfl, hb⟩
end Go.Proofs.YthaoohckgilahaaDoor

/-
  The document's answers on attributes: SameAttrs.
-/
namespace Go.Proofs.YthaoohckgilahaaDoor
open Go.RowKit
set_option maxRecDepth 1000000

theorem sameAttrs_any (v1 v2 : Value) (xs ys : List (List UInt8 × List UInt8)) (w : World) (h1 : AttrSl w v1 xs) (h2 : AttrSl w v2 ys) : Calls Tryd.prog 16 #[v1, v2] w fun e w' => e = .returned (.bool (xs == ys)) ∧ Bel w w' := by
  obtain ⟨a, ca, rfl, hc1, hc2, hn, hx⟩ := h1
  obtain ⟨b, cb, rfl, hd1, hd2, hm, hy⟩ := h2
  unfold maxLen at hc2 hd2
  by_cases hl : xs.length = ys.length
  · have hll : ((xs.length : Int) != (ys.length : Int)) = false := by simp; omega
    go_enter Tryd.func16, Tryd.ntmps16
    go_wp2_with fail
    go_loopw [5] (fun i wr => ∃ k : Nat, k ≤ xs.length ∧ i = .int .i64 k ∧ Bel w wr ∧ Hid (xs.take k = ys.take k)) (fun i _ => xs.length - (intOf i).toNat)
    case atStart => exact ⟨0, by omega, rfl, Bel.refl _, Lib.hid rfl⟩
    case round =>
      obtain ⟨k, hk, rfl, hb, HT⟩ := hrel
      by_cases hlt : k < xs.length
      · obtain ⟨p, hp⟩ : ∃ p, xs[k]? = some p := ⟨_, List.getElem?_eq_getElem hlt⟩
        obtain ⟨q, hq⟩ : ∃ q, ys[k]? = some q := ⟨_, List.getElem?_eq_getElem (by omega)⟩
        cases a with
        | none => exfalso; have h3 := hlt; rw [hn rfl, List.length_nil] at h3; omega
        | some x =>
          cases b with
          | none => exfalso; have h3 := hlt; rw [hl, hm rfl, List.length_nil] at h3; omega
          | some y =>
            obtain ⟨g, o1, rfl, hx'⟩ := hx x rfl (List.ne_nil_of_length_pos (by omega))
            obtain ⟨g2, o2, rfl, hy'⟩ := hy y rfl (List.ne_nil_of_length_pos (by omega))
            obtain ⟨c1, c2⟩ := hx' k p hp
            obtain ⟨d1, d2⟩ := hy' k q hq
            have c1 := (hb.cell (World.block_lt_of_cell? w _ c1)).trans c1
            have c2 := (hb.cell (World.block_lt_of_cell? w _ c2)).trans c2
            have d1 := (hb.cell (World.block_lt_of_cell? w _ d1)).trans d1
            have d2 := (hb.cell (World.block_lt_of_cell? w _ d2)).trans d2
            have hky : k < ys.length := by omega
            clear hx hy hx' hy' hn hm
            by_cases e1 : p.1 = q.1
            · by_cases e2 : p.2 = q.2
              · have HT2 := Lib.hid (show xs.take (k + 1) = ys.take (k + 1) by
                  rw [List.take_add_one, List.take_add_one, HT.out, hp, hq, Prod.ext e1 e2])
                clear hp hq
                go_wp2_with fail
                go_quiet (fail)
                go_wp2_with fail
                go_roundw
                case rel => exact ⟨k + 1, by omega, by go_num, hb.drewN _, HT2⟩
                case measure => simp [intOf]; omega
              · have HF := Lib.hid (show (xs == ys) = false by
                  rw [beq_eq_false_iff_ne]
                  intro h
                  subst h
                  rw [hp] at hq
                  injection hq with hq
                  exact e2 (by rw [hq]))
                clear hp hq
                go_wp2_with fail
                go_quiet (fail)
                go_wp2_with fail
                go_ret
                exact ⟨by rw [HF.out]; rfl, hb.drewN _⟩
            · have HF := Lib.hid (show (xs == ys) = false by
                rw [beq_eq_false_iff_ne]
                intro h
                subst h
                rw [hp] at hq
                injection hq with hq
                exact e1 (by rw [hq]))
              clear hp hq
              go_wp2_with fail
              go_quiet (fail)
              go_wp2_with fail
              go_ret
              exact ⟨by rw [HF.out]; rfl, hb.drewN _⟩
      · obtain rfl : k = xs.length := by omega
        have HF := Lib.hid (show (xs == ys) = true by
          have := HT.out
          rw [List.take_length, hl, List.take_length] at this
          rw [this]; exact beq_self_eq_true ys)
        go_wp2_with fail
        go_ret
        exact ⟨by rw [HF.out]; rfl, hb⟩
  · have hll : ((xs.length : Int) != (ys.length : Int)) = true := by simp; omega
    have HF := Lib.hid (show (xs == ys) = false by
      rw [beq_eq_false_iff_ne]
      intro h
      exact hl (by rw [h]))
    clear hl
    go_enter Tryd.func16, Tryd.ntmps16
    go_wp2_with fail
    go_ret
    exact ⟨by rw [HF.out]; rfl, Bel.refl _⟩
end Go.Proofs.YthaoohckgilahaaDoor

/-
  The laws on attributes: attrBegun, AttrEach.
-/
namespace Go.Proofs.YthaoohckgilahaaDoor
open Go.RowKit
set_option maxRecDepth 1000000

theorem begun_next : M.nextA ((⟨#[47, 32, 65, 32, 61, 32, 39, 66, 32, 99, 39, 32, 100, 62]⟩ : ByteArray).data.toList.drop 0) = (some ([97], [98, 32, 99]), [32, 100, 62]) := by decide +kernel
theorem begun_all : M.attrsA ((⟨#[97, 61, 49, 32, 98, 62]⟩ : ByteArray).data.toList.drop 0) = ([([97], [49]), ([98], [])], [62]) := by decide +kernel
theorem begun_charset : M.charE (⟨#[116, 101, 120, 116, 47, 104, 116, 109, 108, 59, 32, 67, 104, 97, 114, 115, 101, 116, 32, 61, 32, 34, 108, 97, 116, 105, 110, 49, 34]⟩ : ByteArray).data.toList = (4, 0) := by decide +kernel
theorem attrLit (w : World) (p q : List UInt8 × List UInt8) : AttrSl (w.alloc (.cells #[.string ⟨p.1.toArray⟩, .string ⟨p.2.toArray⟩, .string ⟨q.1.toArray⟩, .string ⟨q.2.toArray⟩] 23)) (.slice (some ⟨w.heap.size, 0, none⟩) 2 2) [p, q] := by
  refine ⟨some ⟨w.heap.size, 0, none⟩, 2, rfl, Nat.le_refl _, by unfold maxLen; omega, (fun h => by cases h), fun x hx _ => ⟨w.heap.size, 0, by injection hx with hx; exact hx.symm, fun i r hr => ?_⟩⟩
  match i, hr with
  | 0, hr => injection hr with hr; subst hr; exact ⟨by rw [World.cell?_alloc_new]; rfl, by rw [World.cell?_alloc_new]; rfl⟩
  | 1, hr => injection hr with hr; subst hr; exact ⟨by rw [World.cell?_alloc_new]; rfl, by rw [World.cell?_alloc_new]; rfl⟩
theorem attrBegun_any (w : World) (hL : Len w) : Calls Tryd.prog 15 #[] w fun e w' => e = .returned (.bool true) ∧ Bel w w' := by
  have h1 := nextOk_any ⟨#[47, 32, 65, 32, 61, 32, 39, 66, 32, 99, 39, 32, 100, 62]⟩ 0 (by decide) (by decide) _ _ begun_next (by decide)
  have h2 := allOk_any ⟨#[97, 61, 49, 32, 98, 62]⟩ 0 (by decide) (by decide) _ _ begun_all (by decide)
  have h3 := charset_to ⟨#[116, 101, 120, 116, 47, 104, 116, 109, 108, 59, 32, 67, 104, 97, 114, 115, 101, 116, 32, 61, 32, 34, 108, 97, 116, 105, 110, 49, 34]⟩ 4 0 begun_charset
  have H1 := Lib.hid h1
  have H2 := Lib.hid h2
  have H3 := Lib.hid h3
  clear h1 h2 h3
  go_enter Tryd.func15, Tryd.ntmps15
  go_wp2_with fail
  refine (H1.out _).mono ?_
  rintro e w1 ⟨rfl, b1⟩
  rw [show agA (some ([97], [98, 32, 99])) = .agg #[.string ⟨#[97]⟩, .string ⟨#[98, 32, 99]⟩] from rfl, show (some (([97], [98, 32, 99]) : List UInt8 × List UInt8)).isSome = true from rfl, show ((ByteArray.size ⟨#[47, 32, 65, 32, 61, 32, 39, 66, 32, 99, 39, 32, 100, 62]⟩ - List.length ([32, 100, 62] : List UInt8) : Nat) : Int) = 11 from rfl]
  go_wp2_with fail
  have hx := Box.new w1 23 [.string ⟨#[97]⟩, .string ⟨#[98, 32, 99]⟩]
  have b2 := b1.alloc (.cells #[.string ⟨#[97]⟩, .string ⟨#[98, 32, 99]⟩] 23)
  generalize (w1.alloc (.cells #[.string ⟨#[97]⟩, .string ⟨#[98, 32, 99]⟩] 23)) = w2 at *
  have hx : Box w2 w1.heap.size 23 [.string ⟨#[97]⟩, .string ⟨#[98, 32, 99]⟩] := hx
  refine (H2.out _).mono ?_
  rintro e w3 ⟨v, rfl, hown, b3⟩
  have hx := hx.bel b3
  have b4 := b2.trans b3
  have hsl := hown.sl
  rw [show ((ByteArray.size ⟨#[97, 61, 49, 32, 98, 62]⟩ - List.length ([62] : List UInt8) : Nat) : Int) = 5 from rfl]
  clear hown b3 b2 b1
  go_wp2_with fail
  refine (H3.out _ (hL.bel b4)).mono ?_
  rintro e w4 ⟨rfl, b5⟩
  have hx := hx.bel b5
  have hsl := hsl.bel b5
  have b6 := b4.trans b5
  have c0 := hx.cell 0 _ rfl
  have c1 := hx.cell 1 _ rfl
  clear b4 b5
  go_wp2_with (go_at_call 16; refine (sameAttrs_any v _ _ _ _ (hsl.bel ((Bel.refl w4).alloc _)) (attrLit w4 ([97], [49]) ([98], []))).mono ?_; rintro e w5 ⟨rfl, b7⟩)
  go_ret
  exact ⟨rfl, (b6.alloc _).trans b7⟩
end Go.Proofs.YthaoohckgilahaaDoor

/-
  The law ScanFar; what must be in any case of scans.
-/
namespace Go.Proofs.YthaoohckgilahaaDoor
open Go.RowKit
set_option maxRecDepth 1000000
set_option maxHeartbeats 2000000

theorem attrLit1 (w : World) (p : List UInt8 × List UInt8) : AttrSl (w.alloc (.cells #[.string ⟨p.1.toArray⟩, .string ⟨p.2.toArray⟩] 23)) (.slice (some ⟨w.heap.size, 0, none⟩) 1 1) [p] := by
  refine ⟨some ⟨w.heap.size, 0, none⟩, 1, rfl, Nat.le_refl _, by unfold maxLen; omega, (fun h => by cases h), fun x hx _ => ⟨w.heap.size, 0, by injection hx with hx; exact hx.symm, fun i r hr => ?_⟩⟩
  match i, hr with
  | 0, hr => injection hr with hr; subst hr; exact ⟨by rw [World.cell?_alloc_new]; rfl, by rw [World.cell?_alloc_new]; rfl⟩
theorem begun_scan : M.scanE (⟨#[60, 33, 45, 45, 62, 60, 109, 101, 116, 97, 32, 99, 104, 97, 114, 115, 101, 116, 61, 120, 45, 117, 115, 101, 114, 45, 100, 101, 102, 105, 110, 101, 100, 62]⟩ : ByteArray).data.toList = (4, 0) := by decide +kernel
theorem begun_meta : M.metaE [([99, 104, 97, 114, 115, 101, 116], [117, 116, 102, 45, 49, 54])] = (1, 0) := by decide +kernel
theorem scanBegun_any (w : World) (hL : Len w) : Calls Tryd.prog 21 #[] w fun e w' => e = .returned (.bool true) ∧ Bel w w' := by
  go_enter Tryd.func21, Tryd.ntmps21
  go_wp2_with fail
  refine (scan_to _ 4 0 (by decide +kernel) _ hL).mono ?_
  rintro e w1 ⟨rfl, b1⟩
  go_wp2_with fail
  refine (metaS_to _ _ _ _ begun_meta _ (attrLit1 w1 ([99, 104, 97, 114, 115, 101, 116], [117, 116, 102, 45, 49, 54])) (hL.bel (b1.alloc _))).mono ?_
  rintro e w2 ⟨rfl, b2⟩
  have b2 := (b1.alloc _).trans b2
  go_wp2_with fail
  refine (scan_to _ _ _ begun_scan _ (hL.bel b2)).mono ?_
  rintro e w3 ⟨rfl, b3⟩
  go_wp2_with fail
  go_ret
  exact ⟨rfl, b2.trans b3⟩
theorem scanA_far (l m : List UInt8) (h : 256 ≤ l.length) : M.scanA (l ++ m) = M.scanA l := by
  rw [M.scanA, M.scanA, List.take_append_of_le_length h]
theorem scanA_cut (l : List UInt8) : M.scanA (l.take 256) = M.scanA l := by
  rw [M.scanA, M.scanA, List.take_take, Nat.min_self]
theorem scanFarTrue (s more : ByteArray) (w : World) (hs : s.size ≤ reachBytes) (hm : more.size ≤ reachBytes) (hL : Len w) : Calls Tryd.prog 6 #[.string s, .string more] w fun e w' => e = .returned (.bool true) ∧ Bel w w' := by
  unfold reachBytes at hs hm
  by_cases hl : 3000 < s.size
  · have HS := Lib.hid (show M.scanE s.data.toList = (0, 2) by rw [M.scanE, if_pos (by rw [← Lib.size_eq]; exact hl)])
    go_enter Tryd.func6, Tryd.ntmps6
    go_wp2_with fail
    refine (scan_to s _ _ HS.out _ hL).mono ?_
    rintro e w1 ⟨rfl, b1⟩
    go_wp2_with fail
    refine (scanBegun_any _ (hL.bel b1)).mono ?_
    rintro e w2 ⟨rfl, b2⟩
    go_wp2_with fail
    go_ret
    exact ⟨rfl, b1.trans b2⟩
  · obtain ⟨n, hn⟩ : ∃ n, M.scanA s.data.toList = n := ⟨_, rfl⟩
    have hr := M.scanF_range (s.data.toList.take 256).length (s.data.toList.take 256)
    have hr : M.scanA s.data.toList = 0 ∨ M.scanA s.data.toList = 1 ∨ M.scanA s.data.toList = 4 ∨ M.scanA s.data.toList = 6 ∨ M.scanA s.data.toList = 7 := hr
    rw [hn] at hr
    have HS := Lib.hid (show M.scanE s.data.toList = (n, 0) by rw [M.scanE, if_neg (by rw [← Lib.size_eq]; exact hl), hn])
    have h2 : (n == 2) = false := by simp; omega
    have h3 : (n == 3) = false := by simp; omega
    have h5 : (n == 5) = false := by simp; omega
    have h0 : decide (n < 0) = false := by simp; omega
    have h7 : decide (7 < n) = false := by simp; omega
    by_cases hshort : s.size < 256 ∨ 3000 < s.size + more.size
    · have hc : s.size < 256 ∨ (256 ≤ s.size ∧ 3000 < s.size + more.size) := by omega
      clear hn hr hshort
      rcases hc with hc | ⟨hc1, hc2⟩
      · have g1 : decide ((s.size : Int) < 256) = true := by simp; omega
        go_enter Tryd.func6, Tryd.ntmps6
        go_wp2_with fail
        refine (scan_to s _ _ HS.out _ hL).mono ?_
        rintro e w1 ⟨rfl, b1⟩
        go_wp2_with fail
        refine (scanBegun_any _ (hL.bel b1)).mono ?_
        rintro e w2 ⟨rfl, b2⟩
        go_wp2_with fail
        go_ret
        exact ⟨rfl, b1.trans b2⟩
      · have g1 : decide ((s.size : Int) < 256) = false := by simp; omega
        have g2 : decide (3000 < (s.size : Int) + (more.size : Int)) = true := by simp; omega
        go_enter Tryd.func6, Tryd.ntmps6
        go_wp2_with fail
        refine (scan_to s _ _ HS.out _ hL).mono ?_
        rintro e w1 ⟨rfl, b1⟩
        go_wp2_with fail
        refine (scanBegun_any _ (hL.bel b1)).mono ?_
        rintro e w2 ⟨rfl, b2⟩
        go_wp2_with fail
        go_ret
        exact ⟨rfl, b1.trans b2⟩
    · have h256 : 256 ≤ s.size := by omega
      have hlen : s.size + more.size ≤ 3000 := by omega
      have HF := Lib.hid (show M.scanE (s ++ more).data.toList = (n, 0) by
        rw [M.scanE, if_neg (by rw [data_append, List.length_append, ← Lib.size_eq, ← Lib.size_eq]; omega), data_append, scanA_far _ _ (by rw [← Lib.size_eq]; exact h256), hn])
      have HC := Lib.hid (show M.scanE (s.extract 0 256).data.toList = (n, 0) by
        rw [Lib.extract_data, List.drop_zero, Nat.sub_zero, M.scanE, if_neg (by rw [List.length_take]; omega), scanA_cut, hn])
      have g1 : decide ((s.size : Int) < 256) = false := by simp; omega
      have g2 : decide (3000 < (s.size : Int) + (more.size : Int)) = false := by simp; omega
      have hbd : (0 : Int) ≤ 256 ∧ (256 : Int) ≤ (s.size : Int) := by omega
      clear hn hr hshort
      go_enter Tryd.func6, Tryd.ntmps6
      go_wp2_with fail
      refine (scan_to s _ _ HS.out _ hL).mono ?_
      rintro e w1 ⟨rfl, b1⟩
      go_wp2_with fail
      refine (scanBegun_any _ (hL.bel b1)).mono ?_
      rintro e w2 ⟨rfl, b2⟩
      go_wp2_with fail
      refine (scan_to (s ++ more) _ _ HF.out _ (hL.bel (b1.trans b2))).mono ?_
      rintro e w3 ⟨rfl, b3⟩
      have b3 := (b1.trans b2).trans b3
      go_wp2_with fail
      refine (scan_to (s.extract 0 256) _ _ HC.out _ (hL.bel b3)).mono ?_
      rintro e w4 ⟨rfl, b4⟩
      go_wp2_with fail
      go_ret
      exact ⟨by simp, b3.trans b4⟩
end Go.Proofs.YthaoohckgilahaaDoor

/-
  Are two lists of numbers the same? What the references' SameInts and the laws' intsAre answer.
-/
namespace Go.Proofs.YthaoohckgilahaaDoor
open Go.RowKit

end Go.Proofs.YthaoohckgilahaaDoor

/-
  Small answers that several laws ask.
-/
namespace Go.Proofs.YthaoohckgilahaaDoor
open Go.RowKit
set_option maxRecDepth 1000000

theorem long_to (s : ByteArray) (n : Int) (h : M.long s.data.toList = n) (w : World) : Calls Tryd.prog 11 #[.string s] w fun e w' => e = .returned (.int .i64 n) ∧ w = w' := by
  have := tooLong_any s w; rw [h] at this; exact this
theorem long_cases (s : ByteArray) : (3000 < s.size ∧ M.long s.data.toList = 2) ∨ (s.size ≤ 3000 ∧ M.long s.data.toList = 0) := by
  by_cases h : 3000 < s.size
  · exact .inl ⟨h, by rw [M.long, if_pos (by rw [← Lib.size_eq]; exact h)]⟩
  · exact .inr ⟨by omega, by rw [M.long, if_neg (by rw [← Lib.size_eq]; exact h)]⟩
end Go.Proofs.YthaoohckgilahaaDoor

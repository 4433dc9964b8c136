/-
  Package scan: the looker's step.
-/
import Derived.Test.YthaoohckgilahaaDoorScan3
import Derived.Test.YthaoohckgilahaaDoorPlainScan2
namespace Go.Proofs.YthaoohckgilahaaDoor
open Go.RowKit
set_option maxRecDepth 1000000
set_option maxHeartbeats 4000000

theorem pre_roomS (l sub : List UInt8) (h : Lib.hasPrefix (M.fold l) sub = true) (hs : sub ≠ []) : sub.length ≤ l.length := by
  have h1 : Lib.occAt (M.fold l) sub 0 = true := h
  rcases Lib.occAt_room h1 with h2 | h2
  · rw [M.fold_len] at h2
    omega
  · exact absurd h2 hs
theorem byteN_slash (l : List UInt8) : M.slashW (l.drop 5) = (M.white (byteN l 5) || (((byteN l 5).toNat : Int) == 47)) := by
  have e : byteN l 5 = (((l.drop 5).head?).map M.fold1).getD 0 := by
    unfold byteN M.fold
    rw [List.head?_drop, List.getElem?_map]
  rw [e]
  cases l.drop 5 with
  | nil => decide
  | cons c t =>
    show M.skipB c = (M.white (M.fold1 c) || (((M.fold1 c).toNat : Int) == 47))
    have hw : M.white (M.fold1 c) = M.white c := by
      rw [M.white_nat, M.white_nat, Bool.eq_iff_iff, decide_eq_true_eq, decide_eq_true_eq, M.fold1_nat]
      split <;> omega
    rw [hw, M.skipB]
    congr 1
    rw [Bool.eq_iff_iff, decide_eq_true_eq, beq_iff_eq, ← fold1_47]
    omega
theorem Len.bes {g : Nat} {w w' : World} {s low : ByteArray} {k : Nat} (hL : Len w) (h : Lk w g s low k) (hb : Bes g w w') : Len w' := by
  obtain ⟨m, hm⟩ := hL
  have hg : 0 ≠ g := by
    rintro rfl
    have := Box.cell h 0 _ rfl
    rw [hm] at this
    cases this
  refine ⟨m, ?_⟩
  have hlt := World.block_lt_of_cell? w _ hm
  have hblk := hb.block _ hlt hg
  unfold World.cell? at hm ⊢
  rw [hblk]
  exact hm
theorem step_any (g : Nat) (s low : ByteArray) (k : Nat) (w : World) (h : Lk w g s low k) (hl : Low s low) (hk : k ≤ s.size) (hlt : k < s.size) (hs : s.size ≤ 3000) (hL : Len w) (n : Int) (t : List UInt8) (hst : M.stepS (s.data.toList.drop k) = (n, t)) : Calls Tryd.prog 59 #[.pointer (some ⟨g, 0, none⟩)] w fun e w' => e = .returned (.int .i64 n) ∧ (∃ k', k' ≤ s.size ∧ Lk w' g s low k' ∧ s.data.toList.drop k' = t) ∧ Bes g w w' := by
  have h0 := h
  obtain ⟨o, ho⟩ : ∃ o, M.nameEnd (s.data.toList.drop k) = o := ⟨_, rfl⟩
  have NM := Lib.hid (fun W hW => named_any g s low k W hW hl hk hs o ho)
  obtain ⟨c5, hc5⟩ : ∃ c, byteN (s.data.toList.drop k) 5 = c := ⟨_, rfl⟩
  have B5 : ∀ W, Lk W g s low k → Calls Tryd.prog 75 #[.pointer (some ⟨g, 0, none⟩), .int .i64 5] W fun e w' => e = .returned (.int .u8 (c5.toNat : Int)) ∧ ∃ m, w' = W.drewN m := fun W hW => by
    have := byteAt_any g s low k 5 W hW hl hk hs (by decide)
    rw [hc5] at this
    exact this
  have G5 := Lib.hid B5
  obtain ⟨b1, hb1⟩ : ∃ b, Lib.hasPrefix (M.fold (s.data.toList.drop k)) M.openS = b := ⟨_, rfl⟩
  have B1 := fun W hW => begins_any g s low ⟨#[60, 33, 45, 45]⟩ k W hW hl hk
  rw [show (⟨#[60, 33, 45, 45]⟩ : ByteArray).data.toList = M.openS from rfl, hb1] at B1
  have G1 := Lib.hid B1
  obtain ⟨b2, hb2⟩ : ∃ b, Lib.hasPrefix (M.fold (s.data.toList.drop k)) M.metaS = b := ⟨_, rfl⟩
  have B2 := fun W hW => begins_any g s low ⟨#[60, 109, 101, 116, 97]⟩ k W hW hl hk
  rw [show (⟨#[60, 109, 101, 116, 97]⟩ : ByteArray).data.toList = M.metaS from rfl, hb2] at B2
  have G2 := Lib.hid B2
  obtain ⟨b3, hb3⟩ : ∃ b, Lib.hasPrefix (M.fold (s.data.toList.drop k)) [60, 33] = b := ⟨_, rfl⟩
  have B3 := fun W hW => begins_any g s low ⟨#[60, 33]⟩ k W hW hl hk
  rw [show (⟨#[60, 33]⟩ : ByteArray).data.toList = [60, 33] from rfl, hb3] at B3
  have G3 := Lib.hid B3
  obtain ⟨b4, hb4⟩ : ∃ b, Lib.hasPrefix (M.fold (s.data.toList.drop k)) [60, 47] = b := ⟨_, rfl⟩
  have B4 := fun W hW => begins_any g s low ⟨#[60, 47]⟩ k W hW hl hk
  rw [show (⟨#[60, 47]⟩ : ByteArray).data.toList = [60, 47] from rfl, hb4] at B4
  have G4 := Lib.hid B4
  obtain ⟨b6, hb6⟩ : ∃ b, Lib.hasPrefix (M.fold (s.data.toList.drop k)) [60, 63] = b := ⟨_, rfl⟩
  have B6 := fun W hW => begins_any g s low ⟨#[60, 63]⟩ k W hW hl hk
  rw [show (⟨#[60, 63]⟩ : ByteArray).data.toList = [60, 63] from rfl, hb6] at B6
  have G6 := Lib.hid B6
  rw [M.pre2_fold _ (by decide)] at hb3 hb4 hb6
  have HST := Lib.hid hst
  unfold M.stepS at hst
  rw [byteN_slash, hc5, ho, hb1, hb2, hb3, hb4, hb6] at hst
  have hroom1 := pre_roomS (s.data.toList.drop k) M.openS
  rw [hb1, List.length_drop, ← Lib.size_eq, show M.openS.length = 4 from rfl] at hroom1
  have hroom2 := pre_roomS (s.data.toList.drop k) M.metaS
  rw [hb2, List.length_drop, ← Lib.size_eq, show M.metaS.length = 5 from rfl] at hroom2
  clear hc5 hb1 hb2 hb3 hb4 hb6 HST B5 B1 B2 B3 B4 B6
  cases b1 with
  | true =>
    have hr4 := hroom1 rfl (by decide)
    rw [if_pos rfl] at hst
    injection hst with e1 e2
    subst e1
    have HE := Lib.hid e2
    clear e2 hroom1 hroom2 ho
    go_enter Tryd.func59, Tryd.ntmps59
    go_wp2_with fail
    refine (NM.out _ h).mono ?_
    rintro e W1 ⟨rfl, b1⟩
    have h := Box.bel h b1
    have hB : Bes g w W1 := Bes.of_bel b1
    clear b1
    go_wp2_with fail
    refine (G1.out _ h).mono ?_
    rintro e W2 ⟨rfl, m, rfl⟩
    have h := Box.drewN h m
    have hB := hB.trans (Bes.of_bel ((Bel.refl W1).drewN m))
    generalize World.drewN W1 m = W2 at h hB ⊢
    go_wp2_with fail
    refine (to_any g s low ⟨#[45, 45, 62]⟩ k 2 _ h hl (by omega) hs (by decide) (by decide) (by decide) (Len.bes hL h0 hB)).mono ?_
    rintro e W9 ⟨rfl, ⟨k', hk', h9, hd⟩, hB9⟩
    go_wp2_with fail
    go_ret
    exact ⟨rfl, ⟨k', hk', h9, by rw [hd, ← HE.out]; first | rfl | (rw [List.drop_drop]; rfl)⟩, hB.trans hB9⟩
  | false =>
    rw [if_neg (by decide)] at hst
    cases b2 with
    | false =>
      rw [if_neg (by rintro ⟨h9, _⟩; cases h9)] at hst
      cases o with
      | some en =>
        have hsuf := M.nameEnd_suf _ _ ho
        have hd0 := M.Suf.at (M.Suf.trans (a := en) hsuf (M.Suf.drop s.data.toList k))
        rw [← Lib.size_eq] at hd0
        obtain ⟨xs, r, hn⟩ : ∃ xs r, M.attrsA en = (xs, r) := ⟨_, _, rfl⟩
        have hst : ((0 : Int), (M.attrsA en).2.drop 1) = (n, t) := hst
        rw [hn] at hst
        rw [hd0] at hn
        have T := fun W hW => tag_any g s low k (s.size - en.length) W hW (by omega) hs xs r hn
        rw [show ((s.size - en.length : Nat) : Int) = endOf s (some en) from rfl] at T
        have TG := Lib.hid T
        clear T hn hd0 hsuf
        injection hst with e1 e2
        subst e1
        have HE := Lib.hid e2
        clear e2 hroom1 hroom2 ho
        have ho9 : (some en).isSome = true := rfl
        go_enter Tryd.func59, Tryd.ntmps59
        go_wp2_with fail
        refine (NM.out _ h).mono ?_
        rintro e W1 ⟨rfl, b1⟩
        have h := Box.bel h b1
        have hB : Bes g w W1 := Bes.of_bel b1
        clear b1
        go_wp2_with fail
        refine (G1.out _ h).mono ?_
        rintro e W2 ⟨rfl, m, rfl⟩
        have h := Box.drewN h m
        have hB := hB.trans (Bes.of_bel ((Bel.refl W1).drewN m))
        generalize World.drewN W1 m = W2 at h hB ⊢
        go_wp2_with fail
        refine (G2.out _ h).mono ?_
        rintro e W3 ⟨rfl, m, rfl⟩
        have h := Box.drewN h m
        have hB := hB.trans (Bes.of_bel ((Bel.refl W2).drewN m))
        generalize World.drewN W2 m = W3 at h hB ⊢
        go_wp2_with fail
        refine (TG.out _ h).mono ?_
        rintro e W9 ⟨v, rfl, hsl, ⟨k', hk', h9, hd⟩, hB9⟩
        go_wp2_with fail
        go_ret
        exact ⟨rfl, ⟨k', hk', h9, hd.trans HE.out⟩, hB.trans hB9⟩
      | none =>
        have ho9 : (none : Option (List UInt8)).isSome = false := rfl
        have hst : (if b3 = true ∨ b4 = true ∨ b6 = true then ((0 : Int), M.behindF [62] (s.data.toList.drop k)) else (0, (s.data.toList.drop k).drop 1)) = (n, t) := hst
        cases b3 with
        | true =>
          rw [if_pos (.inl rfl)] at hst
          injection hst with e1 e2
          subst e1
          have HE := Lib.hid e2
          clear e2 hroom1 hroom2 ho
          go_enter Tryd.func59, Tryd.ntmps59
          go_wp2_with fail
          refine (NM.out _ h).mono ?_
          rintro e W1 ⟨rfl, b1⟩
          have h := Box.bel h b1
          have hB : Bes g w W1 := Bes.of_bel b1
          clear b1
          go_wp2_with fail
          refine (G1.out _ h).mono ?_
          rintro e W2 ⟨rfl, m, rfl⟩
          have h := Box.drewN h m
          have hB := hB.trans (Bes.of_bel ((Bel.refl W1).drewN m))
          generalize World.drewN W1 m = W2 at h hB ⊢
          go_wp2_with fail
          refine (G2.out _ h).mono ?_
          rintro e W3 ⟨rfl, m, rfl⟩
          have h := Box.drewN h m
          have hB := hB.trans (Bes.of_bel ((Bel.refl W2).drewN m))
          generalize World.drewN W2 m = W3 at h hB ⊢
          go_wp2_with fail
          refine (G3.out _ h).mono ?_
          rintro e W20 ⟨rfl, m, rfl⟩
          have h := Box.drewN h m
          have hB := hB.trans (Bes.of_bel ((Bel.refl W3).drewN m))
          generalize World.drewN W3 m = W20 at h hB ⊢
          go_wp2_with fail
          refine (to_any g s low ⟨#[62]⟩ k 0 _ h hl (by omega) hs (by decide) (by decide) (by decide) (Len.bes hL h0 hB)).mono ?_
          rintro e W9 ⟨rfl, ⟨k', hk', h9, hd⟩, hB9⟩
          go_wp2_with fail
          go_ret
          exact ⟨rfl, ⟨k', hk', h9, by rw [hd, ← HE.out]; first | rfl | (rw [List.drop_drop]; rfl)⟩, hB.trans hB9⟩
        | false =>
          cases b4 with
          | true =>
            rw [if_pos (.inr (.inl rfl))] at hst
            injection hst with e1 e2
            subst e1
            have HE := Lib.hid e2
            clear e2 hroom1 hroom2 ho
            go_enter Tryd.func59, Tryd.ntmps59
            go_wp2_with fail
            refine (NM.out _ h).mono ?_
            rintro e W1 ⟨rfl, b1⟩
            have h := Box.bel h b1
            have hB : Bes g w W1 := Bes.of_bel b1
            clear b1
            go_wp2_with fail
            refine (G1.out _ h).mono ?_
            rintro e W2 ⟨rfl, m, rfl⟩
            have h := Box.drewN h m
            have hB := hB.trans (Bes.of_bel ((Bel.refl W1).drewN m))
            generalize World.drewN W1 m = W2 at h hB ⊢
            go_wp2_with fail
            refine (G2.out _ h).mono ?_
            rintro e W3 ⟨rfl, m, rfl⟩
            have h := Box.drewN h m
            have hB := hB.trans (Bes.of_bel ((Bel.refl W2).drewN m))
            generalize World.drewN W2 m = W3 at h hB ⊢
            go_wp2_with fail
            refine (G3.out _ h).mono ?_
            rintro e W20 ⟨rfl, m, rfl⟩
            have h := Box.drewN h m
            have hB := hB.trans (Bes.of_bel ((Bel.refl W3).drewN m))
            generalize World.drewN W3 m = W20 at h hB ⊢
            go_wp2_with fail
            refine (G4.out _ h).mono ?_
            rintro e W21 ⟨rfl, m, rfl⟩
            have h := Box.drewN h m
            have hB := hB.trans (Bes.of_bel ((Bel.refl W20).drewN m))
            generalize World.drewN W20 m = W21 at h hB ⊢
            go_wp2_with fail
            refine (to_any g s low ⟨#[62]⟩ k 0 _ h hl (by omega) hs (by decide) (by decide) (by decide) (Len.bes hL h0 hB)).mono ?_
            rintro e W9 ⟨rfl, ⟨k', hk', h9, hd⟩, hB9⟩
            go_wp2_with fail
            go_ret
            exact ⟨rfl, ⟨k', hk', h9, by rw [hd, ← HE.out]; first | rfl | (rw [List.drop_drop]; rfl)⟩, hB.trans hB9⟩
          | false =>
            cases b6 with
            | true =>
              rw [if_pos (.inr (.inr rfl))] at hst
              injection hst with e1 e2
              subst e1
              have HE := Lib.hid e2
              clear e2 hroom1 hroom2 ho
              go_enter Tryd.func59, Tryd.ntmps59
              go_wp2_with fail
              refine (NM.out _ h).mono ?_
              rintro e W1 ⟨rfl, b1⟩
              have h := Box.bel h b1
              have hB : Bes g w W1 := Bes.of_bel b1
              clear b1
              go_wp2_with fail
              refine (G1.out _ h).mono ?_
              rintro e W2 ⟨rfl, m, rfl⟩
              have h := Box.drewN h m
              have hB := hB.trans (Bes.of_bel ((Bel.refl W1).drewN m))
              generalize World.drewN W1 m = W2 at h hB ⊢
              go_wp2_with fail
              refine (G2.out _ h).mono ?_
              rintro e W3 ⟨rfl, m, rfl⟩
              have h := Box.drewN h m
              have hB := hB.trans (Bes.of_bel ((Bel.refl W2).drewN m))
              generalize World.drewN W2 m = W3 at h hB ⊢
              go_wp2_with fail
              refine (G3.out _ h).mono ?_
              rintro e W20 ⟨rfl, m, rfl⟩
              have h := Box.drewN h m
              have hB := hB.trans (Bes.of_bel ((Bel.refl W3).drewN m))
              generalize World.drewN W3 m = W20 at h hB ⊢
              go_wp2_with fail
              refine (G4.out _ h).mono ?_
              rintro e W21 ⟨rfl, m, rfl⟩
              have h := Box.drewN h m
              have hB := hB.trans (Bes.of_bel ((Bel.refl W20).drewN m))
              generalize World.drewN W20 m = W21 at h hB ⊢
              go_wp2_with fail
              refine (G6.out _ h).mono ?_
              rintro e W22 ⟨rfl, m, rfl⟩
              have h := Box.drewN h m
              have hB := hB.trans (Bes.of_bel ((Bel.refl W21).drewN m))
              generalize World.drewN W21 m = W22 at h hB ⊢
              go_wp2_with fail
              refine (to_any g s low ⟨#[62]⟩ k 0 _ h hl (by omega) hs (by decide) (by decide) (by decide) (Len.bes hL h0 hB)).mono ?_
              rintro e W9 ⟨rfl, ⟨k', hk', h9, hd⟩, hB9⟩
              go_wp2_with fail
              go_ret
              exact ⟨rfl, ⟨k', hk', h9, by rw [hd, ← HE.out]; first | rfl | (rw [List.drop_drop]; rfl)⟩, hB.trans hB9⟩
            | false =>
              rw [if_neg (by decide)] at hst
              injection hst with e1 e2
              subst e1
              have HE := Lib.hid e2
              clear e2 hroom1 hroom2 ho
              go_enter Tryd.func59, Tryd.ntmps59
              go_wp2_with fail
              refine (NM.out _ h).mono ?_
              rintro e W1 ⟨rfl, b1⟩
              have h := Box.bel h b1
              have hB : Bes g w W1 := Bes.of_bel b1
              clear b1
              go_wp2_with fail
              refine (G1.out _ h).mono ?_
              rintro e W2 ⟨rfl, m, rfl⟩
              have h := Box.drewN h m
              have hB := hB.trans (Bes.of_bel ((Bel.refl W1).drewN m))
              generalize World.drewN W1 m = W2 at h hB ⊢
              go_wp2_with fail
              refine (G2.out _ h).mono ?_
              rintro e W3 ⟨rfl, m, rfl⟩
              have h := Box.drewN h m
              have hB := hB.trans (Bes.of_bel ((Bel.refl W2).drewN m))
              generalize World.drewN W2 m = W3 at h hB ⊢
              go_wp2_with fail
              refine (G3.out _ h).mono ?_
              rintro e W20 ⟨rfl, m, rfl⟩
              have h := Box.drewN h m
              have hB := hB.trans (Bes.of_bel ((Bel.refl W3).drewN m))
              generalize World.drewN W3 m = W20 at h hB ⊢
              go_wp2_with fail
              refine (G4.out _ h).mono ?_
              rintro e W21 ⟨rfl, m, rfl⟩
              have h := Box.drewN h m
              have hB := hB.trans (Bes.of_bel ((Bel.refl W20).drewN m))
              generalize World.drewN W20 m = W21 at h hB ⊢
              go_wp2_with fail
              refine (G6.out _ h).mono ?_
              rintro e W22 ⟨rfl, m, rfl⟩
              have h := Box.drewN h m
              have hB := hB.trans (Bes.of_bel ((Bel.refl W21).drewN m))
              generalize World.drewN W21 m = W22 at h hB ⊢
              have c2 := Box.cell h 2 _ rfl
              have f2 := Box.frozen h 2
              go_wp2_with fail
              go_ret
              exact ⟨rfl, ⟨k + 1, by omega, by rw [show (k : Int) + 1 = ((k + 1 : Nat) : Int) by omega]; exact Lk.move h (k + 1), by rw [← HE.out, List.drop_drop]⟩, hB.setCell 2 _⟩
    | true =>
      cases hw : M.white c5 with
      | true =>
        rw [if_pos ⟨rfl, by rw [hw]; rfl⟩] at hst
        have HW := Lib.hid hw
        clear hw
        have hr5 := hroom2 rfl (by decide)
        obtain ⟨xs, r, hn⟩ : ∃ xs r, M.attrsA ((s.data.toList.drop k).drop 5) = (xs, r) := ⟨_, _, rfl⟩
        rw [hn] at hst
        rw [List.drop_drop] at hn
        have hshort : ShortV xs := fun q hq => by have h9 := M.attrsA_val _ (s.data.toList.drop (k + 5)) (Nat.le_refl _) q (by rw [hn]; exact hq); rw [List.length_drop, ← Lib.size_eq] at h9; omega
        have T := fun W hW => tag_any g s low k (k + 5) W hW (by omega) hs xs r hn
        rw [show ((k + 5 : Nat) : Int) = (k : Int) + 5 by omega] at T
        have TG := Lib.hid T
        clear T hn
        injection hst with e1 e2
        subst e1
        have HE := Lib.hid e2
        clear e2 hroom1 hroom2 ho
        go_enter Tryd.func59, Tryd.ntmps59
        go_wp2_with fail
        refine (NM.out _ h).mono ?_
        rintro e W1 ⟨rfl, b1⟩
        have h := Box.bel h b1
        have hB : Bes g w W1 := Bes.of_bel b1
        clear b1
        go_wp2_with fail
        refine (G1.out _ h).mono ?_
        rintro e W2 ⟨rfl, m, rfl⟩
        have h := Box.drewN h m
        have hB := hB.trans (Bes.of_bel ((Bel.refl W1).drewN m))
        generalize World.drewN W1 m = W2 at h hB ⊢
        go_wp2_with fail
        refine (G2.out _ h).mono ?_
        rintro e W3 ⟨rfl, m, rfl⟩
        have h := Box.drewN h m
        have hB := hB.trans (Bes.of_bel ((Bel.refl W2).drewN m))
        generalize World.drewN W2 m = W3 at h hB ⊢
        go_wp2_with fail
        refine (G5.out _ h).mono ?_
        rintro e W4 ⟨rfl, m, rfl⟩
        have h := Box.drewN h m
        have hB := hB.trans (Bes.of_bel ((Bel.refl W3).drewN m))
        generalize World.drewN W3 m = W4 at h hB ⊢
        have c2 := Box.cell h 2 _ rfl
        go_wp2_with fail
        refine (white_to c5 _ HW.out _).mono ?_
        rintro e W' ⟨rfl, hW'⟩
        have hW' := hW'.symm
        subst hW'
        go_wp2_with fail
        refine (TG.out _ h).mono ?_
        rintro e W9 ⟨v, rfl, hsl, ⟨k', hk', h9, hd⟩, hB9⟩
        have hB9 := hB.trans hB9
        have hL9 := Len.bes hL h0 hB9
        go_wp2_with fail
        refine (metaS_any v xs W9 hsl hshort hL9).mono ?_
        rintro e W10 ⟨rfl, b10⟩
        go_wp2_with fail
        go_ret
        exact ⟨rfl, ⟨k', hk', Lk.bel h9 b10, hd.trans HE.out⟩, hB9.trans (Bes.of_bel b10)⟩
      | false =>
        have HW := Lib.hid hw
        cases h47 : ((c5.toNat : Int) == 47) with
        | true =>
          rw [if_pos ⟨rfl, by rw [hw, h47]; rfl⟩] at hst
          clear hw
          have hr5 := hroom2 rfl (by decide)
          obtain ⟨xs, r, hn⟩ : ∃ xs r, M.attrsA ((s.data.toList.drop k).drop 5) = (xs, r) := ⟨_, _, rfl⟩
          rw [hn] at hst
          rw [List.drop_drop] at hn
          have hshort : ShortV xs := fun q hq => by have h9 := M.attrsA_val _ (s.data.toList.drop (k + 5)) (Nat.le_refl _) q (by rw [hn]; exact hq); rw [List.length_drop, ← Lib.size_eq] at h9; omega
          have T := fun W hW => tag_any g s low k (k + 5) W hW (by omega) hs xs r hn
          rw [show ((k + 5 : Nat) : Int) = (k : Int) + 5 by omega] at T
          have TG := Lib.hid T
          clear T hn
          injection hst with e1 e2
          subst e1
          have HE := Lib.hid e2
          clear e2 hroom1 hroom2 ho
          go_enter Tryd.func59, Tryd.ntmps59
          go_wp2_with fail
          refine (NM.out _ h).mono ?_
          rintro e W1 ⟨rfl, b1⟩
          have h := Box.bel h b1
          have hB : Bes g w W1 := Bes.of_bel b1
          clear b1
          go_wp2_with fail
          refine (G1.out _ h).mono ?_
          rintro e W2 ⟨rfl, m, rfl⟩
          have h := Box.drewN h m
          have hB := hB.trans (Bes.of_bel ((Bel.refl W1).drewN m))
          generalize World.drewN W1 m = W2 at h hB ⊢
          go_wp2_with fail
          refine (G2.out _ h).mono ?_
          rintro e W3 ⟨rfl, m, rfl⟩
          have h := Box.drewN h m
          have hB := hB.trans (Bes.of_bel ((Bel.refl W2).drewN m))
          generalize World.drewN W2 m = W3 at h hB ⊢
          go_wp2_with fail
          refine (G5.out _ h).mono ?_
          rintro e W4 ⟨rfl, m, rfl⟩
          have h := Box.drewN h m
          have hB := hB.trans (Bes.of_bel ((Bel.refl W3).drewN m))
          generalize World.drewN W3 m = W4 at h hB ⊢
          go_wp2_with fail
          refine (white_to c5 _ HW.out _).mono ?_
          rintro e W' ⟨rfl, hW'⟩
          have hW' := hW'.symm
          subst hW'
          go_wp2_with fail
          refine (G5.out _ h).mono ?_
          rintro e W5 ⟨rfl, m, rfl⟩
          have h := Box.drewN h m
          have hB := hB.trans (Bes.of_bel ((Bel.refl W4).drewN m))
          generalize World.drewN W4 m = W5 at h hB ⊢
          have c2 := Box.cell h 2 _ rfl
          go_wp2_with fail
          refine (TG.out _ h).mono ?_
          rintro e W9 ⟨v, rfl, hsl, ⟨k', hk', h9, hd⟩, hB9⟩
          have hB9 := hB.trans hB9
          have hL9 := Len.bes hL h0 hB9
          go_wp2_with fail
          refine (metaS_any v xs W9 hsl hshort hL9).mono ?_
          rintro e W10 ⟨rfl, b10⟩
          go_wp2_with fail
          go_ret
          exact ⟨rfl, ⟨k', hk', Lk.bel h9 b10, hd.trans HE.out⟩, hB9.trans (Bes.of_bel b10)⟩
        | false =>
          rw [if_neg (by rintro ⟨_, h9⟩; rw [hw, h47] at h9; cases h9)] at hst
          clear hw
          cases o with
          | some en =>
            have hsuf := M.nameEnd_suf _ _ ho
            have hd0 := M.Suf.at (M.Suf.trans (a := en) hsuf (M.Suf.drop s.data.toList k))
            rw [← Lib.size_eq] at hd0
            obtain ⟨xs, r, hn⟩ : ∃ xs r, M.attrsA en = (xs, r) := ⟨_, _, rfl⟩
            have hst : ((0 : Int), (M.attrsA en).2.drop 1) = (n, t) := hst
            rw [hn] at hst
            rw [hd0] at hn
            have T := fun W hW => tag_any g s low k (s.size - en.length) W hW (by omega) hs xs r hn
            rw [show ((s.size - en.length : Nat) : Int) = endOf s (some en) from rfl] at T
            have TG := Lib.hid T
            clear T hn hd0 hsuf
            injection hst with e1 e2
            subst e1
            have HE := Lib.hid e2
            clear e2 hroom1 hroom2 ho
            have ho9 : (some en).isSome = true := rfl
            go_enter Tryd.func59, Tryd.ntmps59
            go_wp2_with fail
            refine (NM.out _ h).mono ?_
            rintro e W1 ⟨rfl, b1⟩
            have h := Box.bel h b1
            have hB : Bes g w W1 := Bes.of_bel b1
            clear b1
            go_wp2_with fail
            refine (G1.out _ h).mono ?_
            rintro e W2 ⟨rfl, m, rfl⟩
            have h := Box.drewN h m
            have hB := hB.trans (Bes.of_bel ((Bel.refl W1).drewN m))
            generalize World.drewN W1 m = W2 at h hB ⊢
            go_wp2_with fail
            refine (G2.out _ h).mono ?_
            rintro e W3 ⟨rfl, m, rfl⟩
            have h := Box.drewN h m
            have hB := hB.trans (Bes.of_bel ((Bel.refl W2).drewN m))
            generalize World.drewN W2 m = W3 at h hB ⊢
            go_wp2_with fail
            refine (G5.out _ h).mono ?_
            rintro e W4 ⟨rfl, m, rfl⟩
            have h := Box.drewN h m
            have hB := hB.trans (Bes.of_bel ((Bel.refl W3).drewN m))
            generalize World.drewN W3 m = W4 at h hB ⊢
            go_wp2_with fail
            refine (white_to c5 _ HW.out _).mono ?_
            rintro e W' ⟨rfl, hW'⟩
            have hW' := hW'.symm
            subst hW'
            go_wp2_with fail
            refine (G5.out _ h).mono ?_
            rintro e W5 ⟨rfl, m, rfl⟩
            have h := Box.drewN h m
            have hB := hB.trans (Bes.of_bel ((Bel.refl W4).drewN m))
            generalize World.drewN W4 m = W5 at h hB ⊢
            have c2 := Box.cell h 2 _ rfl
            go_wp2_with fail
            refine (TG.out _ h).mono ?_
            rintro e W9 ⟨v, rfl, hsl, ⟨k', hk', h9, hd⟩, hB9⟩
            go_wp2_with fail
            go_ret
            exact ⟨rfl, ⟨k', hk', h9, hd.trans HE.out⟩, hB.trans hB9⟩
          | none =>
            have ho9 : (none : Option (List UInt8)).isSome = false := rfl
            have hst : (if b3 = true ∨ b4 = true ∨ b6 = true then ((0 : Int), M.behindF [62] (s.data.toList.drop k)) else (0, (s.data.toList.drop k).drop 1)) = (n, t) := hst
            cases b3 with
            | true =>
              rw [if_pos (.inl rfl)] at hst
              injection hst with e1 e2
              subst e1
              have HE := Lib.hid e2
              clear e2 hroom1 hroom2 ho
              go_enter Tryd.func59, Tryd.ntmps59
              go_wp2_with fail
              refine (NM.out _ h).mono ?_
              rintro e W1 ⟨rfl, b1⟩
              have h := Box.bel h b1
              have hB : Bes g w W1 := Bes.of_bel b1
              clear b1
              go_wp2_with fail
              refine (G1.out _ h).mono ?_
              rintro e W2 ⟨rfl, m, rfl⟩
              have h := Box.drewN h m
              have hB := hB.trans (Bes.of_bel ((Bel.refl W1).drewN m))
              generalize World.drewN W1 m = W2 at h hB ⊢
              go_wp2_with fail
              refine (G2.out _ h).mono ?_
              rintro e W3 ⟨rfl, m, rfl⟩
              have h := Box.drewN h m
              have hB := hB.trans (Bes.of_bel ((Bel.refl W2).drewN m))
              generalize World.drewN W2 m = W3 at h hB ⊢
              go_wp2_with fail
              refine (G5.out _ h).mono ?_
              rintro e W4 ⟨rfl, m, rfl⟩
              have h := Box.drewN h m
              have hB := hB.trans (Bes.of_bel ((Bel.refl W3).drewN m))
              generalize World.drewN W3 m = W4 at h hB ⊢
              go_wp2_with fail
              refine (white_to c5 _ HW.out _).mono ?_
              rintro e W' ⟨rfl, hW'⟩
              have hW' := hW'.symm
              subst hW'
              go_wp2_with fail
              refine (G5.out _ h).mono ?_
              rintro e W5 ⟨rfl, m, rfl⟩
              have h := Box.drewN h m
              have hB := hB.trans (Bes.of_bel ((Bel.refl W4).drewN m))
              generalize World.drewN W4 m = W5 at h hB ⊢
              have c2 := Box.cell h 2 _ rfl
              go_wp2_with fail
              refine (G3.out _ h).mono ?_
              rintro e W20 ⟨rfl, m, rfl⟩
              have h := Box.drewN h m
              have hB := hB.trans (Bes.of_bel ((Bel.refl W5).drewN m))
              generalize World.drewN W5 m = W20 at h hB ⊢
              go_wp2_with fail
              refine (to_any g s low ⟨#[62]⟩ k 0 _ h hl (by omega) hs (by decide) (by decide) (by decide) (Len.bes hL h0 hB)).mono ?_
              rintro e W9 ⟨rfl, ⟨k', hk', h9, hd⟩, hB9⟩
              go_wp2_with fail
              go_ret
              exact ⟨rfl, ⟨k', hk', h9, by rw [hd, ← HE.out]; first | rfl | (rw [List.drop_drop]; rfl)⟩, hB.trans hB9⟩
            | false =>
              cases b4 with
              | true =>
                rw [if_pos (.inr (.inl rfl))] at hst
                injection hst with e1 e2
                subst e1
                have HE := Lib.hid e2
                clear e2 hroom1 hroom2 ho
                go_enter Tryd.func59, Tryd.ntmps59
                go_wp2_with fail
                refine (NM.out _ h).mono ?_
                rintro e W1 ⟨rfl, b1⟩
                have h := Box.bel h b1
                have hB : Bes g w W1 := Bes.of_bel b1
                clear b1
                go_wp2_with fail
                refine (G1.out _ h).mono ?_
                rintro e W2 ⟨rfl, m, rfl⟩
                have h := Box.drewN h m
                have hB := hB.trans (Bes.of_bel ((Bel.refl W1).drewN m))
                generalize World.drewN W1 m = W2 at h hB ⊢
                go_wp2_with fail
                refine (G2.out _ h).mono ?_
                rintro e W3 ⟨rfl, m, rfl⟩
                have h := Box.drewN h m
                have hB := hB.trans (Bes.of_bel ((Bel.refl W2).drewN m))
                generalize World.drewN W2 m = W3 at h hB ⊢
                go_wp2_with fail
                refine (G5.out _ h).mono ?_
                rintro e W4 ⟨rfl, m, rfl⟩
                have h := Box.drewN h m
                have hB := hB.trans (Bes.of_bel ((Bel.refl W3).drewN m))
                generalize World.drewN W3 m = W4 at h hB ⊢
                go_wp2_with fail
                refine (white_to c5 _ HW.out _).mono ?_
                rintro e W' ⟨rfl, hW'⟩
                have hW' := hW'.symm
                subst hW'
                go_wp2_with fail
                refine (G5.out _ h).mono ?_
                rintro e W5 ⟨rfl, m, rfl⟩
                have h := Box.drewN h m
                have hB := hB.trans (Bes.of_bel ((Bel.refl W4).drewN m))
                generalize World.drewN W4 m = W5 at h hB ⊢
                have c2 := Box.cell h 2 _ rfl
                go_wp2_with fail
                refine (G3.out _ h).mono ?_
                rintro e W20 ⟨rfl, m, rfl⟩
                have h := Box.drewN h m
                have hB := hB.trans (Bes.of_bel ((Bel.refl W5).drewN m))
                generalize World.drewN W5 m = W20 at h hB ⊢
                go_wp2_with fail
                refine (G4.out _ h).mono ?_
                rintro e W21 ⟨rfl, m, rfl⟩
                have h := Box.drewN h m
                have hB := hB.trans (Bes.of_bel ((Bel.refl W20).drewN m))
                generalize World.drewN W20 m = W21 at h hB ⊢
                go_wp2_with fail
                refine (to_any g s low ⟨#[62]⟩ k 0 _ h hl (by omega) hs (by decide) (by decide) (by decide) (Len.bes hL h0 hB)).mono ?_
                rintro e W9 ⟨rfl, ⟨k', hk', h9, hd⟩, hB9⟩
                go_wp2_with fail
                go_ret
                exact ⟨rfl, ⟨k', hk', h9, by rw [hd, ← HE.out]; first | rfl | (rw [List.drop_drop]; rfl)⟩, hB.trans hB9⟩
              | false =>
                cases b6 with
                | true =>
                  rw [if_pos (.inr (.inr rfl))] at hst
                  injection hst with e1 e2
                  subst e1
                  have HE := Lib.hid e2
                  clear e2 hroom1 hroom2 ho
                  go_enter Tryd.func59, Tryd.ntmps59
                  go_wp2_with fail
                  refine (NM.out _ h).mono ?_
                  rintro e W1 ⟨rfl, b1⟩
                  have h := Box.bel h b1
                  have hB : Bes g w W1 := Bes.of_bel b1
                  clear b1
                  go_wp2_with fail
                  refine (G1.out _ h).mono ?_
                  rintro e W2 ⟨rfl, m, rfl⟩
                  have h := Box.drewN h m
                  have hB := hB.trans (Bes.of_bel ((Bel.refl W1).drewN m))
                  generalize World.drewN W1 m = W2 at h hB ⊢
                  go_wp2_with fail
                  refine (G2.out _ h).mono ?_
                  rintro e W3 ⟨rfl, m, rfl⟩
                  have h := Box.drewN h m
                  have hB := hB.trans (Bes.of_bel ((Bel.refl W2).drewN m))
                  generalize World.drewN W2 m = W3 at h hB ⊢
                  go_wp2_with fail
                  refine (G5.out _ h).mono ?_
                  rintro e W4 ⟨rfl, m, rfl⟩
                  have h := Box.drewN h m
                  have hB := hB.trans (Bes.of_bel ((Bel.refl W3).drewN m))
                  generalize World.drewN W3 m = W4 at h hB ⊢
                  go_wp2_with fail
                  refine (white_to c5 _ HW.out _).mono ?_
                  rintro e W' ⟨rfl, hW'⟩
                  have hW' := hW'.symm
                  subst hW'
                  go_wp2_with fail
                  refine (G5.out _ h).mono ?_
                  rintro e W5 ⟨rfl, m, rfl⟩
                  have h := Box.drewN h m
                  have hB := hB.trans (Bes.of_bel ((Bel.refl W4).drewN m))
                  generalize World.drewN W4 m = W5 at h hB ⊢
                  have c2 := Box.cell h 2 _ rfl
                  go_wp2_with fail
                  refine (G3.out _ h).mono ?_
                  rintro e W20 ⟨rfl, m, rfl⟩
                  have h := Box.drewN h m
                  have hB := hB.trans (Bes.of_bel ((Bel.refl W5).drewN m))
                  generalize World.drewN W5 m = W20 at h hB ⊢
                  go_wp2_with fail
                  refine (G4.out _ h).mono ?_
                  rintro e W21 ⟨rfl, m, rfl⟩
                  have h := Box.drewN h m
                  have hB := hB.trans (Bes.of_bel ((Bel.refl W20).drewN m))
                  generalize World.drewN W20 m = W21 at h hB ⊢
                  go_wp2_with fail
                  refine (G6.out _ h).mono ?_
                  rintro e W22 ⟨rfl, m, rfl⟩
                  have h := Box.drewN h m
                  have hB := hB.trans (Bes.of_bel ((Bel.refl W21).drewN m))
                  generalize World.drewN W21 m = W22 at h hB ⊢
                  go_wp2_with fail
                  refine (to_any g s low ⟨#[62]⟩ k 0 _ h hl (by omega) hs (by decide) (by decide) (by decide) (Len.bes hL h0 hB)).mono ?_
                  rintro e W9 ⟨rfl, ⟨k', hk', h9, hd⟩, hB9⟩
                  go_wp2_with fail
                  go_ret
                  exact ⟨rfl, ⟨k', hk', h9, by rw [hd, ← HE.out]; first | rfl | (rw [List.drop_drop]; rfl)⟩, hB.trans hB9⟩
                | false =>
                  rw [if_neg (by decide)] at hst
                  injection hst with e1 e2
                  subst e1
                  have HE := Lib.hid e2
                  clear e2 hroom1 hroom2 ho
                  go_enter Tryd.func59, Tryd.ntmps59
                  go_wp2_with fail
                  refine (NM.out _ h).mono ?_
                  rintro e W1 ⟨rfl, b1⟩
                  have h := Box.bel h b1
                  have hB : Bes g w W1 := Bes.of_bel b1
                  clear b1
                  go_wp2_with fail
                  refine (G1.out _ h).mono ?_
                  rintro e W2 ⟨rfl, m, rfl⟩
                  have h := Box.drewN h m
                  have hB := hB.trans (Bes.of_bel ((Bel.refl W1).drewN m))
                  generalize World.drewN W1 m = W2 at h hB ⊢
                  go_wp2_with fail
                  refine (G2.out _ h).mono ?_
                  rintro e W3 ⟨rfl, m, rfl⟩
                  have h := Box.drewN h m
                  have hB := hB.trans (Bes.of_bel ((Bel.refl W2).drewN m))
                  generalize World.drewN W2 m = W3 at h hB ⊢
                  go_wp2_with fail
                  refine (G5.out _ h).mono ?_
                  rintro e W4 ⟨rfl, m, rfl⟩
                  have h := Box.drewN h m
                  have hB := hB.trans (Bes.of_bel ((Bel.refl W3).drewN m))
                  generalize World.drewN W3 m = W4 at h hB ⊢
                  go_wp2_with fail
                  refine (white_to c5 _ HW.out _).mono ?_
                  rintro e W' ⟨rfl, hW'⟩
                  have hW' := hW'.symm
                  subst hW'
                  go_wp2_with fail
                  refine (G5.out _ h).mono ?_
                  rintro e W5 ⟨rfl, m, rfl⟩
                  have h := Box.drewN h m
                  have hB := hB.trans (Bes.of_bel ((Bel.refl W4).drewN m))
                  generalize World.drewN W4 m = W5 at h hB ⊢
                  have c2 := Box.cell h 2 _ rfl
                  go_wp2_with fail
                  refine (G3.out _ h).mono ?_
                  rintro e W20 ⟨rfl, m, rfl⟩
                  have h := Box.drewN h m
                  have hB := hB.trans (Bes.of_bel ((Bel.refl W5).drewN m))
                  generalize World.drewN W5 m = W20 at h hB ⊢
                  go_wp2_with fail
                  refine (G4.out _ h).mono ?_
                  rintro e W21 ⟨rfl, m, rfl⟩
                  have h := Box.drewN h m
                  have hB := hB.trans (Bes.of_bel ((Bel.refl W20).drewN m))
                  generalize World.drewN W20 m = W21 at h hB ⊢
                  go_wp2_with fail
                  refine (G6.out _ h).mono ?_
                  rintro e W22 ⟨rfl, m, rfl⟩
                  have h := Box.drewN h m
                  have hB := hB.trans (Bes.of_bel ((Bel.refl W21).drewN m))
                  generalize World.drewN W21 m = W22 at h hB ⊢
                  have c2 := Box.cell h 2 _ rfl
                  have f2 := Box.frozen h 2
                  go_wp2_with fail
                  go_ret
                  exact ⟨rfl, ⟨k + 1, by omega, by rw [show (k : Int) + 1 = ((k + 1 : Nat) : Int) by omega]; exact Lk.move h (k + 1), by rw [← HE.out, List.drop_drop]⟩, hB.setCell 2 _⟩
end Go.Proofs.YthaoohckgilahaaDoor

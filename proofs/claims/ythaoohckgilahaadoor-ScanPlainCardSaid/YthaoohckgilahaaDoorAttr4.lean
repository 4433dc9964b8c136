/-
  Package attr: ready, Next, From, All.
-/
import Derived.Test.YthaoohckgilahaaDoorAttr3
import Derived.Test.YthaoohckgilahaaDoorBaseA
namespace Go.Proofs.YthaoohckgilahaaDoor
open Go.RowKit
set_option maxRecDepth 1000000

def readyA (s : List UInt8) (at_ : Int) : Int := if 3000 < s.length then 2 else if at_ < 0 ∨ (s.length : Int) < at_ then 3 else 0
theorem readyA_cases (s : ByteArray) (at_ : Int) : (readyA s.data.toList at_ = 2 ∧ 3000 < s.size) ∨ (readyA s.data.toList at_ = 3 ∧ s.size ≤ 3000 ∧ (at_ < 0 ∨ (s.size : Int) < at_)) ∨ (readyA s.data.toList at_ = 0 ∧ s.size ≤ 3000 ∧ ∃ k : Nat, at_ = (k : Int) ∧ k ≤ s.size) := by
  unfold readyA
  rw [← Lib.size_eq]
  by_cases h : 3000 < s.size
  · exact .inl ⟨by rw [if_pos h], h⟩
  · rw [if_neg h]
    by_cases h2 : at_ < 0 ∨ (s.size : Int) < at_
    · exact .inr (.inl ⟨by rw [if_pos h2], by omega, h2⟩)
    · exact .inr (.inr ⟨by rw [if_neg h2], by omega, at_.toNat, by omega, by omega⟩)
theorem ready_any (s : ByteArray) (at_ : Int) (w : World) : Calls Tryd.prog 25 #[.string s, .int .i64 at_] w fun e w' => e = .returned (.int .i64 (readyA s.data.toList at_)) ∧ w = w' := by
  rcases readyA_cases s at_ with ⟨h1, h2⟩ | ⟨h1, h2, h3⟩ | ⟨h1, h2, k, rfl, h3⟩
  · have H := Lib.hid h1
    clear h1
    go_enter Tryd.func25, Tryd.ntmps25
    go_wp2_with fail
    go_ret
    exact ⟨by rw [H.out]; rfl, rfl⟩
  · have H := Lib.hid h1
    clear h1
    by_cases h4 : at_ < 0
    · clear h3
      go_enter Tryd.func25, Tryd.ntmps25
      go_wp2_with fail
      go_ret
      exact ⟨by rw [H.out]; rfl, rfl⟩
    · have h5 : (s.size : Int) < at_ := by omega
      clear h3
      go_enter Tryd.func25, Tryd.ntmps25
      go_wp2_with fail
      go_ret
      exact ⟨by rw [H.out]; rfl, rfl⟩
  · have H := Lib.hid h1
    clear h1
    go_enter Tryd.func25, Tryd.ntmps25
    go_wp2_with fail
    go_ret
    exact ⟨by rw [H.out]; rfl, rfl⟩
theorem at_of (s : ByteArray) (k : Nat) (hk : k ≤ s.size) (r : List UInt8) (h : s.data.toList.drop k = r) : k = s.size - r.length := by
  have := congrArg List.length h
  rw [List.length_drop, ← Lib.size_eq] at this
  omega
theorem nextBad_any (s : ByteArray) (at_ : Int) (x : Int) (hx : (x != 0) = true) (h : readyA s.data.toList at_ = x) (w : World) : Calls Tryd.prog 8 #[.string s, .int .i64 at_] w fun e w' => e = .returned (.tuple #[agA none, .int .i64 0, .bool false, .int .i64 x]) ∧ Bel w w' := by
  have H := Lib.hid h
  clear h
  have hy := Box.new w 23 [.string ⟨#[]⟩, .string ⟨#[]⟩]
  have cy0 := hy.cell 0 _ rfl
  have cy1 := hy.cell 1 _ rfl
  have fy0 := hy.frozen 0
  have fy1 := hy.frozen 1
  go_enter Tryd.func8, Tryd.ntmps8
  go_wp2_with (go_at_call 25; refine (ready_any s at_ _).mono ?_; rintro e w' ⟨rfl, rfl⟩; rw [H.out])
  exact bodyPost_ret (v := .tuple #[.agg #[.string ⟨#[]⟩, .string ⟨#[]⟩], .int .i64 0, .bool false, .int .i64 x]) (by simp [results, Tryd.results8, go_sem, cy0, cy1]) rfl ⟨rfl, (Bel.refl w).alloc _⟩
theorem nextOk_any (s : ByteArray) (k : Nat) (hk : k ≤ s.size) (hs : s.size ≤ 3000) (o : Option (List UInt8 × List UInt8)) (r : List UInt8) (hn : M.nextA (s.data.toList.drop k) = (o, r)) (h : readyA s.data.toList (k : Int) = 0) (w : World) : Calls Tryd.prog 8 #[.string s, .int .i64 (k : Int)] w fun e w' => e = .returned (.tuple #[agA o, .int .i64 ((s.size - r.length : Nat) : Int), .bool o.isSome, .int .i64 0]) ∧ Bel w w' := by
  have H := Lib.hid h
  have HN := Lib.hid hn
  clear h hn
  have hy : Box ((w.alloc (.cells #[.string ⟨#[]⟩, .string ⟨#[]⟩] 23)).alloc (.cells #[.string s, .int .i64 (k : Int)] 50)) w.heap.size 23 [.string ⟨#[]⟩, .string ⟨#[]⟩] := (Box.new w 23 [.string ⟨#[]⟩, .string ⟨#[]⟩]).bel ((Bel.refl _).alloc _)
  have hr : Rd ((w.alloc (.cells #[.string ⟨#[]⟩, .string ⟨#[]⟩] 23)).alloc (.cells #[.string s, .int .i64 (k : Int)] 50)) (w.heap.size + 1) s k := by
    have := Box.new (w.alloc (.cells #[.string ⟨#[]⟩, .string ⟨#[]⟩] 23)) 50 [.string s, .int .i64 (k : Int)]
    rwa [World.size_alloc] at this
  have hb0 : Bel w ((w.alloc (.cells #[.string ⟨#[]⟩, .string ⟨#[]⟩] 23)).alloc (.cells #[.string s, .int .i64 (k : Int)] 50)) := ((Bel.refl w).alloc _).alloc _
  go_enter Tryd.func8, Tryd.ntmps8
  go_wp2_with (go_at_call 25; refine (ready_any s k _).mono ?_; rintro e w' ⟨rfl, rfl⟩; rw [H.out])
  generalize ((w.alloc (.cells #[.string ⟨#[]⟩, .string ⟨#[]⟩] 23)).alloc (.cells #[.string s, .int .i64 (k : Int)] 50)) = W0 at *
  have nx := next_any (w.heap.size + 1) s k _ W0 hr hk rfl (by omega)
  rw [HN.out] at nx
  refine nx.mono ?_
  rintro e W1 ⟨rfl, k1, hk1, hr1, hl1, hB1⟩
  have hy1 := hB1.box hy (by omega)
  have hb1 : Bel w W1 := hB1.bel hb0 (by omega)
  have hk2 := at_of s k1 hk1 r hl1
  clear hy hr hb0 hB1 nx
  obtain ⟨a1, ha1⟩ : ∃ a1 : ByteArray, a1 = ⟨(o.getD ([], [])).1.toArray⟩ := ⟨_, rfl⟩
  obtain ⟨a2, ha2⟩ : ∃ a2 : ByteArray, a2 = ⟨(o.getD ([], [])).2.toArray⟩ := ⟨_, rfl⟩
  have hag : agA o = .agg #[.string a1, .string a2] := by rw [ha1, ha2]; rfl
  rw [hag]
  obtain ⟨b, hb⟩ : ∃ b, o.isSome = b := ⟨_, rfl⟩
  rw [hb]
  have HAG := Lib.hid hag
  have HB := Lib.hid hb
  have HK := Lib.hid hk2
  clear ha1 ha2 hag hb hk2
  go_wp2_with fail
  have hz : Box (W1.alloc (.cells #[.string a1, .string a2] 23)) W1.heap.size 23 [.string a1, .string a2] := Box.new W1 23 [.string a1, .string a2]
  have hbb : Bel W1 (W1.alloc (.cells #[.string a1, .string a2] 23)) := (Bel.refl W1).alloc _
  have hy2 := hy1.bel hbb
  have hr2 := hr1.bel hbb
  have hb2 := hb1.trans hbb
  have hne1 : W1.heap.size ≠ w.heap.size := by have := hy1.lt; omega
  have hne2 : W1.heap.size ≠ w.heap.size + 1 := by have := Box.lt hr1; omega
  have hne3 : w.heap.size ≠ w.heap.size + 1 := by omega
  clear hy1 hr1 hb1 hbb
  generalize (W1.alloc (.cells #[.string a1, .string a2] 23)) = W2 at *
  generalize W1.heap.size = G at *
  have z0 := hz.cell 0 _ rfl
  have z1 := hz.cell 1 _ rfl
  have r1 := Box.cell hr2 1 _ rfl
  have y0 := hy2.cell 0 _ rfl
  have y1 := hy2.cell 1 _ rfl
  have f0 := hy2.frozen 0
  have f1 := hy2.frozen 1
  go_region
  have hy3 := (hy2.set 0 (.string a1)).set 1 (.string a2)
  have d0 := hy3.cell 0 _ rfl
  have d1 := hy3.cell 1 _ rfl
  go_wp2_with fail
  refine bodyPost_ret (v := .tuple #[.agg #[.string a1, .string a2], .int .i64 (k1 : Int), .bool b, .int .i64 0]) (by simp [results, Tryd.results8, go_sem, d0, d1]) rfl ?_
  rw [HAG.out, HB.out, ← HK.out]
  exact ⟨rfl, ((hb2.setCell (p := ⟨w.heap.size, 0, none⟩) (Nat.le_refl _) _).setCell (p := ⟨w.heap.size, 1, none⟩) (Nat.le_refl _) _).drew⟩
theorem attrsA_len (l : List UInt8) : (M.attrsA l).1.length ≤ l.length := (M.attrsA_suf l.length l (Nat.le_refl _)).2
theorem from_any (s : ByteArray) (k : Nat) (hk : k ≤ s.size) (hs : s.size ≤ 3000) (xs : List (List UInt8 × List UInt8)) (r : List UInt8) (hn : M.attrsA (s.data.toList.drop k) = (xs, r)) (w : World) : Calls Tryd.prog 27 #[.string s, .int .i64 (k : Int)] w fun e w' => ∃ v, e = .returned (.tuple #[v, .int .i64 ((s.size - r.length : Nat) : Int)]) ∧ OwnA w.heap.size w' v xs ∧ Bel w w' := by
  have HN := Lib.hid hn
  have hr0 : Rd (w.alloc (.cells #[.string s, .int .i64 (k : Int)] 50)) w.heap.size s k := Box.new w 50 [.string s, .int .i64 (k : Int)]
  have hb0 : Bel w (w.alloc (.cells #[.string s, .int .i64 (k : Int)] 50)) := (Bel.refl w).alloc _
  clear hn
  go_enter Tryd.func27, Tryd.ntmps27
  go_wp2_with fail
  go_loopg [7] (s.size + 1) (fun gg v wr => ∃ (j : Nat) (ys : List (List UInt8 × List UInt8)), j ≤ s.size ∧ s.size - j ≤ gg ∧ Rd wr w.heap.size s j ∧ OwnA (w.heap.size + 1) wr v ys ∧ ys.length + (s.size - j) ≤ s.size ∧ Bel w wr ∧ Hid ((xs, r) = (ys ++ (M.attrsA (s.data.toList.drop j)).1, (M.attrsA (s.data.toList.drop j)).2)))
  case atStart => exact ⟨k, [], hk, by omega, hr0, OwnA.nil _ _, by simp, hb0, Lib.hid (by rw [HN.out]; rfl)⟩
  case round =>
    clear hr0 hb0 hk
    obtain ⟨j, ys, hj, hg, hr, hown, hyl, hb, HJ⟩ := hrel
    have hrl := Box.lt hr
    cases hn : M.nextA (s.data.toList.drop j) with
    | mk o r2 =>
      have nx := next_any w.heap.size s j _ wr hr hj rfl (by omega)
      rw [hn] at nx
      cases o with
      | none =>
        have HA := Lib.hid (M.attrsA_none _ _ hn)
        clear hn
        go_wp2_with fail
        refine nx.mono ?_
        rintro e W1 ⟨rfl, k1, hk1, hr1, hl1, hB1⟩
        have hk2 := at_of s k1 hk1 r2 hl1
        have hlt := Box.lt hr1
        have c1 := Box.cell hr1 1 _ rfl
        have HR := Lib.hid (show (xs, r) = (ys, r2) by have := HJ.out; rw [HA.out] at this; simpa using this)
        have hown1 : OwnA w.heap.size W1 u7 ys := (hown.keep (fun kk hkk => hB1.block kk (hown.lt kk hkk).2 (by have := (hown.lt kk hkk).1; omega))).mono (by omega)
        have hb1 : Bel w W1 := hB1.bel hb (Nat.le_refl _)
        clear nx hr hown hB1 hl1 hr1
        rw [show agA none = .agg #[.string ⟨#[]⟩, .string ⟨#[]⟩] from rfl, show (none : Option (List UInt8 × List UInt8)).isSome = false from rfl]
        go_wp2_with fail
        have c2 : (W1.alloc (.cells #[.string ⟨#[]⟩, .string ⟨#[]⟩] 23)).cell? ⟨w.heap.size, 1, none⟩ = some (.int .i64 (k1 : Int)) := (((Bel.refl W1).alloc _).cell (p := ⟨w.heap.size, 1, none⟩) hlt).trans c1
        have hbb : Bel W1 (W1.alloc (.cells #[.string ⟨#[]⟩, .string ⟨#[]⟩] 23)) := (Bel.refl W1).alloc _
        have hown2 := hown1.bel hbb
        have hb2 := hb1.trans hbb
        clear hown1 hb1 hbb c1
        generalize (W1.alloc (.cells #[.string ⟨#[]⟩, .string ⟨#[]⟩] 23)) = W2 at *
        generalize W1.heap.size = G at *
        go_quiet (fail)
        go_wp2_with fail
        go_ret2
        have h3 := HR.out
        injection h3 with h3 h4
        subst h3; subst h4
        rw [← hk2]
        exact ⟨_, rfl, hown2.bel ((Bel.refl W2).drewN _), hb2.drewN _⟩
      | some p =>
        have HA := Lib.hid (M.attrsA_some _ _ _ hn)
        have hless := M.nextA_less _ _ (by rw [hn])
        rw [hn] at hless
        have hless2 : r2.length < (s.data.toList.drop j).length := hless
        rw [List.length_drop, ← Lib.size_eq] at hless2
        clear hn hless
        go_wp2_with fail
        refine nx.mono ?_
        rintro e W1 ⟨rfl, k1, hk1, hr1, hl1, hB1⟩
        have hl1 : s.data.toList.drop k1 = r2 := hl1
        have hk2 := at_of s k1 hk1 r2 hl1
        have hlt := Box.lt hr1
        have HR := Lib.hid (show (xs, r) = (ys ++ [p] ++ (M.attrsA (s.data.toList.drop k1)).1, (M.attrsA (s.data.toList.drop k1)).2) by
          have := HJ.out
          rw [HA.out] at this
          rw [hl1, this]; simp)
        have hown1 : OwnA (w.heap.size + 1) W1 u7 ys := hown.keep (fun kk hkk => hB1.block kk (hown.lt kk hkk).2 (by have := (hown.lt kk hkk).1; omega))
        have hb1 : Bel w W1 := hB1.bel hb (Nat.le_refl _)
        clear nx hr hown hB1 HJ
        rw [show agA (some p) = .agg #[.string ⟨p.1.toArray⟩, .string ⟨p.2.toArray⟩] from rfl, show (some p).isSome = true from rfl]
        have hbb : Bel W1 (W1.alloc (.cells #[.string ⟨p.1.toArray⟩, .string ⟨p.2.toArray⟩] 23)) := (Bel.refl W1).alloc _
        have hsz : (W1.alloc (.cells #[.string ⟨p.1.toArray⟩, .string ⟨p.2.toArray⟩] 23)).heap.size = W1.heap.size + 1 := World.size_alloc _ _
        have hown2 := hown1.bel hbb
        go_wp2_with (at_builtin; refine wpList_appA (.tmp 26) (.tmp 28) rfl (w.heap.size + 1) u7 ys p hown2 (by omega) (by rw [hsz]; omega) rfl (by rw [hsz]; rfl) rfl ?_; intro v' w5 hown5 hb5 hk5)
        have hr5 : Rd w5 w.heap.size s k1 := Box.upto (hr1.bel hbb) hb5 (by omega)
        have hb6 : Bel w w5 := Bel.upto (hb1.trans hbb) hb5 (by omega)
        go_roundg (s.size - k1)
        case measure => omega
        case rel => exact ⟨k1, ys ++ [p], hk1, Nat.le_refl _, hr5, hown5, by rw [List.length_append, List.length_singleton]; omega, hb6, HR⟩
end Go.Proofs.YthaoohckgilahaaDoor

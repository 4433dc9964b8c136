/-
  The document's answers on attributes: beginsAt, AttrsAt.
-/
import Derived.Test.YthaoohckgilahaaDoorRAttr
import Derived.Test.YthaoohckgilahaaDoorAttr5
namespace Go.Proofs.YthaoohckgilahaaDoor
open Go.RowKit
set_option maxRecDepth 1000000

theorem prefix_take (l p : List UInt8) (h : p.length ≤ l.length) : Lib.hasPrefix l p = (l.take p.length == p) := by
  have := Lib.occAt_iff_take l p 0 (by omega)
  rw [List.drop_zero] at this
  rw [← this]
  rfl
theorem prefix_short (l p : List UInt8) (h : l.length < p.length) : Lib.hasPrefix l p = false := by
  cases hp : Lib.hasPrefix l p with
  | false => rfl
  | true =>
    have h1 : Lib.occAt l p 0 = true := hp
    rcases Lib.occAt_room h1 with h2 | h2
    · omega
    · rw [h2] at h; simp at h
theorem beginsAt_any (s wd : ByteArray) (k : Nat) (hk : k ≤ s.size) (hs : s.size ≤ 3000) (w : World) : Calls Tryd.prog 29 #[.string s, .int .i64 (k : Int), .string wd] w fun e w' => e = .returned (.bool (Lib.hasPrefix (M.fold (s.data.toList.drop k)) wd.data.toList)) ∧ Bel w w' := by
  have hll : (M.fold (s.data.toList.drop k)).length = s.size - k := by rw [M.fold_len, List.length_drop, ← Lib.size_eq]
  by_cases h : wd.size ≤ s.size - k
  · have HB := Lib.hid (show Lib.hasPrefix (M.fold (s.data.toList.drop k)) wd.data.toList = (M.fold (List.take wd.size (List.drop k s.data.toList)) == wd.toList) by
      rw [prefix_take _ _ (by rw [hll, ← Lib.size_eq]; exact h), Lib.toList_data, ← Lib.size_eq]
      unfold M.fold
      rw [List.map_take])
    have hes : (s.extract k (k + wd.size)).size ≤ 68719476735 := by rw [cut_str, size_str, List.length_take, List.length_drop, ← Lib.size_eq]; omega
    have hge : (wd.size : Int) ≤ (s.size : Int) - (k : Int) := by omega
    clear hll
    go_enter Tryd.func29, Tryd.ntmps29
    go_wp2_with (go_at_call 32; refine (foldOf_any _ _ hes).mono ?_; rintro e w' ⟨rfl, hb⟩)
    go_ret
    exact ⟨by rw [HB.out]; rfl, hb⟩
  · have HB := Lib.hid (show Lib.hasPrefix (M.fold (s.data.toList.drop k)) wd.data.toList = false from prefix_short _ _ (by rw [hll, ← Lib.size_eq]; omega))
    have hge : ¬ (wd.size : Int) ≤ (s.size : Int) - (k : Int) := by omega
    clear hll
    go_enter Tryd.func29, Tryd.ntmps29
    go_wp2_with fail
    go_ret
    exact ⟨by rw [HB.out]; rfl, Bel.refl _⟩
set_option maxHeartbeats 2000000 in
theorem attrsAt_any (s : ByteArray) (k : Nat) (hk : k ≤ s.size) (hs : s.size ≤ 3000) (xs : List (List UInt8 × List UInt8)) (r : List UInt8) (hn : M.attrsA (s.data.toList.drop k) = (xs, r)) (w : World) : Calls Tryd.prog 14 #[.string s, .int .i64 (k : Int)] w fun e w' => ∃ v, e = .returned (.tuple #[v, .int .i64 ((s.size - r.length : Nat) : Int)]) ∧ OwnA w.heap.size w' v xs ∧ Bel w w' := by
  have HN := Lib.hid hn
  clear hn
  go_enter Tryd.func14, Tryd.ntmps14
  go_wp2_with fail
  go_loopg [1, 6] (s.size + 1) (fun gg at_ v wr => ∃ (j : Nat) (ys : List (List UInt8 × List UInt8)), at_ = .int .i64 (j : Int) ∧ j ≤ s.size ∧ s.size - j ≤ gg ∧ OwnA w.heap.size wr v ys ∧ ys.length + (s.size - j) ≤ s.size ∧ Bel w wr ∧ Hid ((xs, r) = (ys ++ (M.attrsA (s.data.toList.drop j)).1, (M.attrsA (s.data.toList.drop j)).2)))
  case atStart => exact ⟨k, [], rfl, hk, by omega, OwnA.nil _ _, by simp, Bel.refl _, Lib.hid (by rw [HN.out]; rfl)⟩
  case round =>
    clear hk
    obtain ⟨j, ys, rfl, hj, hg, hown, hyl, hb, HJ⟩ := hrel
    cases hn : M.nextA (s.data.toList.drop j) with
    | mk o r2 =>
      have nx := attrAt_any s j hj hs o r2 hn wr
      have hsuf := M.nextA_suf (s.data.toList.drop j)
      rw [hn] at hsuf
      have hsuf2 := M.Suf.trans (a := r2) hsuf (M.Suf.drop s.data.toList j)
      have hrl2 := hsuf2.len
      rw [← Lib.size_eq] at hrl2
      have hd2 : s.data.toList.drop (s.size - r2.length) = r2 := by
        have h9 := hsuf2.at
        rw [← Lib.size_eq] at h9
        exact h9.symm
      obtain ⟨k2, hk2⟩ : ∃ k2, s.size - r2.length = k2 := ⟨_, rfl⟩
      rw [hk2] at nx hd2
      clear hsuf hsuf2
      cases o with
      | none =>
        have HA := Lib.hid (M.attrsA_none _ _ hn)
        have HR := Lib.hid (show (xs, r) = (ys, r2) by have := HJ.out; rw [HA.out] at this; simpa using this)
        have HK := Lib.hid hk2
        clear hn hk2 hd2
        rw [show agA none = .agg #[.string ⟨#[]⟩, .string ⟨#[]⟩] from rfl, show (none : Option (List UInt8 × List UInt8)).isSome = false from rfl] at nx
        go_wp2_with fail
        refine nx.mono ?_
        rintro e W1 ⟨rfl, hb1⟩
        have hown1 := hown.bel hb1
        have hb2 := hb.trans hb1
        clear nx hown
        go_wp2_with fail
        go_ret2
        have h3 := HR.out
        injection h3 with h3 h4
        subst h3; subst h4
        rw [HK.out]
        exact ⟨_, rfl, hown1.bel ((Bel.refl W1).alloc _), hb2.alloc _⟩
      | some p =>
        have HA := Lib.hid (M.attrsA_some _ _ _ hn)
        have hless := M.nextA_less _ _ (by rw [hn])
        rw [hn] at hless
        have hless2 : r2.length < (s.data.toList.drop j).length := hless
        rw [List.length_drop, ← Lib.size_eq] at hless2
        have HR := Lib.hid (show (xs, r) = (ys ++ [p] ++ (M.attrsA (s.data.toList.drop k2)).1, (M.attrsA (s.data.toList.drop k2)).2) by
          have := HJ.out
          rw [HA.out] at this
          rw [hd2, this]; simp)
        have hk2l : k2 ≤ s.size := by omega
        have hk2g : s.size - k2 < s.size - j := by omega
        clear hn hless hk2 hd2 hless2 hrl2 HJ
        rw [show agA (some p) = .agg #[.string ⟨p.1.toArray⟩, .string ⟨p.2.toArray⟩] from rfl, show (some p).isSome = true from rfl] at nx
        go_wp2_with fail
        refine nx.mono ?_
        rintro e W1 ⟨rfl, hb1⟩
        have hown1 := hown.bel hb1
        have hb2 := hb.trans hb1
        clear nx hown
        have hbb : Bel W1 (W1.alloc (.cells #[.string ⟨p.1.toArray⟩, .string ⟨p.2.toArray⟩] 23)) := (Bel.refl W1).alloc _
        have hsz : (W1.alloc (.cells #[.string ⟨p.1.toArray⟩, .string ⟨p.2.toArray⟩] 23)).heap.size = W1.heap.size + 1 := World.size_alloc _ _
        have hown2 := hown1.bel hbb
        have hbs := hb2.size
        go_wp2_with (at_builtin; refine wpList_appA (.tmp 22) (.tmp 24) rfl w.heap.size _ ys p hown2 (by omega) (by rw [hsz]; omega) rfl (by rw [hsz]; rfl) rfl ?_; intro v' w5 hown5 hb5 hk5)
        have hb6 : Bel w w5 := Bel.upto (hb2.trans hbb) hb5 (Nat.le_refl _)
        go_roundg (s.size - k2)
        case measure => omega
        case rel => exact ⟨k2, ys ++ [p], rfl, hk2l, Nat.le_refl _, hown5, by rw [List.length_append, List.length_singleton]; omega, hb6, HR⟩
end Go.Proofs.YthaoohckgilahaaDoor

/-
  Texts of the proof, laid together: RAttr3, RChar, RScan1, Scan2, Scan3, PlainScan2. No condition of its own.
-/
import Derived.Test.YthaoohckgilahaaDoorG4
import Derived.Test.YthaoohckgilahaaDoorG3
import Derived.Deep.CutBlock
import Derived.Deep.Cut
import Derived.Deep.CutRange
import Derived.BigRegion

/-
  The document's answers on attributes: beginsAt, AttrsAt.
-/
namespace Go.Proofs.YthaoohckgilahaaDoor
open Go.RowKit
set_option maxRecDepth 1000000

theorem prefix_take (l p : List UInt8) (h : p.length ≤ l.length) : Lib.hasPrefix l p = (l.take p.length == p) := by
  have := Lib.occAt_iff_take l p 0 (by omega)
  rw [List.drop_zero] at this
  rw [← this]
  rfl
theorem prefix_short (l p : List UInt8) (h : l.length < p.length) : Lib.hasPrefix l p = false := by
  cases hp : Lib.hasPrefix l p with
  | false => rfl
  | true =>
    have h1 : Lib.occAt l p 0 = true := hp
    rcases Lib.occAt_room h1 with h2 | h2
    · omega
    · rw [h2] at h; simp at h
theorem beginsAt_any (s wd : ByteArray) (k : Nat) (hk : k ≤ s.size) (hs : s.size ≤ 3000) (w : World) : Calls Tryd.prog 29 #[.string s, .int .i64 (k : Int), .string wd] w fun e w' => e = .returned (.bool (Lib.hasPrefix (M.fold (s.data.toList.drop k)) wd.data.toList)) ∧ Bel w w' := by
  have hll : (M.fold (s.data.toList.drop k)).length = s.size - k := by rw [M.fold_len, List.length_drop, ← Lib.size_eq]
  by_cases h : wd.size ≤ s.size - k
  · have HB := Lib.hid (show Lib.hasPrefix (M.fold (s.data.toList.drop k)) wd.data.toList = (M.fold (List.take wd.size (List.drop k s.data.toList)) == wd.toList) by
      rw [prefix_take _ _ (by rw [hll, ← Lib.size_eq]; exact h), Lib.toList_data, ← Lib.size_eq]
      unfold M.fold
      rw [List.map_take])
    have hes : (s.extract k (k + wd.size)).size ≤ 68719476735 := by rw [cut_str, size_str, List.length_take, List.length_drop, ← Lib.size_eq]; omega
    have hge : (wd.size : Int) ≤ (s.size : Int) - (k : Int) := by omega
    clear hll
    go_enter Tryd.func29, Tryd.ntmps29
    go_wp2_with (go_at_call 32; refine (foldOf_any _ _ hes).mono ?_; rintro e w' ⟨rfl, hb⟩)
    go_ret
    exact ⟨by rw [HB.out]; rfl, hb⟩
  · have HB := Lib.hid (show Lib.hasPrefix (M.fold (s.data.toList.drop k)) wd.data.toList = false from prefix_short _ _ (by rw [hll, ← Lib.size_eq]; omega))
    have hge : ¬ (wd.size : Int) ≤ (s.size : Int) - (k : Int) := by omega
    clear hll
    go_enter Tryd.func29, Tryd.ntmps29
    go_wp2_with fail
    go_ret
    exact ⟨by rw [HB.out]; rfl, Bel.refl _⟩
set_option maxHeartbeats 2000000 in
theorem attrsAt_any (s : ByteArray) (k : Nat) (hk : k ≤ s.size) (hs : s.size ≤ 3000) (xs : List (List UInt8 × List UInt8)) (r : List UInt8) (hn : M.attrsA (s.data.toList.drop k) = (xs, r)) (w : World) : Calls Tryd.prog 14 #[.string s, .int .i64 (k : Int)] w fun e w' => ∃ v, e = .returned (.tuple #[v, .int .i64 ((s.size - r.length : Nat) : Int)]) ∧ OwnA w.heap.size w' v xs ∧ Bel w w' := by
  have HN := Lib.hid hn
  clear hn
  go_enter Tryd.func14, Tryd.ntmps14
  go_wp2_with fail
  go_loopg [1, 6] (s.size + 1) (fun gg at_ v wr => ∃ (j : Nat) (ys : List (List UInt8 × List UInt8)), at_ = .int .i64 (j : Int) ∧ j ≤ s.size ∧ s.size - j ≤ gg ∧ OwnA w.heap.size wr v ys ∧ ys.length + (s.size - j) ≤ s.size ∧ Bel w wr ∧ Hid ((xs, r) = (ys ++ (M.attrsA (s.data.toList.drop j)).1, (M.attrsA (s.data.toList.drop j)).2)))
  case atStart => exact ⟨k, [], rfl, hk, by omega, OwnA.nil _ _, by simp, Bel.refl _, Lib.hid (by rw [HN.out]; rfl)⟩
  case round =>
    clear hk
    obtain ⟨j, ys, rfl, hj, hg, hown, hyl, hb, HJ⟩ := hrel
    cases hn : M.nextA (s.data.toList.drop j) with
    | mk o r2 =>
      have nx := attrAt_any s j hj hs o r2 hn wr
      have hsuf := M.nextA_suf (s.data.toList.drop j)
      rw [hn] at hsuf
      have hsuf2 := M.Suf.trans (a := r2) hsuf (M.Suf.drop s.data.toList j)
      have hrl2 := hsuf2.len
      rw [← Lib.size_eq] at hrl2
      have hd2 : s.data.toList.drop (s.size - r2.length) = r2 := by
        have h9 := hsuf2.at
        rw [← Lib.size_eq] at h9
        exact h9.symm
      obtain ⟨k2, hk2⟩ : ∃ k2, s.size - r2.length = k2 := ⟨_, rfl⟩
      rw [hk2] at nx hd2
      clear hsuf hsuf2
      cases o with
      | none =>
        have HA := Lib.hid (M.attrsA_none _ _ hn)
        have HR := Lib.hid (show (xs, r) = (ys, r2) by have := HJ.out; rw [HA.out] at this; simpa using this)
        have HK := Lib.hid hk2
        clear hn hk2 hd2
        rw [show agA none = .agg #[.string ⟨#[]⟩, .string ⟨#[]⟩] from rfl, show (none : Option (List UInt8 × List UInt8)).isSome = false from rfl] at nx
        go_wp2_with fail
        refine nx.mono ?_
        rintro e W1 ⟨rfl, hb1⟩
        have hown1 := hown.bel hb1
        have hb2 := hb.trans hb1
        clear nx hown
        go_wp2_with fail
        go_ret2
        have h3 := HR.out
        injection h3 with h3 h4
        subst h3; subst h4
        rw [HK.out]
        exact ⟨_, rfl, hown1.bel ((Bel.refl W1).alloc _), hb2.alloc _⟩
      | some p =>
        have HA := Lib.hid (M.attrsA_some _ _ _ hn)
        have hless := M.nextA_less _ _ (by rw [hn])
        rw [hn] at hless
        have hless2 : r2.length < (s.data.toList.drop j).length := hless
        rw [List.length_drop, ← Lib.size_eq] at hless2
        have HR := Lib.hid (show (xs, r) = (ys ++ [p] ++ (M.attrsA (s.data.toList.drop k2)).1, (M.attrsA (s.data.toList.drop k2)).2) by
          have := HJ.out
          rw [HA.out] at this
          rw [hd2, this]; simp)
        have hk2l : k2 ≤ s.size := by omega
        have hk2g : s.size - k2 < s.size - j := by omega
        clear hn hless hk2 hd2 hless2 hrl2 HJ
        rw [show agA (some p) = .agg #[.string ⟨p.1.toArray⟩, .string ⟨p.2.toArray⟩] from rfl, show (some p).isSome = true from rfl] at nx
        go_wp2_with fail
        refine nx.mono ?_
        rintro e W1 ⟨rfl, hb1⟩
        have hown1 := hown.bel hb1
        have hb2 := hb.trans hb1
        clear nx hown
        have hbb : Bel W1 (W1.alloc (.cells #[.string ⟨p.1.toArray⟩, .string ⟨p.2.toArray⟩] 23)) := (Bel.refl W1).alloc _
        have hsz : (W1.alloc (.cells #[.string ⟨p.1.toArray⟩, .string ⟨p.2.toArray⟩] 23)).heap.size = W1.heap.size + 1 := World.size_alloc _ _
        have hown2 := hown1.bel hbb
        have hbs := hb2.size
        go_wp2_with (at_builtin; refine wpList_appA (.tmp 22) (.tmp 24) rfl w.heap.size _ ys p hown2 (by omega) (by rw [hsz]; omega) rfl (by rw [hsz]; rfl) rfl ?_; intro v' w5 hown5 hb5 hk5)
        have hb6 : Bel w w5 := Bel.upto (hb2.trans hbb) hb5 (Nat.le_refl _)
        go_roundg (s.size - k2)
        case measure => omega
        case rel => exact ⟨k2, ys ++ [p], rfl, hk2l, Nat.le_refl _, hown5, by rw [List.length_append, List.length_singleton]; omega, hb6, HR⟩
end Go.Proofs.YthaoohckgilahaaDoor

/-
  The document's answers on attributes: CharsetOf.
-/
namespace Go.Proofs.YthaoohckgilahaaDoor
open Go.RowKit
set_option maxRecDepth 1000000

theorem pre_room (l : List UInt8) (h : Lib.hasPrefix (M.fold l) M.charset7 = true) : 7 ≤ l.length := by
  have h1 : Lib.occAt (M.fold l) M.charset7 0 = true := h
  rcases Lib.occAt_room h1 with h2 | h2
  · rw [M.fold_len] at h2
    have : M.charset7.length = 7 := rfl
    omega
  · cases h2
theorem charOf_quote (l u : List UInt8) (q : UInt8) (h : l.dropWhile M.white = q :: u) (hq : q = 34 ∨ q = 39) (o : Option (List UInt8)) (ho : (M.quotedA q u).1 = o) : M.charOf l = o.elim 0 M.find := by
  subst ho
  rw [M.charOf, h]
  simp only
  rw [if_pos hq]
  cases (M.quotedA q u).1 <;> rfl
theorem char_found (s : ByteArray) (k1 k2 j : Nat) (hk : k2 < s.size) (hlt : j < s.size) (hQ : (s.data.toList.drop (k1 + 1)).dropWhile M.white = s[k2] :: s.data.toList.drop (k2 + 1)) (hqq : s[k2] = 34 ∨ s[k2] = 39)
    (hJ : (s.data.toList.drop j).dropWhile (fun c => c != s[k2]) = (s.data.toList.drop (k2 + 1)).dropWhile (fun c => c != s[k2]))
    (hT : (s.data.toList.drop (k2 + 1)).takeWhile (fun c => c != s[k2]) = (s.data.toList.drop (k2 + 1)).take (j - (k2 + 1)) ++ (s.data.toList.drop j).takeWhile (fun c => c != s[k2])) (hq : ((s[j].toNat : Int) == (s[k2].toNat : Int)) = true) :
    M.charOf (s.data.toList.drop (k1 + 1)) = M.find ((s.data.toList.drop (k2 + 1)).take (j - (k2 + 1))) := by
  have he : ((fun c => c != s[k2]) s[j]) = false := by show (s[j] != s[k2]) = false; rw [not_int]; simpa using hq
  have h1 : (s.data.toList.drop j).dropWhile (fun c => c != s[k2]) = s[j] :: s.data.toList.drop (j + 1) := by rw [drop_cons s j hlt, List.dropWhile_cons_of_neg (p := fun c => c != s[k2]) (fun h9 => Bool.noConfusion (h9.symm.trans he))]
  have h2 : (s.data.toList.drop j).takeWhile (fun c => c != s[k2]) = [] := by rw [drop_cons s j hlt, List.takeWhile_cons_of_neg (p := fun c => c != s[k2]) (fun h9 => Bool.noConfusion (h9.symm.trans he))]
  refine (charOf_quote _ _ _ hQ hqq (some ((s.data.toList.drop (k2 + 1)).take (j - (k2 + 1)))) ?_).trans rfl
  rw [M.quotedA, ← hJ, h1, hT, h2, List.append_nil]
theorem char_open (s : ByteArray) (k1 k2 : Nat) (hk : k2 < s.size) (hQ : (s.data.toList.drop (k1 + 1)).dropWhile M.white = s[k2] :: s.data.toList.drop (k2 + 1)) (hqq : s[k2] = 34 ∨ s[k2] = 39)
    (hJ : (s.data.toList.drop s.size).dropWhile (fun c => c != s[k2]) = (s.data.toList.drop (k2 + 1)).dropWhile (fun c => c != s[k2])) : M.charOf (s.data.toList.drop (k1 + 1)) = 0 := by
  refine (charOf_quote _ _ _ hQ hqq none ?_).trans rfl
  rw [M.quotedA, ← hJ, drop_end]
  rfl
theorem find_more (s : ByteArray) (k2 j : Nat) (hk : k2 < s.size) (hlt : j < s.size) (hkj : k2 + 1 ≤ j) (hq : ((s[j].toNat : Int) == (s[k2].toNat : Int)) = false)
    (hJ : (s.data.toList.drop j).dropWhile (fun c => c != s[k2]) = (s.data.toList.drop (k2 + 1)).dropWhile (fun c => c != s[k2]))
    (hT : (s.data.toList.drop (k2 + 1)).takeWhile (fun c => c != s[k2]) = (s.data.toList.drop (k2 + 1)).take (j - (k2 + 1)) ++ (s.data.toList.drop j).takeWhile (fun c => c != s[k2])) :
    (s.data.toList.drop (j + 1)).dropWhile (fun c => c != s[k2]) = (s.data.toList.drop (k2 + 1)).dropWhile (fun c => c != s[k2]) ∧
    (s.data.toList.drop (k2 + 1)).takeWhile (fun c => c != s[k2]) = (s.data.toList.drop (k2 + 1)).take (j + 1 - (k2 + 1)) ++ (s.data.toList.drop (j + 1)).takeWhile (fun c => c != s[k2]) := by
  have he : ((fun c => c != s[k2]) s[j]) = true := by show (s[j] != s[k2]) = true; rw [not_int]; simpa using hq
  refine ⟨(dw_go _ s j hlt he).trans hJ, ?_⟩
  rw [hT, tw_go _ s j hlt he, show j + 1 - (k2 + 1) = j - (k2 + 1) + 1 by omega, List.take_add_one, List.getElem?_drop, show k2 + 1 + (j - (k2 + 1)) = j by omega, byte_at s j hlt]
  simp
set_option maxHeartbeats 16000000 in
theorem charsetOf_any (s : ByteArray) (hs : s.size ≤ 3000) (w : World) : Calls Tryd.prog 12 #[.string s] w fun e w' => e = .returned (.int .i64 (M.charA s.data.toList)) ∧ Bel w w' := by
  go_enter Tryd.func12, Tryd.ntmps12
  go_wp2_with fail
  go_loopg [3] (s.size + 1) (fun gg at_ wr => ∃ j : Nat, at_ = .int .i64 (j : Int) ∧ j ≤ s.size ∧ s.size - j ≤ gg ∧ Bel w wr ∧ Hid (M.charA s.data.toList = M.charA (s.data.toList.drop j)))
  case atStart => exact ⟨0, rfl, by omega, by omega, Bel.refl _, Lib.hid (by rw [List.drop_zero])⟩
  case round =>
    obtain ⟨k0, rfl, hk0, hg, hb, HJ⟩ := hrel
    by_cases hlt : k0 < s.size
    · have hdc := drop_cons s k0 hlt
      have bg := beginsAt_any s ⟨#[99, 104, 97, 114, 115, 101, 116]⟩ k0 hk0 hs wr
      cases hpre : Lib.hasPrefix (M.fold (s.data.toList.drop k0)) M.charset7 with
      | false =>
        have HR := Lib.hid (show M.charA s.data.toList = M.charA (s.data.toList.drop (k0 + 1)) by rw [HJ.out, hdc]; exact M.charA_step _ _ (by rw [← hdc]; exact hpre))
        rw [show Lib.hasPrefix (M.fold (s.data.toList.drop k0)) (⟨#[99, 104, 97, 114, 115, 101, 116]⟩ : ByteArray).data.toList = false from hpre] at bg
        clear hpre hdc HJ
        go_wp2_with fail
        refine bg.mono ?_
        rintro e W ⟨rfl, hb1⟩
        have hb := hb.trans hb1
        clear hb1 bg
        go_wp2_with fail
        go_roundg (s.size - (k0 + 1))
        case measure => omega
        case rel => exact ⟨k0 + 1, by go_num, by omega, Nat.le_refl _, hb, HR⟩
      | true =>
        have hroom := pre_room _ hpre
        rw [List.length_drop, ← Lib.size_eq] at hroom
        have HB := Lib.hid hpre
        have HD := Lib.hid hdc
        rw [show Lib.hasPrefix (M.fold (s.data.toList.drop k0)) (⟨#[99, 104, 97, 114, 115, 101, 116]⟩ : ByteArray).data.toList = true from hpre] at bg
        clear hpre hdc
        go_wp2_with fail
        refine bg.mono ?_
        rintro e W ⟨rfl, hb1⟩
        have hb := hb.trans hb1
        clear hb1 bg
        go_upto_block 2 with fail
        go_cut [3] from 18 to 29 (fun v wx => (∃ j : Nat, v = .int .i64 (j : Int) ∧ (k0 + 7) ≤ j ∧ j ≤ s.size ∧ s.data.toList.drop j = (s.data.toList.drop (k0 + 7)).dropWhile M.white) ∧ W = wx)
        case first =>
          go_wp2_with fail
          go_loop [3] (fun v => ∃ j : Nat, v = .int .i64 (j : Int) ∧ (k0 + 7) ≤ j ∧ j ≤ s.size ∧ Hid ((s.data.toList.drop j).dropWhile M.white = (s.data.toList.drop (k0 + 7)).dropWhile M.white)) (fun v => s.size - (intOf v).toNat)
          case atStart => exact ⟨(k0 + 7), by first | rfl | go_num, Nat.le_refl _, by omega, Lib.hid rfl⟩
          case round =>
            obtain ⟨j, rfl, hsj, hj, HJ⟩ := hrel
            by_cases hlt : j < s.size
            ·
              cases hw : M.white s[j] with
              | true =>
                have hp : (M.white) s[j] = true := by simp [hw]
                have HR := Lib.hid ((dw_go (M.white) s j hlt hp).trans HJ.out)
                have HW := Lib.hid hw
                clear hp hw
                go_wp2_with (go_at_call 30; refine (isWhite_any _ _).mono ?_; rintro e w' ⟨rfl, rfl⟩; rw [HW.out])
                go_round
                case rel => exact ⟨j + 1, by go_num, by omega, by omega, HR⟩
                case measure => simp [intOf]; omega
              | false =>
                have hp : (M.white) s[j] = false := by simp [hw]
                have HR := Lib.hid ((dw_stop (M.white) s j hlt hp).symm.trans HJ.out)
                have HW := Lib.hid hw
                clear hp hw
                go_wp2_with (go_at_call 30; refine (isWhite_any _ _).mono ?_; rintro e w' ⟨rfl, rfl⟩; rw [HW.out])
                go_meet
                exact ⟨⟨j, rfl, hsj, hj, HR.out⟩, rfl⟩
            · obtain rfl : j = s.size := by omega
              have HR := Lib.hid (show s.data.toList.drop s.size = (s.data.toList.drop (k0 + 7)).dropWhile M.white by rw [← HJ.out, drop_end]; rfl)
              go_wp2_with fail
              go_meet
              exact ⟨⟨s.size, rfl, hsj, hj, HR.out⟩, rfl⟩
        case rest =>
        obtain ⟨⟨k1, rfl, hk01, hk1, hl1⟩, rfl⟩ := hcut
        have HL1 := Lib.hid (show ((s[k0] :: s.data.toList.drop (k0 + 1)).drop 7).dropWhile M.white = s.data.toList.drop k1 by rw [← HD.out, List.drop_drop, hl1])
        have HP := Lib.hid (show Lib.hasPrefix (M.fold (s[k0] :: s.data.toList.drop (k0 + 1))) M.charset7 = true by rw [← HD.out]; exact HB.out)
        clear hl1
        by_cases hlt1 : k1 < s.size
        ·
          have hne1 : ((k1 : Int) == (s.size : Int)) = false := by simp; omega
          have h61i : (s[k1] != 61) = ((s[k1].toNat : Int) != 61) := not_int 61 s[k1]
          cases h61 : ((s[k1].toNat : Int) != 61) with
          | true =>
            rw [h61] at h61i
            have HR := Lib.hid (show M.charA s.data.toList = M.charA (s.data.toList.drop k1) by rw [HJ.out, HD.out, M.charA_no _ _ HP.out (by rw [HL1.out, drop_cons s k1 hlt1]; simp only [M.behindEq]; rw [if_neg (by simpa using h61i)]), HL1.out])
            clear h61i
            go_wp2_with fail
            go_roundg (s.size - k1)
            case measure => omega
            case rel => exact ⟨k1, rfl, by omega, Nat.le_refl _, hb, HR⟩
          | false =>
            rw [h61] at h61i
            have HC := Lib.hid (show M.charA s.data.toList = M.charOf (s.data.toList.drop (k1 + 1)) by rw [HJ.out, HD.out]; exact M.charA_eq _ _ _ HP.out (by rw [HL1.out, drop_cons s k1 hlt1]; simp only [M.behindEq]; rw [if_pos (by simpa using h61i)]))
            clear h61i HJ HD HP HL1 HB
            go_upto_block 4 with fail
            go_cut [3] from 42 to 53 (fun v wx => (∃ j : Nat, v = .int .i64 (j : Int) ∧ (k1 + 1) ≤ j ∧ j ≤ s.size ∧ s.data.toList.drop j = (s.data.toList.drop (k1 + 1)).dropWhile M.white) ∧ W = wx)
            case first =>
              go_wp2_with fail
              go_loop [3] (fun v => ∃ j : Nat, v = .int .i64 (j : Int) ∧ (k1 + 1) ≤ j ∧ j ≤ s.size ∧ Hid ((s.data.toList.drop j).dropWhile M.white = (s.data.toList.drop (k1 + 1)).dropWhile M.white)) (fun v => s.size - (intOf v).toNat)
              case atStart => exact ⟨(k1 + 1), by first | rfl | go_num, Nat.le_refl _, by omega, Lib.hid rfl⟩
              case round =>
                obtain ⟨j, rfl, hsj, hj, HJ⟩ := hrel
                by_cases hlt : j < s.size
                ·
                  cases hw : M.white s[j] with
                  | true =>
                    have hp : (M.white) s[j] = true := by simp [hw]
                    have HR := Lib.hid ((dw_go (M.white) s j hlt hp).trans HJ.out)
                    have HW := Lib.hid hw
                    clear hp hw
                    go_wp2_with (go_at_call 30; refine (isWhite_any _ _).mono ?_; rintro e w' ⟨rfl, rfl⟩; rw [HW.out])
                    go_round
                    case rel => exact ⟨j + 1, by go_num, by omega, by omega, HR⟩
                    case measure => simp [intOf]; omega
                  | false =>
                    have hp : (M.white) s[j] = false := by simp [hw]
                    have HR := Lib.hid ((dw_stop (M.white) s j hlt hp).symm.trans HJ.out)
                    have HW := Lib.hid hw
                    clear hp hw
                    go_wp2_with (go_at_call 30; refine (isWhite_any _ _).mono ?_; rintro e w' ⟨rfl, rfl⟩; rw [HW.out])
                    go_meet
                    exact ⟨⟨j, rfl, hsj, hj, HR.out⟩, rfl⟩
                · obtain rfl : j = s.size := by omega
                  have HR := Lib.hid (show s.data.toList.drop s.size = (s.data.toList.drop (k1 + 1)).dropWhile M.white by rw [← HJ.out, drop_end]; rfl)
                  go_wp2_with fail
                  go_meet
                  exact ⟨⟨s.size, rfl, hsj, hj, HR.out⟩, rfl⟩
            case rest =>
            obtain ⟨⟨k2, rfl, hk12, hk2, hl2⟩, rfl⟩ := hcut
            by_cases hlt2 : k2 < s.size
            ·
              cases h34 : ((s[k2].toNat : Int) == 34) with
              | true =>
                have hqq := quote_34 _ h34
                have HQQ := Lib.hid hqq
                have HQ := Lib.hid (show (s.data.toList.drop (k1 + 1)).dropWhile M.white = s[k2] :: s.data.toList.drop (k2 + 1) by rw [← hl2, drop_cons s k2 hlt2])
                clear hl2 hqq
                go_wp2_with fail
                go_loopw [5] (fun v wr => ∃ j : Nat, v = .int .i64 (j : Int) ∧ k2 + 1 ≤ j ∧ j ≤ s.size ∧ Hid ((s.data.toList.drop j).dropWhile (fun c => c != s[k2]) = (s.data.toList.drop (k2 + 1)).dropWhile (fun c => c != s[k2])) ∧ Hid ((s.data.toList.drop (k2 + 1)).takeWhile (fun c => c != s[k2]) = (s.data.toList.drop (k2 + 1)).take (j - (k2 + 1)) ++ (s.data.toList.drop j).takeWhile (fun c => c != s[k2])) ∧ Bel w wr) (fun v _ => s.size - (intOf v).toNat)
                case atStart => exact ⟨k2 + 1, by first | rfl | go_num, Nat.le_refl _, by omega, Lib.hid rfl, Lib.hid (by simp), hb⟩
                case round =>
                  obtain ⟨j, rfl, hkj, hj, HJ, HT, hbr⟩ := hrel
                  by_cases hlt : j < s.size
                  ·
                    cases hq : ((s[j].toNat : Int) == (s[k2].toNat : Int)) with
                    | true =>
                      have HZ := Lib.hid (HC.out.trans (char_found s k1 k2 j hlt2 hlt HQ.out HQQ.out HJ.out HT.out hq))
                      clear HC HQ HQQ HJ HT
                      go_wp2_with fail
                      go_quiet (fail)
                      go_wp2_with fail
                      refine (findOf_any (s.extract (k2 + 1) j) _ (by have h9 := ByteArray.size_extract (a := s) (b := k2 + 1) (e := j); omega)).mono ?_
                      rintro e W2 ⟨rfl, hb2⟩
                      go_wp2_with fail
                      go_ret
                      exact ⟨by rw [HZ.out, ← Lib.extract_data]; rfl, (hbr.drewN _).trans hb2⟩
                    | false =>
                      have HR := Lib.hid (find_more s k2 j hlt2 hlt hkj hq HJ.out HT.out)
                      clear HJ HT
                      go_wp2_with fail
                      go_quiet (fail)
                      go_wp2_with fail
                      go_roundw
                      case rel => exact ⟨j + 1, by go_num, by omega, by omega, Lib.hid HR.out.1, Lib.hid HR.out.2, hbr.drewN _⟩
                      case measure => simp [intOf]; omega
                  · obtain rfl : j = s.size := by omega
                    have HZ := Lib.hid (HC.out.trans (char_open s k1 k2 hlt2 HQ.out HQQ.out HJ.out))
                    clear HC HQ HQQ HJ HT
                    go_wp2_with fail
                    go_ret
                    exact ⟨by rw [HZ.out]; rfl, hbr⟩
              | false =>
                cases h39 : ((s[k2].toNat : Int) == 39) with
                | true =>
                  have hqq := quote_39 _ h39
                  have HQQ := Lib.hid hqq
                  have HQ := Lib.hid (show (s.data.toList.drop (k1 + 1)).dropWhile M.white = s[k2] :: s.data.toList.drop (k2 + 1) by rw [← hl2, drop_cons s k2 hlt2])
                  clear hl2 hqq
                  go_wp2_with fail
                  go_loopw [5] (fun v wr => ∃ j : Nat, v = .int .i64 (j : Int) ∧ k2 + 1 ≤ j ∧ j ≤ s.size ∧ Hid ((s.data.toList.drop j).dropWhile (fun c => c != s[k2]) = (s.data.toList.drop (k2 + 1)).dropWhile (fun c => c != s[k2])) ∧ Hid ((s.data.toList.drop (k2 + 1)).takeWhile (fun c => c != s[k2]) = (s.data.toList.drop (k2 + 1)).take (j - (k2 + 1)) ++ (s.data.toList.drop j).takeWhile (fun c => c != s[k2])) ∧ Bel w wr) (fun v _ => s.size - (intOf v).toNat)
                  case atStart => exact ⟨k2 + 1, by first | rfl | go_num, Nat.le_refl _, by omega, Lib.hid rfl, Lib.hid (by simp), hb⟩
                  case round =>
                    obtain ⟨j, rfl, hkj, hj, HJ, HT, hbr⟩ := hrel
                    by_cases hlt : j < s.size
                    ·
                      cases hq : ((s[j].toNat : Int) == (s[k2].toNat : Int)) with
                      | true =>
                        have HZ := Lib.hid (HC.out.trans (char_found s k1 k2 j hlt2 hlt HQ.out HQQ.out HJ.out HT.out hq))
                        clear HC HQ HQQ HJ HT
                        go_wp2_with fail
                        go_quiet (fail)
                        go_wp2_with fail
                        refine (findOf_any (s.extract (k2 + 1) j) _ (by have h9 := ByteArray.size_extract (a := s) (b := k2 + 1) (e := j); omega)).mono ?_
                        rintro e W2 ⟨rfl, hb2⟩
                        go_wp2_with fail
                        go_ret
                        exact ⟨by rw [HZ.out, ← Lib.extract_data]; rfl, (hbr.drewN _).trans hb2⟩
                      | false =>
                        have HR := Lib.hid (find_more s k2 j hlt2 hlt hkj hq HJ.out HT.out)
                        clear HJ HT
                        go_wp2_with fail
                        go_quiet (fail)
                        go_wp2_with fail
                        go_roundw
                        case rel => exact ⟨j + 1, by go_num, by omega, by omega, Lib.hid HR.out.1, Lib.hid HR.out.2, hbr.drewN _⟩
                        case measure => simp [intOf]; omega
                    · obtain rfl : j = s.size := by omega
                      have HZ := Lib.hid (HC.out.trans (char_open s k1 k2 hlt2 HQ.out HQQ.out HJ.out))
                      clear HC HQ HQQ HJ HT
                      go_wp2_with fail
                      go_ret
                      exact ⟨by rw [HZ.out]; rfl, hbr⟩
                | false =>
                  have hqq := quote_no _ h34 h39
                  have HV := Lib.hid (show M.charOf (s.data.toList.drop (k1 + 1)) = M.find ((s.data.toList.drop k2).takeWhile M.labB) by rw [M.charOf, ← hl2, drop_cons s k2 hlt2]; simp only; rw [if_neg hqq])
                  clear hqq hl2
                  go_upto_block 8 with fail
                  go_cut [3, 4] from 91 to 116 (fun v t wx => (∃ (j : Nat) (u : List UInt8), v = .int .i64 (j : Int) ∧ t = .string ⟨u.toArray⟩ ∧ k2 ≤ j ∧ j ≤ s.size ∧ s.data.toList.drop j = (s.data.toList.drop k2).dropWhile M.labB ∧ u = ([] : List UInt8) ++ (s.data.toList.drop k2).takeWhile M.labB) ∧ W = wx)
                  case first =>
                    go_wp2_with fail
                    go_loop [3, 4] (fun v t => ∃ (j : Nat) (u : List UInt8), v = .int .i64 (j : Int) ∧ t = .string ⟨u.toArray⟩ ∧ k2 ≤ j ∧ j ≤ s.size ∧ u.length ≤ j ∧ Hid ((s.data.toList.drop j).dropWhile M.labB = (s.data.toList.drop k2).dropWhile M.labB) ∧ Hid (u ++ (s.data.toList.drop j).takeWhile M.labB = ([] : List UInt8) ++ (s.data.toList.drop k2).takeWhile M.labB)) (fun v _ => s.size - (intOf v).toNat)
                    case atStart => exact ⟨k2, ([] : List UInt8), by first | rfl | go_num, by first | rfl | assumption, Nat.le_refl _, by omega, by simp; try omega, Lib.hid rfl, Lib.hid rfl⟩
                    case round =>
                      obtain ⟨j, u, rfl, rfl, hsj, hj, hul, HJ, HU⟩ := hrel
                      by_cases hlt : j < s.size
                      ·
                        cases hw : M.white s[j] with
                        | true =>
                          have hp : (M.labB) s[j] = false := by simp [lab_int, hw]
                          have HR := Lib.hid ((dw_stop (M.labB) s j hlt hp).symm.trans HJ.out)
                          have HV := Lib.hid (show u = ([] : List UInt8) ++ (s.data.toList.drop k2).takeWhile M.labB by rw [← HU.out, tw_stop (M.labB) s j hlt hp, List.append_nil])
                          have HW := Lib.hid hw
                          clear hp hw
                          go_wp2_with (go_at_call 30; refine (isWhite_any _ _).mono ?_; rintro e w' ⟨rfl, rfl⟩; rw [HW.out])
                          go_meet
                          exact ⟨⟨j, u, rfl, rfl, hsj, hj, HR.out, HV.out⟩, rfl⟩
                        | false =>
                          cases h59 : ((s[j].toNat : Int) != 59) with
                          | true =>
                            have hp : (M.labB) s[j] = true := by simp [lab_int, hw, h59]
                            have HR := Lib.hid ((dw_go (M.labB) s j hlt hp).trans HJ.out)
                            have HV := Lib.hid (show (u ++ [s[j]]) ++ (s.data.toList.drop (j + 1)).takeWhile M.labB = ([] : List UInt8) ++ (s.data.toList.drop k2).takeWhile M.labB by rw [← HU.out, tw_go (M.labB) s j hlt hp, List.append_assoc]; rfl)
                            have HS := Lib.hid (one_str s u j hlt)
                            have HW := Lib.hid hw
                            clear hp hw
                            go_wp2_with (go_at_call 30; refine (isWhite_any _ _).mono ?_; rintro e w' ⟨rfl, rfl⟩; rw [HW.out])
                            go_round
                            case rel => exact ⟨j + 1, u ++ [s[j]], by go_num, by rw [← HS.out], by omega, by omega, by rw [List.length_append, List.length_singleton]; omega, HR, HV⟩
                            case measure => simp [intOf]; omega
                          | false =>
                            have hp : (M.labB) s[j] = false := by simp [lab_int, hw, h59]
                            have HR := Lib.hid ((dw_stop (M.labB) s j hlt hp).symm.trans HJ.out)
                            have HV := Lib.hid (show u = ([] : List UInt8) ++ (s.data.toList.drop k2).takeWhile M.labB by rw [← HU.out, tw_stop (M.labB) s j hlt hp, List.append_nil])
                            have HW := Lib.hid hw
                            clear hp hw
                            go_wp2_with (go_at_call 30; refine (isWhite_any _ _).mono ?_; rintro e w' ⟨rfl, rfl⟩; rw [HW.out])
                            go_meet
                            exact ⟨⟨j, u, rfl, rfl, hsj, hj, HR.out, HV.out⟩, rfl⟩
                      · obtain rfl : j = s.size := by omega
                        have HR := Lib.hid (show s.data.toList.drop s.size = (s.data.toList.drop k2).dropWhile M.labB by rw [← HJ.out, drop_end]; rfl)
                        have HV := Lib.hid (show u = ([] : List UInt8) ++ (s.data.toList.drop k2).takeWhile M.labB by rw [← HU.out, drop_end]; simp)
                        go_wp2_with fail
                        go_meet
                        exact ⟨⟨s.size, u, rfl, rfl, hsj, hj, HR.out, HV.out⟩, rfl⟩
                  case rest =>
                  obtain ⟨⟨k3, vv, rfl, rfl, hk23, hk3, hl3, hvv⟩, rfl⟩ := hcut
                  have hvl : vv.length ≤ s.size := by rw [hvv]; have h9 := (List.takeWhile_prefix M.labB (l := s.data.toList.drop k2)).length_le; rw [List.length_drop, ← Lib.size_eq] at h9; rw [List.nil_append]; omega
                  have HZ := Lib.hid (show M.charA s.data.toList = M.find vv by rw [HC.out, HV.out, hvv]; rfl)
                  clear HC HV hl3 hvv
                  go_wp2_with fail
                  refine (findOf_any ⟨vv.toArray⟩ _ (by rw [size_str]; omega)).mono ?_
                  rintro e W2 ⟨rfl, hb2⟩
                  go_wp2_with fail
                  go_ret
                  exact ⟨by rw [HZ.out]; rfl, hb.trans hb2⟩
            · obtain rfl : k2 = s.size := by omega
              have HV := Lib.hid (show M.charOf (s.data.toList.drop (k1 + 1)) = M.find ((s.data.toList.drop s.size).takeWhile M.labB) by rw [M.charOf, ← hl2, drop_end]; rfl)
              have HE := Lib.hid hl2
              clear hl2
              go_upto_block 8 with fail
              go_cut [3, 4] from 91 to 116 (fun v t wx => (∃ (j : Nat) (u : List UInt8), v = .int .i64 (j : Int) ∧ t = .string ⟨u.toArray⟩ ∧ s.size ≤ j ∧ j ≤ s.size ∧ s.data.toList.drop j = (s.data.toList.drop s.size).dropWhile M.labB ∧ u = ([] : List UInt8) ++ (s.data.toList.drop s.size).takeWhile M.labB) ∧ W = wx)
              case first =>
                go_wp2_with fail
                go_loop [3, 4] (fun v t => ∃ (j : Nat) (u : List UInt8), v = .int .i64 (j : Int) ∧ t = .string ⟨u.toArray⟩ ∧ s.size ≤ j ∧ j ≤ s.size ∧ u.length ≤ j ∧ Hid ((s.data.toList.drop j).dropWhile M.labB = (s.data.toList.drop s.size).dropWhile M.labB) ∧ Hid (u ++ (s.data.toList.drop j).takeWhile M.labB = ([] : List UInt8) ++ (s.data.toList.drop s.size).takeWhile M.labB)) (fun v _ => s.size - (intOf v).toNat)
                case atStart => exact ⟨s.size, ([] : List UInt8), by first | rfl | go_num, by first | rfl | assumption, Nat.le_refl _, by omega, by simp; try omega, Lib.hid rfl, Lib.hid rfl⟩
                case round =>
                  obtain ⟨j, u, rfl, rfl, hsj, hj, hul, HJ, HU⟩ := hrel
                  by_cases hlt : j < s.size
                  ·
                    exfalso
                    omega
                  · obtain rfl : j = s.size := by omega
                    have HR := Lib.hid (show s.data.toList.drop s.size = (s.data.toList.drop s.size).dropWhile M.labB by rw [← HJ.out, drop_end]; rfl)
                    have HV := Lib.hid (show u = ([] : List UInt8) ++ (s.data.toList.drop s.size).takeWhile M.labB by rw [← HU.out, drop_end]; simp)
                    go_wp2_with fail
                    go_meet
                    exact ⟨⟨s.size, u, rfl, rfl, hsj, hj, HR.out, HV.out⟩, rfl⟩
              case rest =>
              obtain ⟨⟨k3, vv, rfl, rfl, hk23, hk3, hl3, hvv⟩, rfl⟩ := hcut
              have hvl : vv.length ≤ s.size := by rw [hvv]; have h9 := (List.takeWhile_prefix M.labB (l := s.data.toList.drop s.size)).length_le; rw [List.length_drop, ← Lib.size_eq] at h9; rw [List.nil_append]; omega
              have HZ := Lib.hid (show M.charA s.data.toList = M.find vv by rw [HC.out, HV.out, hvv]; rfl)
              clear HC HV hl3 hvv
              go_wp2_with fail
              refine (findOf_any ⟨vv.toArray⟩ _ (by rw [size_str]; omega)).mono ?_
              rintro e W2 ⟨rfl, hb2⟩
              go_wp2_with fail
              go_ret
              exact ⟨by rw [HZ.out]; rfl, hb.trans hb2⟩
        · obtain rfl : k1 = s.size := by omega
          have HR := Lib.hid (show M.charA s.data.toList = M.charA (s.data.toList.drop s.size) by rw [HJ.out, HD.out, M.charA_no _ _ HP.out (by rw [HL1.out, drop_end]; rfl), HL1.out])
          go_wp2_with fail
          go_roundg (s.size - s.size)
          case measure => omega
          case rel => exact ⟨s.size, rfl, by omega, Nat.le_refl _, hb, HR⟩
    · obtain rfl : k0 = s.size := by omega
      have HR := Lib.hid (show M.charA s.data.toList = 0 by rw [HJ.out, drop_end]; rfl)
      go_wp2_with fail
      go_ret
      exact ⟨by rw [HR.out]; rfl, hb⟩
end Go.Proofs.YthaoohckgilahaaDoor

/-
  The document's answers on scans: MetaOf, isLetter.
-/
namespace Go.Proofs.YthaoohckgilahaaDoor
open Go.RowKit
set_option maxRecDepth 1000000
set_option maxHeartbeats 4000000

/-- The first place from k on that has the name; -1: none has. -/
def FirstN (xs : List (List UInt8 × List UInt8)) (nm : List UInt8) (k : Nat) (r : Int) : Prop :=
  (r = -1 ∧ ∀ j, k ≤ j → j < xs.length → ((xs.getD j ([], [])).1 == nm) = false) ∨ ∃ d : Nat, k ≤ d ∧ d < xs.length ∧ r = d ∧ ((xs.getD d ([], [])).1 == nm) = true ∧ ∀ j, k ≤ j → j < d → ((xs.getD j ([], [])).1 == nm) = false
theorem FirstN.at {xs : List (List UInt8 × List UInt8)} {nm : List UInt8} {r : Int} (h : FirstN xs nm 0 r) : (r = -1 ∧ M.valOf xs nm = none) ∨ ∃ (k : Nat) (q : List UInt8 × List UInt8), r = k ∧ xs[k]? = some q ∧ M.valOf xs nm = some q.2 := by
  have h1 : FirstAt xs.length (fun j => (xs.getD j ([], [])).1 == nm) r := by
    rcases h with ⟨e, h⟩ | ⟨d, _, hd, e, hy, hno⟩
    · exact .inl ⟨e, fun j hj => h j (Nat.zero_le _) hj⟩
    · exact .inr ⟨d, hd, e, hy, fun j hj => hno j (Nat.zero_le _) hj⟩
  rcases find_at xs (fun a => a.1 == nm) r h1 with ⟨e, hf⟩ | ⟨k, q, e, hk, hf⟩
  · exact .inl ⟨e, valOf_none _ _ hf⟩
  · exact .inr ⟨k, q, e, hk, valOf_some _ _ _ hf⟩
theorem FirstN.end (xs : List (List UInt8 × List UInt8)) (nm : List UInt8) : FirstN xs nm xs.length (-1) := .inl ⟨rfl, fun j h1 h2 => by omega⟩
theorem FirstN.yes {xs : List (List UInt8 × List UInt8)} {nm : List UInt8} {k : Nat} {q : List UInt8 × List UInt8} (hq : xs[k]? = some q) (h : (q.1 == nm) = true) : FirstN xs nm k (k : Int) :=
  .inr ⟨k, Nat.le_refl _, (List.getElem?_eq_some_iff.1 hq).1, rfl, by rw [List.getD_eq_getElem?_getD, hq]; exact h, fun j h1 h2 => by omega⟩
theorem FirstN.no {xs : List (List UInt8 × List UInt8)} {nm : List UInt8} {k : Nat} {q : List UInt8 × List UInt8} {r : Int} (hq : xs[k]? = some q) (h : (q.1 == nm) = false) (hr : FirstN xs nm (k + 1) r) : FirstN xs nm k r := by
  have hk : ((xs.getD k ([], [])).1 == nm) = false := by rw [List.getD_eq_getElem?_getD, hq]; exact h
  rcases hr with ⟨e, hr⟩ | ⟨d, hkd, hd, e, hy, hno⟩
  · refine .inl ⟨e, fun j h1 h2 => ?_⟩
    by_cases ej : j = k
    · subst ej; exact hk
    · exact hr j (by omega) h2
  · refine .inr ⟨d, by omega, hd, e, hy, fun j h1 h2 => ?_⟩
    by_cases ej : j = k
    · subst ej; exact hk
    · exact hno j (by omega) h2
theorem metaOf_any (v : Value) (xs : List (List UInt8 × List UInt8)) (w : World) (h : AttrSl w v xs) (hs : ShortV xs) : Calls Tryd.prog 19 #[v] w fun e w' => e = .returned (.int .i64 (M.metaA xs)) ∧ Bel w w' := by
  obtain ⟨a, c, rfl, hc1, hc2, hn, hx⟩ := h
  unfold maxLen at hc2
  have HX := Lib.hid hx
  have HN := Lib.hid hn
  clear hx hn
  go_enter Tryd.func19, Tryd.ntmps19
  go_wp2_with fail
  go_loop [3, 4, 5, 6] (fun x y z i => ∃ (k : Nat) (r1 r2 r3 : Int), k ≤ xs.length ∧ i = .int .i64 ((k : Int) - 1) ∧ x = .int .i64 r1 ∧ y = .int .i64 r2 ∧ z = .int .i64 r3 ∧ Hid (FirstN xs M.charset7 k r1) ∧ Hid (FirstN xs M.httpEquiv k r2) ∧ Hid (FirstN xs M.contentB k r3)) (fun _ _ _ i => (intOf i + 1).toNat)
  case atStart => exact ⟨xs.length, -1, -1, -1, Nat.le_refl _, by first | rfl | go_num, rfl, rfl, rfl, Lib.hid (FirstN.end _ _), Lib.hid (FirstN.end _ _), Lib.hid (FirstN.end _ _)⟩
  case round =>
    obtain ⟨k, r1, r2, r3, hk, rfl, rfl, rfl, rfl, F1, F2, F3⟩ := hrel
    cases k with
    | succ m =>
      rw [show ((m + 1 : Nat) : Int) - 1 = (m : Int) by omega]
      obtain ⟨q, hq⟩ : ∃ q, xs[m]? = some q := ⟨_, List.getElem?_eq_getElem (by omega)⟩
      cases a with
      | none => exfalso; rw [HN.out rfl] at hk; exact absurd hk (by simp)
      | some x =>
        obtain ⟨g, o, rfl, hx'⟩ := HX.out x rfl (List.ne_nil_of_length_pos (by omega))
        obtain ⟨c1, c2⟩ := hx' m q hq
        clear hx'
        cases e1 : (q.1 == ([99, 104, 97, 114, 115, 101, 116] : List UInt8)) with
        | true =>
          have e1' : q.1 = [99, 104, 97, 114, 115, 101, 116] := by simpa using e1
          have HR := Lib.hid (show FirstN xs M.charset7 m (m : Int) ∧ FirstN xs M.httpEquiv m r2 ∧ FirstN xs M.contentB m r3 from ⟨FirstN.yes hq e1, FirstN.no hq (by rw [e1']; rfl) F2.out, FirstN.no hq (by rw [e1']; rfl) F3.out⟩)
          clear hq e1
          go_wp2_with fail
          go_round
          case rel => exact ⟨m, _, _, _, by omega, by go_num, rfl, rfl, rfl, Lib.hid HR.out.1, Lib.hid HR.out.2.1, Lib.hid HR.out.2.2⟩
          case measure => simp [intOf] <;> omega
        | false =>
          cases e2 : (q.1 == ([104, 116, 116, 112, 45, 101, 113, 117, 105, 118] : List UInt8)) with
          | true =>
            have e2' : q.1 = [104, 116, 116, 112, 45, 101, 113, 117, 105, 118] := by simpa using e2
            have hh := e1
            have HR := Lib.hid (show FirstN xs M.charset7 m r1 ∧ FirstN xs M.httpEquiv m (m : Int) ∧ FirstN xs M.contentB m r3 from ⟨FirstN.no hq e1 F1.out, FirstN.yes hq e2, FirstN.no hq (by rw [e2']; rfl) F3.out⟩)
            clear hq e1
            go_wp2_with fail
            go_round
            case rel => exact ⟨m, _, _, _, by omega, by go_num, rfl, rfl, rfl, Lib.hid HR.out.1, Lib.hid HR.out.2.1, Lib.hid HR.out.2.2⟩
            case measure => simp [intOf] <;> omega
          | false =>
            cases e3 : (q.1 == ([99, 111, 110, 116, 101, 110, 116] : List UInt8)) with
            | true =>
              have hh := e1
              have HR := Lib.hid (show FirstN xs M.charset7 m r1 ∧ FirstN xs M.httpEquiv m r2 ∧ FirstN xs M.contentB m (m : Int) from ⟨FirstN.no hq e1 F1.out, FirstN.no hq e2 F2.out, FirstN.yes hq e3⟩)
              clear hq e1
              go_wp2_with fail
              go_round
              case rel => exact ⟨m, _, _, _, by omega, by go_num, rfl, rfl, rfl, Lib.hid HR.out.1, Lib.hid HR.out.2.1, Lib.hid HR.out.2.2⟩
              case measure => simp [intOf] <;> omega
            | false =>
              have hh := e1
              have HR := Lib.hid (show FirstN xs M.charset7 m r1 ∧ FirstN xs M.httpEquiv m r2 ∧ FirstN xs M.contentB m r3 from ⟨FirstN.no hq e1 F1.out, FirstN.no hq e2 F2.out, FirstN.no hq e3 F3.out⟩)
              clear hq e1
              go_wp2_with fail
              go_round
              case rel => exact ⟨m, _, _, _, by omega, by go_num, rfl, rfl, rfl, Lib.hid HR.out.1, Lib.hid HR.out.2.1, Lib.hid HR.out.2.2⟩
              case measure => simp [intOf] <;> omega
    | zero =>
      have P1 := F1.out.at
      have P2 := F2.out.at
      have P3 := F3.out.at
      rw [show ((0 : Nat) : Int) - 1 = -1 from rfl]
      clear F1 F2 F3
      rcases P1 with ⟨rfl, hv1⟩ | ⟨d, q, rfl, hd, hv1⟩
      · rcases P2 with ⟨rfl, hv2⟩ | ⟨d2, q2, rfl, hd2, hv2⟩
        · have HT := Lib.hid (show M.metaA xs = 0 by rw [M.metaA, M.toldA, hv1, hv2]; rfl)
          clear hv1 hv2
          go_wp2_with fail
          go_ret
          exact ⟨by rw [HT.out]; rfl, Bel.refl _⟩
        · rcases P3 with ⟨rfl, hv3⟩ | ⟨d3, q3, rfl, hd3, hv3⟩
          · have HT := Lib.hid (show M.metaA xs = 0 by
              rw [M.metaA, M.toldA, hv1, hv2, hv3]
              show M.turnA (if some q2.2 = some M.contentType then M.charA [] else 0) = 0
              rw [M.charA_nil, ite_self]
              rfl)
            clear hv1 hv2 hv3 hd2
            go_wp2_with fail
            go_ret
            exact ⟨by rw [HT.out]; rfl, Bel.refl _⟩
          · cases a with
            | none => exfalso; have h9 := (List.getElem?_eq_some_iff.1 hd2).1; rw [HN.out rfl] at h9; exact absurd h9 (Nat.not_lt_zero _)
            | some x =>
              obtain ⟨g, o, rfl, hx'⟩ := HX.out x rfl (List.ne_nil_of_length_pos (Nat.lt_of_le_of_lt (Nat.zero_le _) (List.getElem?_eq_some_iff.1 hd2).1))
              have ck := (hx' d2 q2 hd2).2
              have cc := (hx' d3 q3 hd3).2
              have l2 := (List.getElem?_eq_some_iff.1 hd2).1
              have l3 := (List.getElem?_eq_some_iff.1 hd3).1
              have hsz := hs q3 (List.mem_of_getElem? hd3)
              cases hct : (q2.2 == ([99, 111, 110, 116, 101, 110, 116, 45, 116, 121, 112, 101] : List UInt8)) with
              | false =>
                have HT := Lib.hid (show M.metaA xs = 0 by
                  rw [M.metaA, M.toldA, hv1, hv2]
                  show M.turnA (if some q2.2 = some M.contentType then _ else 0) = 0
                  rw [if_neg (fun h9 => by injection h9 with h9; rw [h9] at hct; exact absurd hct (by decide))]
                  rfl)
                clear hv1 hv2 hv3 hd2 hd3 hx'
                go_wp2_with fail
                go_ret
                exact ⟨by rw [HT.out]; rfl, Bel.refl _⟩
              | true =>
                obtain ⟨f, hf⟩ : ∃ f, M.charA q3.2 = f := ⟨_, rfl⟩
                have HT := Lib.hid (show M.metaA xs = M.turnA f by
                  rw [M.metaA, M.toldA, hv1, hv2, hv3]
                  show M.turnA (if some q2.2 = some M.contentType then M.charA q3.2 else 0) = _
                  rw [if_pos (congrArg some (show q2.2 = M.contentType from eq_of_beq hct)), hf])
                have FC := Lib.hid (fun W => charsetOf_any ⟨q3.2.toArray⟩ (by rw [size_str]; exact hsz) W)
                rw [show (⟨q3.2.toArray⟩ : ByteArray).data.toList = q3.2 by simp, hf] at FC
                clear hv1 hv2 hv3 hd2 hd3 hx' hf
                by_cases f2 : f = 2
                · subst f2
                  skip
                  go_wp2_with fail
                  refine (FC.out _).mono ?_
                  rintro e W2 ⟨rfl, b2⟩
                  go_wp2_with fail
                  go_ret
                  exact ⟨by rw [HT.out]; rfl, b2⟩
                · by_cases f3 : f = 3
                  · subst f3
                    skip
                    go_wp2_with fail
                    refine (FC.out _).mono ?_
                    rintro e W2 ⟨rfl, b2⟩
                    go_wp2_with fail
                    go_ret
                    exact ⟨by rw [HT.out]; rfl, b2⟩
                  · by_cases f5 : f = 5
                    · subst f5
                      skip
                      go_wp2_with fail
                      refine (FC.out _).mono ?_
                      rintro e W2 ⟨rfl, b2⟩
                      go_wp2_with fail
                      go_ret
                      exact ⟨by rw [HT.out]; rfl, b2⟩
                    · have HX := Lib.hid (show M.turnA f = f by unfold M.turnA; rw [if_neg (by omega), if_neg f5])
                      have e2 : (f == 2) = false := by simp [f2]
                      have e3 : (f == 3) = false := by simp [f3]
                      have e5 : (f == 5) = false := by simp [f5]
                      clear f2 f3 f5
                      go_wp2_with fail
                      refine (FC.out _).mono ?_
                      rintro e W2 ⟨rfl, b2⟩
                      go_wp2_with fail
                      go_ret
                      exact ⟨by rw [HT.out, HX.out]; rfl, b2⟩
      · cases a with
        | none => exfalso; have h9 := (List.getElem?_eq_some_iff.1 hd).1; rw [HN.out rfl] at h9; exact absurd h9 (Nat.not_lt_zero _)
        | some x =>
          obtain ⟨g, o, rfl, hx'⟩ := HX.out x rfl (List.ne_nil_of_length_pos (Nat.lt_of_le_of_lt (Nat.zero_le _) (List.getElem?_eq_some_iff.1 hd).1))
          have ck := (hx' d q hd).2
          have l2 := (List.getElem?_eq_some_iff.1 hd).1
          have hsz := hs q (List.mem_of_getElem? hd)
          obtain ⟨f, hf⟩ : ∃ f, M.find q.2 = f := ⟨_, rfl⟩
          have HT := Lib.hid (show M.metaA xs = M.turnA f by rw [M.metaA, M.toldA, hv1]; simp only; rw [hf])
          have FC := Lib.hid (fun W => findOf_any ⟨q.2.toArray⟩ W (by rw [size_str]; omega))
          rw [show (⟨q.2.toArray⟩ : ByteArray).data.toList = q.2 by simp, hf] at FC
          clear hv1 hd hx' hf P2 P3
          by_cases f2 : f = 2
          · subst f2
            skip
            go_wp2_with fail
            refine (FC.out _).mono ?_
            rintro e W2 ⟨rfl, b2⟩
            go_wp2_with fail
            go_ret
            exact ⟨by rw [HT.out]; rfl, b2⟩
          · by_cases f3 : f = 3
            · subst f3
              skip
              go_wp2_with fail
              refine (FC.out _).mono ?_
              rintro e W2 ⟨rfl, b2⟩
              go_wp2_with fail
              go_ret
              exact ⟨by rw [HT.out]; rfl, b2⟩
            · by_cases f5 : f = 5
              · subst f5
                skip
                go_wp2_with fail
                refine (FC.out _).mono ?_
                rintro e W2 ⟨rfl, b2⟩
                go_wp2_with fail
                go_ret
                exact ⟨by rw [HT.out]; rfl, b2⟩
              · have HX := Lib.hid (show M.turnA f = f by unfold M.turnA; rw [if_neg (by omega), if_neg f5])
                have e2 : (f == 2) = false := by simp [f2]
                have e3 : (f == 3) = false := by simp [f3]
                have e5 : (f == 5) = false := by simp [f5]
                clear f2 f3 f5
                go_wp2_with fail
                refine (FC.out _).mono ?_
                rintro e W2 ⟨rfl, b2⟩
                go_wp2_with fail
                go_ret
                exact ⟨by rw [HT.out, HX.out]; rfl, b2⟩
end Go.Proofs.YthaoohckgilahaaDoor

/-
  Package scan: the looker: begins, byteAt, to, tag.
-/
namespace Go.Proofs.YthaoohckgilahaaDoor
open Go.RowKit
set_option maxRecDepth 1000000
set_option maxHeartbeats 1000000

/-- A looker at g: it holds a text, the text in small letters, and a place. -/
def Lk (w : World) (g : Nat) (s low : ByteArray) (k : Nat) : Prop := Box w g 77 [.string s, .string low, .int .i64 (k : Int)]
theorem Lk.bel {w w' : World} {g : Nat} {s low : ByteArray} {k : Nat} (h : Lk w g s low k) (hb : Bel w w') : Lk w' g s low k := Box.bel h hb
theorem Lk.move {w : World} {g : Nat} {s low : ByteArray} {k : Nat} (h : Lk w g s low k) (j : Nat) : Lk (w.setCell ⟨g, 2, none⟩ (.int .i64 (j : Int))) g s low j := Box.set h 2 _
/-- low is s in small letters. -/
def Low (s low : ByteArray) : Prop := low.data.toList = M.fold s.data.toList
theorem Low.size {s low : ByteArray} (h : Low s low) : low.size = s.size := by rw [Lib.size_eq, h, M.fold_len, ← Lib.size_eq]
theorem Low.drop {s low : ByteArray} (h : Low s low) (k : Nat) : (low.extract k low.size).data.toList = M.fold (s.data.toList.drop k) := by rw [drop_str, h, fold_drop]
theorem begins_any (g : Nat) (s low p : ByteArray) (k : Nat) (w : World) (h : Lk w g s low k) (hl : Low s low) (hk : k ≤ s.size) : Calls Tryd.prog 73 #[.pointer (some ⟨g, 0, none⟩), .string p] w fun e w' => e = .returned (.bool (Lib.hasPrefix (M.fold (s.data.toList.drop k)) p.data.toList)) ∧ ∃ m, w' = w.drewN m := by
  have c1 := Box.cell h 1 _ rfl
  have c2 := Box.cell h 2 _ rfl
  have hsz := hl.size
  have hbd : (0 : Int) ≤ (k : Int) ∧ (k : Int) ≤ (low.size : Int) := by omega
  have hcall := fun n => Tryd.strings_HasPrefix (low.extract k low.size) p (w.drewN n)
  rw [hl.drop k] at hcall
  have HC := Lib.hid hcall
  clear hcall hl hsz
  go_enter Tryd.func73, Tryd.ntmps73
  go_wp2_with fail
  go_quiet (first | (go_at_call 87; exact Calls.quiet_of_same (HC.out _)))
  go_wp2
  go_ret
  exact ⟨rfl, _, rfl⟩
/-- The byte so many further on, in small letters; 0: there is none. -/
def byteN (l : List UInt8) (more : Nat) : UInt8 := ((M.fold l)[more]?).getD 0
theorem byteAt_any (g : Nat) (s low : ByteArray) (k more : Nat) (w : World) (h : Lk w g s low k) (hl : Low s low) (hk : k ≤ s.size) (hs : s.size ≤ 3000) (hm : more ≤ 9) : Calls Tryd.prog 75 #[.pointer (some ⟨g, 0, none⟩), .int .i64 (more : Int)] w fun e w' => e = .returned (.int .u8 ((byteN (s.data.toList.drop k) more).toNat : Int)) ∧ ∃ m, w' = w.drewN m := by
  have c0 := Box.cell h 0 _ rfl
  have c1 := Box.cell h 1 _ rfl
  have c2 := Box.cell h 2 _ rfl
  have hsz := hl.size
  obtain ⟨km, hkm⟩ : ∃ km : Nat, km = k + more := ⟨_, rfl⟩
  have hki : (k : Int) + (more : Int) = (km : Int) := by omega
  by_cases hlt : km < s.size
  · have hb : byteN (s.data.toList.drop k) more = low[km] := by
      subst hkm
      rw [byteN, ← fold_drop, List.getElem?_drop, ← hl, byte_at low (k + more) (by omega)]
      rfl
    have HB := Lib.hid hb
    have hlt2 : km < low.size := by omega
    have hf : decide ((s.size : Int) ≤ (km : Int)) = false := by simp; omega
    clear hb hl hkm
    go_enter Tryd.func75, Tryd.ntmps75
    go_wp2_with fail
    go_quiet (fail)
    go_wp2_with fail
    go_quiet (fail)
    go_wp2_with fail
    go_ret
    exact ⟨by rw [HB.out]; rfl, _, World.drewN_drewN _ _ _⟩
  · have HB := Lib.hid (show byteN (s.data.toList.drop k) more = 0 by
      rw [byteN, ← fold_drop, List.getElem?_drop, List.getElem?_eq_none (by rw [M.fold_len, ← Lib.size_eq]; omega)]
      rfl)
    have hf : decide ((s.size : Int) ≤ (km : Int)) = true := by simp; omega
    clear hl hkm
    go_enter Tryd.func75, Tryd.ntmps75
    go_wp2_with fail
    go_quiet (fail)
    go_wp2_with fail
    go_ret
    exact ⟨by rw [HB.out]; rfl, _, rfl⟩
theorem behindF_no (sub : List UInt8) : ∀ l : List UInt8, (∀ j, Lib.hasPrefix (M.fold (l.drop j)) sub = false) → M.behindF sub l = []
  | [], _ => rfl
  | c :: t, h => by
    rw [M.behindF, if_neg (by have := h 0; rw [List.drop_zero] at this; rw [this]; decide)]
    exact behindF_no sub t (fun j => h (j + 1))
theorem behindF_at (sub : List UInt8) (hs : sub ≠ []) : ∀ (i : Nat) (l : List UInt8), Lib.hasPrefix (M.fold (l.drop i)) sub = true → (∀ j, j < i → Lib.hasPrefix (M.fold (l.drop j)) sub = false) → M.behindF sub l = l.drop (i + sub.length)
  | i, [], h, _ => by
    rw [List.drop_nil] at h
    cases sub with
    | nil => exact absurd rfl hs
    | cons x y => cases h
  | 0, c :: t, h, _ => by
    rw [M.behindF, if_pos (by rw [List.drop_zero] at h; exact h), Nat.zero_add]
  | i + 1, c :: t, h, hno => by
    rw [M.behindF, if_neg (by have := hno 0 (by omega); rw [List.drop_zero] at this; rw [this]; decide), behindF_at sub hs i t h (fun j hj => hno (j + 1) (by omega)), show i + 1 + sub.length = i + sub.length + 1 by omega, List.drop_succ_cons]
theorem to_any (g : Nat) (s low sub : ByteArray) (k more : Nat) (w : World) (h : Lk w g s low k) (hl : Low s low) (hk : k + more ≤ s.size) (hs : s.size ≤ 3000) (hsub : sub.data.toList ≠ []) (hm : more ≤ 9) (hsl : sub.size ≤ 9) (hL : Len w) : Calls Tryd.prog 74 #[.pointer (some ⟨g, 0, none⟩), .string sub, .int .i64 (more : Int)] w fun e w' => e = .returned (.tuple #[]) ∧ (∃ k', k' ≤ s.size ∧ Lk w' g s low k' ∧ s.data.toList.drop k' = M.behindF sub.data.toList (s.data.toList.drop (k + more))) ∧ Bes g w w' := by
  have c0 := Box.cell h 0 _ rfl
  have c1 := Box.cell h 1 _ rfl
  have c2 := Box.cell h 2 _ rfl
  have f2 := Box.frozen h 2
  have hsz := hl.size
  obtain ⟨m, hm2⟩ := hL
  obtain ⟨km, hkm⟩ : ∃ km : Nat, km = k + more := ⟨_, rfl⟩
  rw [← hkm] at hk ⊢
  have hki : (k : Int) + (more : Int) = (km : Int) := by omega
  have hbd : (0 : Int) ≤ (km : Int) ∧ (km : Int) ≤ (low.size : Int) := by omega
  have hw : IntKind.i64.wrap (km : Int) = (km : Int) := by rw [IntKind.wrap_i64]; omega
  have hcall := fun n => Tryd.strings_Index (low.extract km low.size) sub m (w.drewN n) (by rw [drop_size]; omega) hm2
  rw [hl.drop km] at hcall
  rcases index_cases (M.fold (s.data.toList.drop km)) sub.data.toList hsub with ⟨hi, hno⟩ | ⟨i, hil, hi, hyes, hno⟩
  · rw [hi] at hcall
    have HC := Lib.hid hcall
    have HB := Lib.hid (behindF_no sub.data.toList (s.data.toList.drop km) (fun j => by rw [← fold_drop]; exact hno j))
    clear hcall hl hno hi hkm hsz
    go_enter Tryd.func74, Tryd.ntmps74
    go_wp2_with fail
    go_quiet (first | (go_at_call 52; exact Calls.quiet_of_same (HC.out _)))
    go_wp2_with fail
    exact bodyPost_ret (v := .tuple #[]) (by simp [results, Tryd.results74, go_sem]) rfl ⟨rfl, ⟨s.size, Nat.le_refl _, Lk.move (Box.drewN h nq) s.size, by rw [HB.out]; exact List.drop_eq_nil_of_le (by rw [← Lib.size_eq]; exact Nat.le_refl _)⟩, (Bes.of_bel ((Bel.refl w).drewN nq)).setCell 2 _⟩
  · rw [hi] at hcall
    have HC := Lib.hid hcall
    have HB := Lib.hid (behindF_at sub.data.toList hsub i (s.data.toList.drop km) (by rw [← fold_drop]; exact hyes) (fun j hj => by rw [← fold_drop]; exact hno j hj))
    rw [M.fold_len, List.length_drop, ← Lib.size_eq, ← Lib.size_eq] at hil
    clear hcall hl hno hi hyes hkm hsz
    go_enter Tryd.func74, Tryd.ntmps74
    go_wp2_with fail
    go_quiet (first | (go_at_call 52; exact Calls.quiet_of_same (HC.out _)))
    go_wp2_with fail
    go_end0
    rw [show (k : Int) + ((more : Int) + (i : Int) + (sub.size : Int)) = ((km + (i + sub.size) : Nat) : Int) by omega]
    exact ⟨rfl, ⟨km + (i + sub.size), by omega, Lk.move (Box.drewN h nq) _, by rw [HB.out, List.drop_drop, ← Lib.size_eq]⟩, (Bes.of_bel ((Bel.refl w).drewN nq)).setCell 2 _⟩
theorem drop_min (s : ByteArray) (en : Nat) (h : en ≤ s.size) : s.data.toList.drop (min s.size (en + 1)) = (s.data.toList.drop en).drop 1 := by
  rw [List.drop_drop]
  by_cases e : en + 1 ≤ s.size
  · rw [Nat.min_eq_right e]
  · rw [Nat.min_eq_left (by omega), List.drop_eq_nil_of_le (by rw [← Lib.size_eq]; exact Nat.le_refl _), List.drop_eq_nil_of_le (by rw [← Lib.size_eq]; omega)]
theorem tag_any (g : Nat) (s low : ByteArray) (k fr : Nat) (w : World) (h : Lk w g s low k) (hk : fr ≤ s.size) (hs : s.size ≤ 3000) (xs : List (List UInt8 × List UInt8)) (r : List UInt8) (hn : M.attrsA (s.data.toList.drop fr) = (xs, r)) : Calls Tryd.prog 76 #[.pointer (some ⟨g, 0, none⟩), .int .i64 (fr : Int)] w fun e w' => ∃ v, e = .returned v ∧ AttrSl w' v xs ∧ (∃ k', k' ≤ s.size ∧ Lk w' g s low k' ∧ s.data.toList.drop k' = r.drop 1) ∧ Bes g w w' := by
  have c0 := Box.cell h 0 _ rfl
  have hgl := Box.lt h
  have hsuf := (M.attrsA_suf _ (s.data.toList.drop fr) (Nat.le_refl _)).1
  rw [hn] at hsuf
  have hd := M.Suf.at (M.Suf.trans (a := r) hsuf (M.Suf.drop s.data.toList fr))
  rw [← Lib.size_eq] at hd
  have hrl : r.length ≤ s.size := by
    have := hsuf.len
    rw [List.length_drop, ← Lib.size_eq] at this
    have h9 : r.length ≤ s.size - fr := this
    omega
  have ff := from_any s fr hk hs xs r hn
  obtain ⟨en, hen⟩ : ∃ en : Nat, en = s.size - r.length := ⟨_, rfl⟩
  rw [← hen] at ff hd
  have HF := Lib.hid ff
  have HD := Lib.hid hd
  have henl : en ≤ s.size := by omega
  clear ff hd hsuf hn hen
  go_enter Tryd.func76, Tryd.ntmps76
  go_wp2_with fail
  refine (HF.out _).mono ?_
  rintro e w1 ⟨v, rfl, hown, b1⟩
  have h1 := h.bel b1
  have c0 := Box.cell h1 0 _ rfl
  have c2 := Box.cell h1 2 _ rfl
  have f2 := Box.frozen h1 2
  go_wp2_with fail
  rw [show min (s.size : Int) ((en : Int) + 1) = ((min s.size (en + 1) : Nat) : Int) by omega]
  go_ret
  exact ⟨v, rfl, OwnA.sl (B := w.heap.size) (hown.keep (fun kk hkk => Below.heap_setCell w1 _ _ kk (by have := (hown.lt kk hkk).1; show kk ≠ g; omega))), ⟨min s.size (en + 1), Nat.min_le_left _ _, h1.move _, by rw [drop_min s en henl, HD.out]⟩, (Bes.of_bel b1).setCell 2 _⟩
end Go.Proofs.YthaoohckgilahaaDoor

/-
  Package scan: letter, named.
-/
namespace Go.Proofs.YthaoohckgilahaaDoor
open Go.RowKit
set_option maxRecDepth 1000000
set_option maxHeartbeats 1000000

theorem letter_int (c : UInt8) : M.letterB c = (decide (97 ≤ (c.toNat : Int)) && decide ((c.toNat : Int) ≤ 122)) := by
  unfold M.letterB
  rw [Bool.eq_iff_iff]
  simp only [decide_eq_true_eq, Bool.and_eq_true]
  omega
theorem letter_to (c : UInt8) (b : Bool) (h : M.letterB c = b) (w : World) : Calls Tryd.prog 84 #[.int .u8 (c.toNat : Int)] w fun e w' => e = .returned (.bool b) ∧ w' = w := by
  rw [letter_int] at h
  have H := Lib.hid h
  clear h
  go_enter Tryd.func84, Tryd.ntmps84
  go_wp2
  · rename_i h9
    go_ret
    exact ⟨by rw [← H.out, decide_eq_true h9]; rfl, rfl⟩
  · rename_i h9
    go_ret
    exact ⟨by rw [← H.out, decide_eq_false (by omega)]; rfl, rfl⟩
/-- A rune that ends a name. -/
def endP (r : Nat) : Bool := if r < 128 then M.endB (UInt8.ofNat r) else false
theorem endP_byte (b : UInt8) (h : b.toNat < 128) : endP b.toNat = M.endB b := by
  rw [endP, if_pos h, UInt8.ofNat_toNat]
theorem endB_low (b : UInt8) (h : 128 ≤ b.toNat) : M.endB b = false := by
  unfold M.endB
  rw [Bool.or_eq_false_iff]
  constructor
  · rw [M.white_nat, decide_eq_false_iff_not]; omega
  · rw [decide_eq_false_iff_not]; rintro rfl; exact absurd h (by decide)
theorem named1_any (r : Nat) (hr : r ≤ 1114111) (w : World) : Calls Tryd.prog 86 #[.int .i32 (r : Int)] w fun e w' => e = .returned (.bool (endP r)) ∧ w' = w := by
  by_cases h128 : r < 128
  · obtain ⟨c, hc⟩ : ∃ c : UInt8, c.toNat = r := ⟨UInt8.ofNat r, by rw [UInt8.toNat_ofNat']; omega⟩
    subst hc
    have HP := Lib.hid (show endP c.toNat = (((c.toNat : Int) == 62) || M.white c) by
      rw [endP_byte c h128, M.endB, Bool.or_comm]
      congr 1
      rw [Bool.eq_iff_iff]
      simp only [decide_eq_true_eq, beq_iff_eq]
      rw [← UInt8.toNat_inj]
      show c.toNat = 62 ↔ _
      omega)
    obtain ⟨b, hb⟩ : ∃ b, M.white c = b := ⟨_, rfl⟩
    have HW := Lib.hid hb
    rw [hb] at HP
    clear hb
    have hl : decide ((c.toNat : Int) < 128) = true := by simp; omega
    go_enter Tryd.func86, Tryd.ntmps86
    go_wp2_with (go_at_call 45; refine (white_to c b HW.out _).mono ?_; rintro e w' ⟨rfl, rfl⟩)
    · rename_i h9
      go_ret
      exact ⟨by rw [HP.out, show ((c.toNat : Int) == 62) = true by simp [h9]]; rfl, rfl⟩
    · go_ret
      exact ⟨by rw [HP.out]; rfl, rfl⟩
  · have HP := Lib.hid (show endP r = false by rw [endP, if_neg h128])
    have h1 : ((r : Int) == 62) = false := by simp; omega
    have h2 : decide ((r : Int) < 128) = false := by simp; omega
    go_enter Tryd.func86, Tryd.ntmps86
    go_wp2
    go_ret
    exact ⟨by rw [HP.out]; rfl, rfl⟩
/-- Does the name of a tag begin here? -/
def nameQ (l : List UInt8) : Bool := ((byteN l 0).toNat == 60) && M.letterB (byteN l (if (byteN l 1).toNat = 47 then 2 else 1))
theorem fold1_47 (c : UInt8) : (M.fold1 c).toNat = 47 ↔ c = 47 := by
  rw [← UInt8.toNat_inj, M.fold1_nat]
  show _ ↔ c.toNat = 47
  split <;> omega
theorem fold1_60 (c : UInt8) : (M.fold1 c).toNat = 60 ↔ c = 60 := by
  rw [← UInt8.toNat_inj, M.fold1_nat]
  show _ ↔ c.toNat = 60
  split <;> omega
theorem nameEnd_eq (l : List UInt8) : M.nameEnd l = if nameQ l = true then some (l.dropWhile (fun c => !M.endB c)) else none := by
  match l with
  | [] => rfl
  | [c] =>
    have : nameQ [c] = false := by
      have h1 : byteN [c] 1 = 0 := rfl
      rw [nameQ, if_neg (by rw [h1]; decide), h1, show M.letterB 0 = false by decide, Bool.and_false]
    rw [this]; rfl
  | c :: d :: t =>
    have e0 : byteN (c :: d :: t) 0 = M.fold1 c := rfl
    have e1 : byteN (c :: d :: t) 1 = M.fold1 d := rfl
    have e2 : byteN (c :: d :: t) 2 = (t.head?.map M.fold1).getD 0 := by cases t <;> rfl
    have key : (c = 60 ∧ (M.letterB (M.fold1 d) = true ∨ (d = 47 ∧ ∃ x, t.head? = some x ∧ M.letterB (M.fold1 x) = true))) ↔ nameQ (c :: d :: t) = true := by
      rw [nameQ, e0, Bool.and_eq_true, beq_iff_eq, fold1_60, e1]
      refine and_congr_right fun _ => ?_
      by_cases h47 : d = 47
      · subst h47
        rw [if_pos (by decide), e2, show M.letterB (M.fold1 47) = false by decide]
        cases t with
        | nil => simp [show M.letterB 0 = false by decide]
        | cons x y => simp
      · rw [if_neg (by rw [fold1_47]; exact h47), e1]
        simp [h47]
    rw [M.nameEnd]
    by_cases hc : (c = 60 ∧ (M.letterB (M.fold1 d) = true ∨ (d = 47 ∧ ∃ x, t.head? = some x ∧ M.letterB (M.fold1 x) = true)))
    · rw [if_pos hc, if_pos (key.1 hc)]
    · rw [if_neg hc, if_neg (fun h9 => hc (key.2 h9))]
def endOf (s : ByteArray) : Option (List UInt8) → Int
  | some e => ((s.size - e.length : Nat) : Int)
  | none => 0
theorem pred_end (W : World) : PredAtRunes Tryd.prog 86 #[] endP W := fun W' x hx _ => (named1_any x hx W').mono (fun _ _ h => ⟨h.1, 0, h.2⟩)
theorem ix_any (s : ByteArray) (k : Nat) (r : Int) (h : Lib.idxFunc endP true (s.extract k s.size) = r) (W : World) : Calls Tryd.prog 85 #[.string (s.extract k s.size), .func (.func 86) #[] #[]] W fun e w' => e = .returned (.int .i64 r) ∧ Bel W w' := by
  subst h
  exact Tryd.strings_IndexFunc_runes 86 #[] (enters_of Tryd.func86 (by kernel_rfl) rfl) endP (s.extract k s.size) W (pred_end W)
theorem ix_end (s : ByteArray) (k : Nat) : Lib.idxFunc endP true (s.extract k s.size) = M.firstB M.endB 0 (s.data.toList.drop k) := by
  have h := M.idx_byte endP M.endB endP_byte (fun r hr => by rw [endP, if_neg (by omega)]) endB_low (s.extract k s.size) (s.extract k s.size).size 0 (Nat.zero_le _) (Nat.le_refl _)
  rw [drop_str, List.drop_zero] at h
  exact h
theorem first_end (s : ByteArray) (k : Nat) (hk : k ≤ s.size) : (M.firstB M.endB 0 (s.data.toList.drop k) = -1 ∧ endOf s (some ((s.data.toList.drop k).dropWhile (fun c => !M.endB c))) = (s.size : Int)) ∨ ∃ n : Nat, M.firstB M.endB 0 (s.data.toList.drop k) = (n : Int) ∧ endOf s (some ((s.data.toList.drop k).dropWhile (fun c => !M.endB c))) = ((k + n : Nat) : Int) ∧ k + n ≤ s.size := by
  have hl := congrArg List.length (List.takeWhile_append_dropWhile (p := fun c => !M.endB c) (l := s.data.toList.drop k))
  rw [List.length_append, List.length_drop, ← Lib.size_eq] at hl
  unfold M.firstB endOf
  by_cases hd : (s.data.toList.drop k).dropWhile (fun c => !M.endB c) = []
  · left
    rw [if_pos hd, hd]
    exact ⟨rfl, by simp⟩
  · right
    rw [if_neg hd, Nat.zero_add]
    exact ⟨_, rfl, by simp only; omega, by omega⟩
theorem named_any (g : Nat) (s low : ByteArray) (k : Nat) (w : World) (h : Lk w g s low k) (hl : Low s low) (hk : k ≤ s.size) (hs : s.size ≤ 3000) (o : Option (List UInt8)) (ho : M.nameEnd (s.data.toList.drop k) = o) : Calls Tryd.prog 72 #[.pointer (some ⟨g, 0, none⟩)] w fun e w' => e = .returned (.tuple #[.int .i64 (endOf s o), .bool o.isSome]) ∧ Bel w w' := by
  rw [nameEnd_eq, nameQ] at ho
  obtain ⟨c0, hc0⟩ : ∃ c, byteN (s.data.toList.drop k) 0 = c := ⟨_, rfl⟩
  have B0 : ∀ W, Lk W g s low k → Calls Tryd.prog 75 #[.pointer (some ⟨g, 0, none⟩), .int .i64 0] W fun e w' => e = .returned (.int .u8 (c0.toNat : Int)) ∧ ∃ m, w' = W.drewN m := fun W hW => by
    have := byteAt_any g s low k 0 W hW hl hk hs (by decide)
    rw [hc0] at this
    exact this
  obtain ⟨c1, hc1⟩ : ∃ c, byteN (s.data.toList.drop k) 1 = c := ⟨_, rfl⟩
  have B1 : ∀ W, Lk W g s low k → Calls Tryd.prog 75 #[.pointer (some ⟨g, 0, none⟩), .int .i64 1] W fun e w' => e = .returned (.int .u8 (c1.toNat : Int)) ∧ ∃ m, w' = W.drewN m := fun W hW => by
    have := byteAt_any g s low k 1 W hW hl hk hs (by decide)
    rw [hc1] at this
    exact this
  obtain ⟨c2, hc2⟩ : ∃ c, byteN (s.data.toList.drop k) 2 = c := ⟨_, rfl⟩
  have B2 : ∀ W, Lk W g s low k → Calls Tryd.prog 75 #[.pointer (some ⟨g, 0, none⟩), .int .i64 2] W fun e w' => e = .returned (.int .u8 (c2.toNat : Int)) ∧ ∃ m, w' = W.drewN m := fun W hW => by
    have := byteAt_any g s low k 2 W hW hl hk hs (by decide)
    rw [hc2] at this
    exact this
  rw [hc0, hc1] at ho
  cases h60 : ((c0.toNat : Int) != 60) with
  | true =>
    have HO := Lib.hid (show o = none by rw [← ho, if_neg (by simp at h60; simp; omega)])
    cases h47 : ((c1.toNat : Int) == 47) with
    | true =>
      clear ho hc0 hc1 hc2
      go_enter Tryd.func72, Tryd.ntmps72
      go_wp2_with fail
      refine (B1 _ h).mono ?_
      rintro e W1 ⟨rfl, m1, rfl⟩
      have h1 := Box.drewN h m1
      have hb1 : Bel w (w.drewN m1) := (Bel.refl w).drewN m1
      generalize w.drewN m1 = W1 at *
      go_wp2_with fail
      refine (B0 _ h1).mono ?_
      rintro e W2 ⟨rfl, m2, rfl⟩
      have h2 := Box.drewN h1 m2
      have hb2 : Bel w (W1.drewN m2) := hb1.drewN m2
      generalize W1.drewN m2 = W2 at *
      go_wp2_with fail
      go_ret2
      exact ⟨by rw [HO.out]; rfl, hb2⟩
    | false =>
      clear ho hc0 hc1 hc2
      go_enter Tryd.func72, Tryd.ntmps72
      go_wp2_with fail
      refine (B1 _ h).mono ?_
      rintro e W1 ⟨rfl, m1, rfl⟩
      have h1 := Box.drewN h m1
      have hb1 : Bel w (w.drewN m1) := (Bel.refl w).drewN m1
      generalize w.drewN m1 = W1 at *
      go_wp2_with fail
      refine (B0 _ h1).mono ?_
      rintro e W2 ⟨rfl, m2, rfl⟩
      have h2 := Box.drewN h1 m2
      have hb2 : Bel w (W1.drewN m2) := hb1.drewN m2
      generalize W1.drewN m2 = W2 at *
      go_wp2_with fail
      go_ret2
      exact ⟨by rw [HO.out]; rfl, hb2⟩
  | false =>
    have e60 : (c0.toNat == 60) = true := by simp at h60; simp; omega
    rw [e60, Bool.true_and] at ho
    clear e60
    have hix := ix_end s k
    have hir := first_end s k hk
    cases h47 : ((c1.toNat : Int) == 47) with
    | true =>
      have e47 : c1.toNat = 47 := by simp at h47; omega
      rw [if_pos e47, hc2] at ho
      clear e47
      cases hb : M.letterB c2 with
      | false =>
        have HB := Lib.hid hb
        have HO := Lib.hid (show o = none by rw [← ho, hb]; rfl)
        clear ho hc0 hc1 hc2 hb hix hir
        skip
        go_enter Tryd.func72, Tryd.ntmps72
        go_wp2_with fail
        refine (B1 _ h).mono ?_
        rintro e W1 ⟨rfl, m1, rfl⟩
        have h1 := Box.drewN h m1
        have hb1 : Bel w (w.drewN m1) := (Bel.refl w).drewN m1
        generalize w.drewN m1 = W1 at *
        go_wp2_with fail
        refine (B0 _ h1).mono ?_
        rintro e W2 ⟨rfl, m2, rfl⟩
        have h2 := Box.drewN h1 m2
        have hb2 : Bel w (W1.drewN m2) := hb1.drewN m2
        generalize W1.drewN m2 = W2 at *
        go_wp2_with fail
        refine (B2 _ h2).mono ?_
        rintro e W3 ⟨rfl, m3, rfl⟩
        have h3 := Box.drewN h2 m3
        have hb3 : Bel w (W2.drewN m3) := hb2.drewN m3
        generalize W2.drewN m3 = W3 at *
        go_wp2_with fail
        refine (letter_to c2 _ HB.out _).mono ?_
        rintro e W4 ⟨rfl, rfl⟩
        have c0 := Box.cell h3 0 _ rfl
        have c2 := Box.cell h3 2 _ rfl
        clear h1 h2
        go_wp2_with fail
        go_ret2
        exact ⟨by rw [HO.out]; rfl, hb3⟩
      | true =>
        have HB := Lib.hid hb
        have HO := Lib.hid (show o = some ((s.data.toList.drop k).dropWhile (fun c => !M.endB c)) by rw [← ho, hb]; rfl)
        clear ho hc0 hc1 hc2 hb
        rcases hir with ⟨hr, he⟩ | ⟨n, hr, he, hkn⟩
        · rw [hr] at hix
          have HX := Lib.hid hix
          have HE := Lib.hid he
          clear hix hr he
          skip
          go_enter Tryd.func72, Tryd.ntmps72
          go_wp2_with fail
          refine (B1 _ h).mono ?_
          rintro e W1 ⟨rfl, m1, rfl⟩
          have h1 := Box.drewN h m1
          have hb1 : Bel w (w.drewN m1) := (Bel.refl w).drewN m1
          generalize w.drewN m1 = W1 at *
          go_wp2_with fail
          refine (B0 _ h1).mono ?_
          rintro e W2 ⟨rfl, m2, rfl⟩
          have h2 := Box.drewN h1 m2
          have hb2 : Bel w (W1.drewN m2) := hb1.drewN m2
          generalize W1.drewN m2 = W2 at *
          go_wp2_with fail
          refine (B2 _ h2).mono ?_
          rintro e W3 ⟨rfl, m3, rfl⟩
          have h3 := Box.drewN h2 m3
          have hb3 : Bel w (W2.drewN m3) := hb2.drewN m3
          generalize W2.drewN m3 = W3 at *
          go_wp2_with fail
          refine (letter_to c2 _ HB.out _).mono ?_
          rintro e W4 ⟨rfl, rfl⟩
          have c0 := Box.cell h3 0 _ rfl
          have c2 := Box.cell h3 2 _ rfl
          clear h1 h2
          go_wp2_with fail
          go_region_with ((go_at_call 85; refine (ix_any s k _ HX.out _).mono ?_; rintro e W5 ⟨rfl, b5⟩))
          all_goals (
            have hb5 := (Bel.drew hb3).trans b5
            have h5 := Box.bel h3 ((Bel.drew (Bel.refl W4)).trans b5)
            have e0 := Box.cell h5 0 _ rfl
            have e2 := Box.cell h5 2 _ rfl
            go_wp2_with fail
            go_ret2
            exact ⟨by rw [HO.out, HE.out]; rfl, hb5⟩)
        · rw [hr] at hix
          have HX := Lib.hid hix
          have HE := Lib.hid he
          clear hix hr he
          skip
          go_enter Tryd.func72, Tryd.ntmps72
          go_wp2_with fail
          refine (B1 _ h).mono ?_
          rintro e W1 ⟨rfl, m1, rfl⟩
          have h1 := Box.drewN h m1
          have hb1 : Bel w (w.drewN m1) := (Bel.refl w).drewN m1
          generalize w.drewN m1 = W1 at *
          go_wp2_with fail
          refine (B0 _ h1).mono ?_
          rintro e W2 ⟨rfl, m2, rfl⟩
          have h2 := Box.drewN h1 m2
          have hb2 : Bel w (W1.drewN m2) := hb1.drewN m2
          generalize W1.drewN m2 = W2 at *
          go_wp2_with fail
          refine (B2 _ h2).mono ?_
          rintro e W3 ⟨rfl, m3, rfl⟩
          have h3 := Box.drewN h2 m3
          have hb3 : Bel w (W2.drewN m3) := hb2.drewN m3
          generalize W2.drewN m3 = W3 at *
          go_wp2_with fail
          refine (letter_to c2 _ HB.out _).mono ?_
          rintro e W4 ⟨rfl, rfl⟩
          have c0 := Box.cell h3 0 _ rfl
          have c2 := Box.cell h3 2 _ rfl
          clear h1 h2
          go_wp2_with fail
          go_region_with ((go_at_call 85; refine (ix_any s k _ HX.out _).mono ?_; rintro e W5 ⟨rfl, b5⟩))
          all_goals (
            have hb5 := (Bel.drew hb3).trans b5
            have h5 := Box.bel h3 ((Bel.drew (Bel.refl W4)).trans b5)
            have e0 := Box.cell h5 0 _ rfl
            have e2 := Box.cell h5 2 _ rfl
            go_wp2_with fail
            go_ret2
            exact ⟨by rw [HO.out, HE.out]; rfl, hb5⟩)
    | false =>
      have e47 : ¬ c1.toNat = 47 := by simp at h47; omega
      rw [if_neg e47, hc1] at ho
      clear e47
      cases hb : M.letterB c1 with
      | false =>
        have HB := Lib.hid hb
        have HO := Lib.hid (show o = none by rw [← ho, hb]; rfl)
        clear ho hc0 hc1 hc2 hb hix hir
        skip
        go_enter Tryd.func72, Tryd.ntmps72
        go_wp2_with fail
        refine (B1 _ h).mono ?_
        rintro e W1 ⟨rfl, m1, rfl⟩
        have h1 := Box.drewN h m1
        have hb1 : Bel w (w.drewN m1) := (Bel.refl w).drewN m1
        generalize w.drewN m1 = W1 at *
        go_wp2_with fail
        refine (B0 _ h1).mono ?_
        rintro e W2 ⟨rfl, m2, rfl⟩
        have h2 := Box.drewN h1 m2
        have hb2 : Bel w (W1.drewN m2) := hb1.drewN m2
        generalize W1.drewN m2 = W2 at *
        go_wp2_with fail
        refine (B1 _ h2).mono ?_
        rintro e W3 ⟨rfl, m3, rfl⟩
        have h3 := Box.drewN h2 m3
        have hb3 : Bel w (W2.drewN m3) := hb2.drewN m3
        generalize W2.drewN m3 = W3 at *
        go_wp2_with fail
        refine (letter_to c1 _ HB.out _).mono ?_
        rintro e W4 ⟨rfl, rfl⟩
        have c0 := Box.cell h3 0 _ rfl
        have c2 := Box.cell h3 2 _ rfl
        clear h1 h2
        go_wp2_with fail
        go_ret2
        exact ⟨by rw [HO.out]; rfl, hb3⟩
      | true =>
        have HB := Lib.hid hb
        have HO := Lib.hid (show o = some ((s.data.toList.drop k).dropWhile (fun c => !M.endB c)) by rw [← ho, hb]; rfl)
        clear ho hc0 hc1 hc2 hb
        rcases hir with ⟨hr, he⟩ | ⟨n, hr, he, hkn⟩
        · rw [hr] at hix
          have HX := Lib.hid hix
          have HE := Lib.hid he
          clear hix hr he
          skip
          go_enter Tryd.func72, Tryd.ntmps72
          go_wp2_with fail
          refine (B1 _ h).mono ?_
          rintro e W1 ⟨rfl, m1, rfl⟩
          have h1 := Box.drewN h m1
          have hb1 : Bel w (w.drewN m1) := (Bel.refl w).drewN m1
          generalize w.drewN m1 = W1 at *
          go_wp2_with fail
          refine (B0 _ h1).mono ?_
          rintro e W2 ⟨rfl, m2, rfl⟩
          have h2 := Box.drewN h1 m2
          have hb2 : Bel w (W1.drewN m2) := hb1.drewN m2
          generalize W1.drewN m2 = W2 at *
          go_wp2_with fail
          refine (B1 _ h2).mono ?_
          rintro e W3 ⟨rfl, m3, rfl⟩
          have h3 := Box.drewN h2 m3
          have hb3 : Bel w (W2.drewN m3) := hb2.drewN m3
          generalize W2.drewN m3 = W3 at *
          go_wp2_with fail
          refine (letter_to c1 _ HB.out _).mono ?_
          rintro e W4 ⟨rfl, rfl⟩
          have c0 := Box.cell h3 0 _ rfl
          have c2 := Box.cell h3 2 _ rfl
          clear h1 h2
          go_wp2_with fail
          go_region_with ((go_at_call 85; refine (ix_any s k _ HX.out _).mono ?_; rintro e W5 ⟨rfl, b5⟩))
          all_goals (
            have hb5 := (Bel.drew hb3).trans b5
            have h5 := Box.bel h3 ((Bel.drew (Bel.refl W4)).trans b5)
            have e0 := Box.cell h5 0 _ rfl
            have e2 := Box.cell h5 2 _ rfl
            go_wp2_with fail
            go_ret2
            exact ⟨by rw [HO.out, HE.out]; rfl, hb5⟩)
        · rw [hr] at hix
          have HX := Lib.hid hix
          have HE := Lib.hid he
          clear hix hr he
          skip
          go_enter Tryd.func72, Tryd.ntmps72
          go_wp2_with fail
          refine (B1 _ h).mono ?_
          rintro e W1 ⟨rfl, m1, rfl⟩
          have h1 := Box.drewN h m1
          have hb1 : Bel w (w.drewN m1) := (Bel.refl w).drewN m1
          generalize w.drewN m1 = W1 at *
          go_wp2_with fail
          refine (B0 _ h1).mono ?_
          rintro e W2 ⟨rfl, m2, rfl⟩
          have h2 := Box.drewN h1 m2
          have hb2 : Bel w (W1.drewN m2) := hb1.drewN m2
          generalize W1.drewN m2 = W2 at *
          go_wp2_with fail
          refine (B1 _ h2).mono ?_
          rintro e W3 ⟨rfl, m3, rfl⟩
          have h3 := Box.drewN h2 m3
          have hb3 : Bel w (W2.drewN m3) := hb2.drewN m3
          generalize W2.drewN m3 = W3 at *
          go_wp2_with fail
          refine (letter_to c1 _ HB.out _).mono ?_
          rintro e W4 ⟨rfl, rfl⟩
          have c0 := Box.cell h3 0 _ rfl
          have c2 := Box.cell h3 2 _ rfl
          clear h1 h2
          go_wp2_with fail
          go_region_with ((go_at_call 85; refine (ix_any s k _ HX.out _).mono ?_; rintro e W5 ⟨rfl, b5⟩))
          all_goals (
            have hb5 := (Bel.drew hb3).trans b5
            have h5 := Box.bel h3 ((Bel.drew (Bel.refl W4)).trans b5)
            have e0 := Box.cell h5 0 _ rfl
            have e2 := Box.cell h5 2 _ rfl
            go_wp2_with fail
            go_ret2
            exact ⟨by rw [HO.out, HE.out]; rfl, hb5⟩)
end Go.Proofs.YthaoohckgilahaaDoor

/-
  What a scan needs of attributes and of first bytes, in plain laws.
-/
namespace Go.Proofs.YthaoohckgilahaaDoor.M
open Go

theorem quotedA_val (q : UInt8) (t v : Bs) (h : (quotedA q t).1 = some v) : v.length ≤ t.length := by
  unfold quotedA at h
  split at h
  · cases h
  · injection h with h
    subst h
    exact (List.takeWhile_prefix (fun c => c != q) (l := t)).length_le
theorem valueA_val (l v : Bs) (h : (valueA l).1 = some v) : v.length ≤ l.length := by
  have h0 := (suf_dropWhile white l).len
  unfold valueA at h
  split at h
  · injection h with h
    subst h
    exact Nat.zero_le _
  · rename_i q t ht
    rw [ht, List.length_cons] at h0
    split at h
    · have := quotedA_val q t v h
      omega
    · injection h with h
      subst h
      have := (List.takeWhile_prefix valB (l := q :: t)).length_le
      rw [List.length_cons] at this
      omega
theorem nextA_val (l : Bs) (p : Bs × Bs) (r : Bs) (h : nextA l = (some p, r)) : p.2.length ≤ l.length := by
  have h0 := (suf_dropWhile skipB l).len
  unfold nextA at h
  split at h
  · cases h
  · rename_i c t hc
    rw [hc, List.length_cons] at h0
    split at h
    · cases h
    · have h2 := (suf_dropWhile white (t.dropWhile nameB)).len
      have h3 := (suf_dropWhile nameB t).len
      unfold afterA at h
      split at h
      · injection h with h _
        injection h with h
        subst h
        exact Nat.zero_le _
      · rename_i e u he
        rw [he, List.length_cons] at h2
        split at h
        · injection h with h _
          cases hv : (valueA u).1 with
          | none => rw [hv] at h; cases h
          | some v =>
            rw [hv] at h
            injection h with h
            subst h
            have := valueA_val u v hv
            show (fold v).length ≤ _
            rw [fold_len]
            omega
        · injection h with h _
          injection h with h
          subst h
          exact Nat.zero_le _
theorem attrsA_val : ∀ (k : Nat) (l : Bs), l.length ≤ k → ∀ p ∈ (attrsA l).1, p.2.length ≤ l.length
  | k, l, h => by
    cases hn : nextA l with
    | mk o r =>
      cases o with
      | none => rw [attrsA_none l r hn]; intro p hp; cases hp
      | some a =>
        have hl := nextA_less l a (by rw [hn])
        rw [hn] at hl
        simp only at hl
        match k, h with
        | 0, h => omega
        | k + 1, h =>
          have ih := attrsA_val k r (by omega)
          rw [attrsA_some l a r hn]
          intro p hp
          rcases List.mem_cons.1 hp with rfl | hp
          · exact nextA_val l _ r hn
          · have := ih p hp; omega
theorem fold1_eq (x : UInt8) (hx : x.toNat < 65 ∨ (90 < x.toNat ∧ x.toNat < 97)) (c : UInt8) : fold1 c = x ↔ c = x := by
  rw [← UInt8.toNat_inj, ← UInt8.toNat_inj, fold1_nat]
  split <;> omega
theorem pre2_fold (x : UInt8) (hx : x.toNat < 65 ∨ (90 < x.toNat ∧ x.toNat < 97)) (l : Bs) : Lib.hasPrefix (fold l) [60, x] = Lib.hasPrefix l [60, x] := by
  have e1 := fold1_eq 60 (.inl (by decide))
  have e2 := fold1_eq x hx
  match l with
  | [] => rfl
  | [c] =>
    show ((60 == fold1 c) && false) = ((60 == c) && false)
    rw [Bool.and_false, Bool.and_false]
  | c :: d :: t =>
    show ((60 == fold1 c) && ((x == fold1 d) && true)) = ((60 == c) && ((x == d) && true))
    have a1 : (60 == fold1 c) = (60 == c) := by rw [Bool.eq_iff_iff, beq_iff_eq, beq_iff_eq]; exact ⟨fun h => ((e1 c).1 h.symm).symm, fun h => ((e1 c).2 h.symm).symm⟩
    have a2 : (x == fold1 d) = (x == d) := by rw [Bool.eq_iff_iff, beq_iff_eq, beq_iff_eq]; exact ⟨fun h => ((e2 d).1 h.symm).symm, fun h => ((e2 d).2 h.symm).symm⟩
    rw [a1, a2]
theorem nameEnd_suf (l e : Bs) (h : nameEnd l = some e) : Suf e l := by
  unfold nameEnd at h
  split at h
  · split at h
    · injection h with h
      subst h
      exact suf_dropWhile _ _
    · cases h
  · cases h
end Go.Proofs.YthaoohckgilahaaDoor.M

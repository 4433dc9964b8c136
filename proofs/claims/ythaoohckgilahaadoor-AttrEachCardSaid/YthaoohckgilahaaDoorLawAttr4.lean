/-
  The law AttrEach.
-/
import Derived.Test.YthaoohckgilahaaDoorLawAttr
namespace Go.Proofs.YthaoohckgilahaaDoor
open Go.RowKit
set_option maxRecDepth 1000000

theorem attrsA_nil (l : List UInt8) (h : (M.attrsA l).1 = []) : M.nextA l = (none, (M.attrsA l).2) := by
  cases hn : M.nextA l with
  | mk o r =>
    cases o with
    | none => rw [M.attrsA_none l r hn]
    | some p => rw [M.attrsA_some l p r hn] at h; cases h
theorem attrsA_cons (l : List UInt8) (p : List UInt8 × List UInt8) (t : List (List UInt8 × List UInt8)) (h : (M.attrsA l).1 = p :: t) : ∃ r, M.nextA l = (some p, r) ∧ (M.attrsA r).1 = t ∧ (M.attrsA r).2 = (M.attrsA l).2 := by
  cases hn : M.nextA l with
  | mk o r =>
    cases o with
    | none => rw [M.attrsA_none l r hn] at h; cases h
    | some q =>
      rw [M.attrsA_some l q r hn] at h
      injection h with h1 h2
      subst h1
      exact ⟨r, rfl, h2, by rw [M.attrsA_some l q r hn]⟩
theorem readyA_ok (s : ByteArray) (k : Nat) (hk : k ≤ s.size) (hs : s.size ≤ 3000) : readyA s.data.toList (k : Int) = 0 := by
  unfold readyA
  rw [← Lib.size_eq, if_neg (by omega), if_neg (by omega)]
set_option maxHeartbeats 4000000 in
theorem attrEachTrue (s : ByteArray) (at_ : Int) (w : World) (_ : s.size ≤ reachBytes) (_hat : -9223372036854775808 ≤ at_ ∧ at_ ≤ 9223372036854775807) (hL : Len w) : Calls Tryd.prog 4 #[.string s, .int .i64 at_] w fun e w' => e = .returned (.bool true) ∧ Bel w w' := by
  rcases readyA_cases s at_ with ⟨h1, h2⟩ | ⟨h1, h2, h3⟩ | ⟨h1, h2, k, rfl, hk⟩
  · have H := Lib.hid h1
    clear h1
    go_enter Tryd.func4, Tryd.ntmps4
    go_wp2_with (first | (go_at_call 9; refine (allBad_any s at_ 2 rfl H.out _).mono ?_; rintro e w1 ⟨rfl, b1⟩) | (go_at_call 15; refine (attrBegun_any _ (hL.bel b1)).mono ?_; rintro e w2 ⟨rfl, b2⟩))
    go_ret
    exact ⟨rfl, b1.trans b2⟩
  · have H := Lib.hid h1
    clear h1 h3
    go_enter Tryd.func4, Tryd.ntmps4
    go_wp2_with (first | (go_at_call 9; refine (allBad_any s at_ 3 rfl H.out _).mono ?_; rintro e w1 ⟨rfl, b1⟩) | (go_at_call 15; refine (attrBegun_any _ (hL.bel b1)).mono ?_; rintro e w2 ⟨rfl, b2⟩))
    go_ret
    exact ⟨rfl, b1.trans b2⟩
  · skip
    obtain ⟨xs, r, hA⟩ : ∃ xs r, M.attrsA (s.data.toList.drop k) = (xs, r) := ⟨_, _, rfl⟩
    have HA := Lib.hid hA
    have hxl : xs.length ≤ s.size := by
      have := attrsA_len (s.data.toList.drop k)
      rw [hA, List.length_drop, ← Lib.size_eq] at this
      have h9 : xs.length ≤ s.size - k := this
      omega
    have H := Lib.hid h1
    have hrl : r.length ≤ s.size := by
      have := (M.attrsA_suf _ (s.data.toList.drop k) (Nat.le_refl _)).1.len
      rw [hA, List.length_drop, ← Lib.size_eq] at this
      have h9 : r.length ≤ s.size - k := this
      omega
    obtain ⟨en, hen⟩ : ∃ en : Nat, en = s.size - r.length := ⟨_, rfl⟩
    have HEN := Lib.hid hen
    have henl : en ≤ s.size := by omega
    clear h1 hA
    go_enter Tryd.func4, Tryd.ntmps4
    go_wp2_with fail
    refine (allOk_any s k hk h2 xs r HA.out H.out _).mono ?_
    rintro e w1 ⟨v, rfl, hown, b1⟩
    rw [← hen]
    have hsl := hown.sl
    clear hown hen
    obtain ⟨a, ca, rfl, hc1, hc2, hn, hx⟩ := hsl
    unfold maxLen at hc2
    have HX := Lib.hid hx
    have HN := Lib.hid hn
    clear hx hn
    go_wp2_with (first | (go_at_call 15; refine (attrBegun_any _ (hL.bel b1)).mono ?_; rintro e w2 ⟨rfl, b2⟩))
    have bA := b1.trans b2
    go_loopw [1, 8] (fun at_ i wr => ∃ (j k' : Nat), j ≤ xs.length ∧ i = .int .i64 (j : Int) ∧ at_ = .int .i64 (k' : Int) ∧ k' ≤ s.size ∧ Bel w1 wr ∧ Hid ((M.attrsA (s.data.toList.drop k')).1 = xs.drop j ∧ (M.attrsA (s.data.toList.drop k')).2 = r)) (fun _ i _ => xs.length - (intOf i).toNat)
    case atStart => exact ⟨0, k, by omega, rfl, rfl, hk, b2, Lib.hid ⟨by rw [HA.out]; rfl, by rw [HA.out]⟩⟩
    case round =>
      clear bA b2
      obtain ⟨j, k', hj, rfl, rfl, hk', hb, HJ⟩ := hrel
      by_cases hlt : j < xs.length
      · obtain ⟨p, hp⟩ : ∃ p, xs[j]? = some p := ⟨_, List.getElem?_eq_getElem hlt⟩
        have hdj : xs.drop j = p :: xs.drop (j + 1) := by
          rw [List.drop_eq_getElem_cons hlt, (List.getElem?_eq_some_iff.1 hp).2]
        obtain ⟨r2, hn2, hr2a, hr2b⟩ := attrsA_cons (s.data.toList.drop k') p (xs.drop (j + 1)) (by rw [HJ.out.1, hdj])
        have hless := M.nextA_less _ p (by rw [hn2])
        rw [hn2] at hless
        have hless2 : r2.length < s.size - k' := by have h9 : r2.length < (s.data.toList.drop k').length := hless; rwa [List.length_drop, ← Lib.size_eq] at h9
        have hsuf := M.nextA_suf (s.data.toList.drop k')
        rw [hn2] at hsuf
        have hd2 : s.data.toList.drop (s.size - r2.length) = r2 := by
          have h9 := M.Suf.at (M.Suf.trans (a := r2) hsuf (M.Suf.drop s.data.toList k'))
          rw [← Lib.size_eq] at h9
          exact h9.symm
        cases a with
        | none => exfalso; have h3 := hlt; rw [HN.out rfl, List.length_nil] at h3; omega
        | some x =>
          obtain ⟨g, o1, rfl, hx'⟩ := HX.out x rfl
          obtain ⟨c1, c2⟩ := hx' j p hp
          have c1 := (hb.cell (World.block_lt_of_cell? _ _ c1)).trans c1
          have c2 := (hb.cell (World.block_lt_of_cell? _ _ c2)).trans c2
          have hgl := World.block_lt_of_cell? _ _ c1
          have hgl : g < wr.heap.size := hgl
          have nx := nextOk_any s k' hk' h2 (some p) r2 hn2 (readyA_ok s k' hk' h2) wr
          obtain ⟨k2, hk2⟩ : ∃ k2, s.size - r2.length = k2 := ⟨_, rfl⟩
          have HR := Lib.hid (show (M.attrsA (s.data.toList.drop k2)).1 = xs.drop (j + 1) ∧ (M.attrsA (s.data.toList.drop k2)).2 = r by rw [← hk2, hd2]; exact ⟨hr2a, by rw [hr2b]; exact HJ.out.2⟩)
          have hk2l : k2 ≤ s.size := by omega
          have hlt2 : ¬ k2 ≤ k' := by omega
          have hlt3 : decide ((k2 : Int) ≤ (k' : Int)) = false := by simp; omega
          rw [hk2] at nx
          rw [show agA (some p) = .agg #[.string ⟨p.1.toArray⟩, .string ⟨p.2.toArray⟩] from rfl, show (some p).isSome = true from rfl] at nx
          obtain ⟨q1, hq1⟩ : ∃ q1 : ByteArray, q1 = ⟨p.1.toArray⟩ := ⟨_, rfl⟩
          obtain ⟨q2, hq2⟩ : ∃ q2 : ByteArray, q2 = ⟨p.2.toArray⟩ := ⟨_, rfl⟩
          rw [← hq1, ← hq2] at nx
          rw [← hq1] at c1
          rw [← hq2] at c2
          clear hq1 hq2 hd2 hsuf hless hless2 hk2 hdj hn2 hr2a hr2b hx' hp
          go_wp2_with fail
          refine nx.mono ?_
          rintro e w3 ⟨rfl, b3⟩
          have c1 := (b3.cell (p := ⟨g, _, none⟩) hgl).trans c1
          have c2 := (b3.cell (p := ⟨g, _, none⟩) hgl).trans c2
          have hgl := Nat.lt_of_lt_of_le hgl b3.size
          have hb := hb.trans b3
          clear nx b3
          go_wp2_with fail
          have hbx := Box.new w3 23 [.string q1, .string q2]
          have hbx : Box (w3.alloc (.cells #[.string q1, .string q2] 23)) w3.heap.size 23 [.string q1, .string q2] := hbx
          have hbb : Bel w3 (w3.alloc (.cells #[.string q1, .string q2] 23)) := (Bel.refl w3).alloc _
          have c1 := (hbb.cell (p := ⟨g, _, none⟩) hgl).trans c1
          have c2 := (hbb.cell (p := ⟨g, _, none⟩) hgl).trans c2
          have hb := hb.trans hbb
          generalize (w3.alloc (.cells #[.string q1, .string q2] 23)) = W at *
          generalize w3.heap.size = G at *
          have e1 := hbx.cell 0 _ rfl
          have e2 := hbx.cell 1 _ rfl
          clear hbx hbb hgl
          go_quiet (fail)
          go_wp2_with fail
          go_roundw
          case rel => exact ⟨j + 1, k2, by omega, by go_num, rfl, hk2l, hb.drewN _, HR⟩
          case measure => simp [intOf]; omega
      · obtain rfl : j = xs.length := by omega
        have hn2 := attrsA_nil _ (by rw [HJ.out.1]; simp)
        rw [HJ.out.2] at hn2
        have hend := M.nextA_end _ _ hn2
        have nx := nextOk_any s k' hk' h2 none r hn2 (readyA_ok s k' hk' h2) wr
        rw [← HEN.out] at nx
        rw [show agA none = .agg #[.string ⟨#[]⟩, .string ⟨#[]⟩] from rfl, show (none : Option (List UInt8 × List UInt8)).isSome = false from rfl] at nx
        have hcase : en = s.size ∨ ∃ h : en < s.size, s[en].toNat = 62 := by
          rcases hend with h9 | ⟨t, h9⟩
          · left; rw [HEN.out, h9]; simp
          · right
            have hsuf := (M.attrsA_suf _ (s.data.toList.drop k) (Nat.le_refl _)).1
            rw [HA.out] at hsuf
            have hd := M.Suf.at (M.Suf.trans (a := r) hsuf (M.Suf.drop s.data.toList k))
            rw [← Lib.size_eq, ← HEN.out] at hd
            have hlt : en < s.size := by rw [HEN.out, h9, List.length_cons]; rw [h9, List.length_cons] at hrl; omega
            refine ⟨hlt, ?_⟩
            have hb := byte_at s en hlt
            rw [← List.head?_drop, ← hd, h9] at hb
            injection hb with hb
            rw [← hb]; rfl
        clear hn2 hend
        go_wp2_with fail
        refine nx.mono ?_
        rintro e w3 ⟨rfl, b3⟩
        rcases hcase with rfl | ⟨hlt9, h62⟩
        · go_wp2_with fail
          go_ret
          exact ⟨rfl, ((b1.trans hb).trans b3).alloc _⟩
        · have hne : ((en : Int) == (s.size : Int)) = false := by simp; omega
          have h62i : ((s[en].toNat : Int) == 62) = true := by simp; omega
          go_wp2_with fail
          go_ret
          exact ⟨rfl, ((b1.trans hb).trans b3).alloc _⟩
end Go.Proofs.YthaoohckgilahaaDoor

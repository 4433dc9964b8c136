/-
  The law RestPoints.
-/
import Derived.Test.YteingkjdemlhgaaGreatDoorG13
import Derived.Test.YteingkjdemlhgaaGreatDoorLawText
import Derived.Test.YteingkjdemlhgaaGreatDoorG10
import Derived.Test.YteingkjdemlhgaaGreatDoorG14
import Derived.Deep.Cut
import Derived.Deep.CutRange
namespace Go.Proofs.YteingkjdemlhgaaGreatDoor
open Go.RowKit
set_option maxRecDepth 1000000

/-- What is owned and lies behind what is changed stays. -/
theorem Own.apart {B : Nat} {e : TypeId} {w w' : World} {v u : Value} {xs : List Value} (h : Own B e w v xs) (hu : ∀ k, u.ownBlock = some k → k < B) (keep : ∀ k, u.ownBlock ≠ some k → k < w.heap.size → w'.heap[k]? = w.heap[k]?) : Own B e w' v xs :=
  h.keep (fun k hk => keep k (fun h2 => by have := hu k h2; have := (h.lt k hk).1; omega) (h.lt k hk).2)
theorem OwnA.apart {B : Nat} {w w' : World} {v u : Value} {xs : List (List UInt8 × List UInt8)} (h : OwnA B w v xs) (hu : ∀ k, u.ownBlock = some k → k < B) (keep : ∀ k, u.ownBlock ≠ some k → k < w.heap.size → w'.heap[k]? = w.heap[k]?) : OwnA B w' v xs :=
  h.keep (fun k hk => keep k (fun h2 => by have := hu k h2; have := (h.lt k hk).1; omega) (h.lt k hk).2)
theorem Own.under {B C : Nat} {e : TypeId} {w : World} {v : Value} {xs : List Value} (h : Own B e w v xs) (hC : w.heap.size ≤ C) : ∀ k, v.ownBlock = some k → k < C := fun k hk => Nat.lt_of_lt_of_le (h.lt k hk).2 hC
/-- 'spoilInts': only the block that is owned is changed. -/
theorem spoil_any (v : Value) (xs : List Value) (B : Nat) (w : World) (h : Own B 3 w v xs) : Calls Tryz.prog 29 #[v] w fun e w' => e = .returned (.tuple #[]) ∧ Below B w w' ∧ (∀ k, v.ownBlock ≠ some k → k < w.heap.size → w'.heap[k]? = w.heap[k]?) := by
  rcases h.2 with ⟨rfl, hn⟩ | ⟨g, cap, cur, rfl, r1, r2, r3, r4, r5, r6⟩
  · go_enter Tryz.func29, Tryz.ntmps29
    go_wp2_with fail
    go_loopw [2] (fun i wr => i = .int .i64 0 ∧ wr = w) (fun _ _ => 0)
    case atStart => exact ⟨rfl, rfl⟩
    case round =>
      obtain ⟨rfl, rfl⟩ := hrel
      go_wp2_with fail
      go_end0
      exact ⟨rfl, Below.refl _ _, fun _ _ _ => rfl⟩
  · unfold maxLen at r4
    have hB0 : Box w g 3 cur.toList := by unfold Box; simpa using r2
    have hcl : xs.length ≤ cur.toList.length := by have h9 : cur.toList.length = cur.size := Array.length_toList; omega
    generalize cur.toList = cs0 at *
    clear r2 r5 r6 h
    go_enter Tryz.func29, Tryz.ntmps29
    go_wp2_with fail
    go_loopw [2] (fun i wr => ∃ (k : Nat) (cs : List Value), k ≤ xs.length ∧ i = .int .i64 k ∧ Box wr g 3 cs ∧ xs.length ≤ cs.length ∧ Below B w wr ∧ wr.heap.size = w.heap.size ∧ Hid (∀ j, j ≠ g → wr.heap[j]? = w.heap[j]?)) (fun i _ => xs.length - (intOf i).toNat)
    case atStart => exact ⟨0, cs0, by omega, rfl, hB0, hcl, Below.refl _ _, rfl, Lib.hid (fun _ _ => rfl)⟩
    case round =>
      obtain ⟨k, cs, hk, rfl, hB, hl, hbb, hsz, HK⟩ := hrel
      by_cases hlt : k < xs.length
      · have c0 := hB.cell k cs[k] (List.getElem?_eq_getElem (by omega))
        have q0 := hB.frozen k
        have hgw := hB.lt
        go_wp2_with fail
        go_roundw
        case rel => exact ⟨k + 1, _, by omega, by go_num, hB.set k _, by rw [List.length_set]; exact hl, Below.setCell hbb r1 _, by simp [hsz], Lib.hid (fun j hj => (Below.heap_setCell wr ⟨g, k, none⟩ _ j hj).trans (HK.out j hj))⟩
        case measure => simp [intOf]; omega
      · obtain rfl : k = xs.length := by omega
        go_wp2_with fail
        go_end0
        exact ⟨rfl, hbb, fun j hj hj2 => HK.out j (fun h9 => hj (by subst h9; rfl))⟩
/-! ## What is called, where only that it comes back matters -/
theorem decG (n : Int) (s : ByteArray) (w : World) : Calls Tryz.prog 24 #[.int .i64 n, .string s] w fun e w' => ∃ A c xs k, e = .returned (.tuple #[.slice A (List.length xs) c, .int .i64 k]) ∧ Own w.heap.size 3 w' (.slice A xs.length c) (xs.map (Value.int .i64)) ∧ Bel w w' := by
  obtain ⟨xs, k, h⟩ : ∃ xs k, M.decE n s.data.toList = (xs, k) := ⟨_, _, rfl⟩
  refine (decE_sl n s xs k h w).mono ?_
  rintro e w' ⟨A, c, rfl, h1, h2⟩
  exact ⟨A, c, xs, k, rfl, h1, h2⟩
theorem openG (n : Int) (w : World) : Calls Tryz.prog 25 #[.int .i64 n] w fun e w' => ∃ m k, e = .returned (.tuple #[.agg #[.int .i64 m, .string ⟨#[]⟩, .int .i64 0, .bool false, .bool false], .int .i64 k]) ∧ Bel w w' := by
  cases h : M.isEnc n with
  | true => exact (open_yes n h w).mono fun e w' ⟨h1, h2⟩ => ⟨_, _, h1, h2⟩
  | false => exact (open_no n h w).mono fun e w' ⟨h1, h2⟩ => ⟨_, _, h1, h2⟩
theorem feedG (m : Int) (s : ByteArray) (w : World) : Calls Tryz.prog 26 #[.agg #[.int .i64 m, .string ⟨#[]⟩, .int .i64 0, .bool false, .bool false], .string s, .bool false] w fun e w' => ∃ A c xs n2 l2 sg2 fr2 st2 k, e = .returned (.tuple #[.slice A (List.length xs) c, .agg #[.int .i64 n2, .string l2, .int .i64 sg2, .bool fr2, .bool st2], .int .i64 k]) ∧ Own w.heap.size 3 w' (.slice A xs.length c) (xs.map (Value.int .i64)) ∧ Bel w w' := by
  obtain ⟨⟨xs, ⟨n2, l2, sg2, fr2, st2⟩, k⟩, h⟩ : ∃ q, M.feedE ⟨m, [], 0, false, false⟩ s.data.toList false = q := ⟨_, rfl⟩
  refine (feed_sl m ⟨#[]⟩ 0 false false s false xs n2 l2 sg2 fr2 st2 k h w).mono ?_
  rintro e w' ⟨A, c, rfl, h1, h2⟩
  exact ⟨A, c, xs, n2, _, sg2, fr2, st2, k, rfl, h1, h2⟩
theorem beginG (nm : ByteArray) (w : World) : Calls Tryz.prog 10 #[.string nm] w fun e w' => ∃ lb k, e = .returned (.tuple #[.agg #[.string lb, .int .i64 0, .int .i64 0, .string ⟨#[]⟩, .int .i64 0, .string ⟨#[]⟩, .int .i64 0, .bool false, .bool false], .int .i64 k]) ∧ Bel w w' := by
  by_cases h : 3000 < nm.size
  · exact (begin_no nm h w).mono fun e w' ⟨h1, h2⟩ => ⟨_, _, h1, h2⟩
  · exact (begin_yes nm (by omega) w).mono fun e w' ⟨h1, h2⟩ => ⟨_, _, h1, h2⟩
theorem feedFG (lb s : ByteArray) (w : World) (hL : Len w) : Calls Tryz.prog 13 #[.agg #[.string lb, .int .i64 0, .int .i64 0, .string ⟨#[]⟩, .int .i64 0, .string ⟨#[]⟩, .int .i64 0, .bool false, .bool false], .string s, .bool true] w fun e w' => ∃ A c xs l2 en2 wy2 wt2 se2 rs2 sg2 fr2 st2 k, e = .returned (.tuple #[.slice A (List.length xs) c, .agg #[.string l2, .int .i64 en2, .int .i64 wy2, .string wt2, .int .i64 se2, .string rs2, .int .i64 sg2, .bool fr2, .bool st2], .int .i64 k]) ∧ Own w.heap.size 3 w' (.slice A xs.length c) (xs.map (Value.int .i64)) ∧ Bel w w' := by
  obtain ⟨⟨xs, ⟨l2, en2, wy2, wt2, ⟨se2, rs2, sg2, fr2, st2⟩⟩, k⟩, h⟩ : ∃ q, M.feedFE ⟨lb.data.toList, 0, 0, [], ⟨0, [], 0, false, false⟩⟩ s.data.toList true = q := ⟨_, rfl⟩
  refine (feedF_sl lb 0 0 ⟨#[]⟩ 0 ⟨#[]⟩ 0 false false s true xs l2 en2 wy2 wt2 se2 rs2 sg2 fr2 st2 k h w hL).mono ?_
  rintro e w' ⟨A, c, rfl, h1, h2⟩
  exact ⟨A, c, xs, _, en2, wy2, _, se2, _, sg2, fr2, st2, k, rfl, h1, h2⟩
theorem allG (s : ByteArray) (w : World) : Calls Tryz.prog 27 #[.string s, .int .i64 0] w fun e w' => ∃ v xs a b, e = .returned (.tuple #[v, .int .i64 a, .int .i64 b]) ∧ OwnA w.heap.size w' v xs ∧ Bel w w' := by
  by_cases h : 3000 < s.size
  · refine (allBad_any s 0 2 rfl (by unfold readyA; rw [← Lib.size_eq, if_pos h]) w).mono ?_
    rintro e w' ⟨rfl, hb⟩
    exact ⟨_, [], _, _, rfl, OwnA.nil _ _, hb⟩
  · obtain ⟨xs, r, hn⟩ : ∃ xs r, M.attrsA (s.data.toList.drop 0) = (xs, r) := ⟨_, _, rfl⟩
    refine (allOk_any s 0 (Nat.zero_le _) (by omega) xs r hn (by unfold readyA; rw [← Lib.size_eq, if_neg h, if_neg (by simp)]) w).mono ?_
    rintro e w' ⟨v, rfl, h1, h2⟩
    exact ⟨v, xs, _, _, rfl, h1, h2⟩
theorem countG (v : Value) (xs : List Int) (w : World) (hv : IntSl w v xs) : Calls Tryz.prog 28 #[v] w fun e w' => ∃ a b k, e = .returned (.tuple #[.int .i64 a, .int .i64 b, .int .i64 k]) ∧ Bel w w' := by
  obtain ⟨a, b, k, h⟩ : ∃ a b k, M.countE xs = (a, b, k) := ⟨_, _, _, rfl⟩
  exact (count_to v xs a b k h w hv).mono fun e w' ⟨h1, h2⟩ => ⟨_, _, _, h1, h2⟩
/-- 'append([]int{}, l...)', a list of any length that can be handed in. -/
theorem wpList_appCopy {w : World} {ops : Array Oper} {rest : List Oper} {o : Oper} {a : Act} {Q : Exit → Act → World → Prop} (s x : Operand)
    (ho : o.op = .call { callee := .builtin .append, args := #[s, x], argTypes := #[30, 30] })
    (B : Nat) (v : Value) (hown : Own B 3 w v []) (y : Value) (ys : List Int) (hy : IntSl w y ys) (hlen : ys.length * 8 ≤ reachBytes) (hB : B ≤ w.heap.size)
    (hs : a.eval s = v) (hx : a.eval x = y) (hw : Region.wanted o (yielded ops a.tmps) = true)
    (h : ∀ v' w', Own B 3 w' v' (ys.map (Value.int .i64)) → Below B w w' → wpList Tryz.prog ops Q rest (a.put o.dst v') w') : wpList Tryz.prog ops Q (o :: rest) a w := by
  simp only [reachBytes] at hlen
  refine wpList_wanted hw fun K hK => ?_
  obtain ⟨A, c, rfl, h1, h2, h3, h4⟩ := hy
  cases A with
  | none =>
    have hn := h3 rfl
    subst hn
    have hr := run_append_nil_src o.type elemInt hown c
    unfold Oper.wp execOp
    simp only [ho, resolve, invoke, builtin, Sem.run_bind, Sem.run_pure, Result.andThen_ok, List.map_toArray, List.map_cons, List.map_nil, hs, hx, List.length_nil, hr]
    exact hK _ _ (h _ _ (by simpa using hown) (Below.refl _ _))
  | some ad =>
    obtain ⟨ht, z, hi, hz⟩ := elemInt
    obtain ⟨i, hi, hz0, hz1, hz2⟩ := info_parts hi
    refine wp_append_own w s x 30 ho B 3 i z 1 8 ht hi hz0 hz1 hz2 hz (by decide) v 0 [] hs hown ad ys.length c (ys.map (Value.int .i64)) hx (by simp) ?_ ?_ (by simp only [maxLen]; omega) (by omega) hB ?_
    · intro j u hj
      rw [List.getElem?_map] at hj
      cases hq : ys[j]? with
      | none => rw [hq] at hj; cases hj
      | some n =>
        rw [hq] at hj
        injection hj with hj
        rw [← hj]
        exact h4 ad rfl j n hq
    · intro u hu
      rw [List.mem_map] at hu
      obtain ⟨n, _, rfl⟩ := hu
      rfl
    · intro v' w' ho' hg' _
      refine hK _ _ (h v' w' ?_ ?_)
      · show w'.ownsRow B 3 1 v' (ys.map (Value.int .i64)).length (ys.map (Value.int .i64))
        rw [List.length_map]
        simpa using ho'
      · exact (Below.refl B w).grown hg' hB (fun k hk => (hown.lt k hk).1)
set_option maxHeartbeats 8000000 in
theorem rest_a (nm s : ByteArray) (v : Value) (l : List Int) (e : Int) (w : World) (hv : IntSl w v l) (hll : l.length * 8 ≤ reachBytes) (htab : Tab w) (hL : Len w) (t : List UInt8) (k : Int) (HE : Hid (M.encE e 1 l = (t, k))) (HN : Hid (M.long nm.data.toList = 2)) (HD : Hid (M.decT nm.data.toList s.data.toList = ([], 0, 0, 2))) : Calls Tryz.prog 4 #[.string nm, .string s, v, .int .i64 e] w fun r w' => r = .returned (.bool true) ∧ Bel w w' := by
  skip
  go_enter Tryz.func4, Tryz.ntmps4
  go_wp2_with fail
  refine (streamBegun_any _).mono ?_
  rintro r w1 ⟨rfl, b1⟩
  go_wp2_with fail
  refine (textBegun_any _ (hL.bel b1) (htab.bel b1)).mono ?_
  rintro r w2 ⟨rfl, b2⟩
  have b2 := b1.trans b2
  go_wp2_with fail
  refine (attrBegun_any _ (hL.bel b2)).mono ?_
  rintro r w3 ⟨rfl, b3⟩
  have b3 := b2.trans b3
  go_wp2_with fail
  refine (encoderBegun_any _ (htab.bel b3)).mono ?_
  rintro r w4 ⟨rfl, b4⟩
  have b4 := b3.trans b4
  go_wp2_with fail
  refine (frontBegun_any _ (hL.bel b4)).mono ?_
  rintro r w5 ⟨rfl, b5⟩
  have b5 := b4.trans b5
  clear b1 b2 b3 b4
  go_wp2_with (first
    | (at_builtin; refine wpList_appCopy (.tmp 55) (.tmp 56) rfl w5.heap.size _ (Own.empty _ _ (Nat.le_refl _)) _ l (hv.bel (b5.alloc _)) hll (by simp) rfl rfl rfl ?_; intro v6 w6 o6 b6; have hb6 : Bel w5 w6 := ((Bel.refl w5).alloc _).upto b6 (by simp)))
  have i6 : IntSl w6 v6 l := Own.ints o6
  have b6 := b5.trans hb6
  clear o6 b5 hb6
  refine (encodeOf_to e 1 v l _ (hv.bel b6) _ _ HE.out).mono ?_
  rintro r w7 ⟨rfl, b7⟩
  have i7 := i6.bel b7
  have b7 := b6.trans b7
  clear i6 b6
  go_wp2_with fail
  refine (long_to nm _ HN.out _).mono ?_
  rintro r _ ⟨rfl, rfl⟩
  go_wp2_with fail
  go_loopw [14] (fun i wr => ∃ q : Nat, q ≤ 2 ∧ i = .int .i64 (q : Int) ∧ Bel w7 wr) (fun i _ => 2 - (intOf i).toNat)
  case atStart => exact ⟨0, by omega, rfl, Bel.refl _⟩
  case round =>
    obtain ⟨q, hq, rfl, hb⟩ := hrel
    have hw := Bel.trans b7 hb
    have ii := IntSl.bel i7 hb
    have il := IntSl.bel hv hw
    by_cases hlt : q < 2
    · go_wp2_with fail
      refine (enc_to e 1 v6 l _ ii (htab.bel hw) _ _ HE.out).mono ?_
      rintro r x1 ⟨rfl, b1⟩
      go_wp2_with fail
      refine (decodeT_sl nm s _ _ _ _ HD.out _ (hL.bel (hw.trans b1))).mono ?_
      rintro r x2 ⟨A2, c2, rfl, o2, b2⟩
      have m2 := o2.under (Nat.le_refl _)
      have n1 := b1.size
      have n2 := b2.size
      have bb := b1.trans b2
      clear b2
      go_wp2_with fail
      refine (intsAre_yes _ _ [] [] 2 _ o2.ints (IntSl.nil_ _) rfl).mono ?_
      rintro r x3 ⟨rfl, b3⟩
      have o2 := o2.bel b3
      have n3 := b3.size
      have bb := bb.trans b3
      clear b1 b3
      go_wp2_with fail
      refine (decG e s _).mono ?_
      rintro r x4 ⟨A4, c4, xs4, k4, rfl, o4, b4⟩
      have m4 := o4.under (Nat.le_refl _)
      have o2 := o2.bel b4
      have n4 := b4.size
      have bb := bb.trans b4
      clear b4
      go_wp2_with fail
      refine (openG e _).mono ?_
      rintro r x5 ⟨n5, k5, rfl, b5⟩
      have o2 := o2.bel b5
      have o4 := o4.bel b5
      have n5s := b5.size
      have bb := bb.trans b5
      clear b5
      go_wp2_with fail
      refine (feedG n5 s _).mono ?_
      rintro r x6 ⟨A6, c6, xs6, n6, l6, sg6, fr6, st6, k6, rfl, o6, b6⟩
      have q6 := Bel.trans ((Bel.refl x5).alloc _) b6
      have m6 := o6.under (Nat.le_refl _)
      have o6 := o6.mono (B' := x5.heap.size) (by simp)
      have o2 := o2.bel q6
      have o4 := o4.bel q6
      have n6s := q6.size
      have bb := bb.trans q6
      clear b6 q6
      go_wp2_with fail
      refine (beginG nm _).mono ?_
      rintro r x7 ⟨lb7, k7, rfl, b7⟩
      have q7 := Bel.trans ((Bel.refl x6).alloc _) b7
      have o2 := o2.bel q7
      have o4 := o4.bel q7
      have o6 := o6.bel q7
      have n7s := q7.size
      have bb := bb.trans q7
      clear b7 q7
      go_wp2_with fail
      refine (feedFG lb7 s _ (hL.bel ((hw.trans bb).alloc _))).mono ?_
      rintro r x8 ⟨A8, c8, xs8, l8, en8, wy8, wt8, se8, rs8, sg8, fr8, st8, k8, rfl, o8, b8⟩
      have q8 := Bel.trans ((Bel.refl x7).alloc _) b8
      have m8 := o8.under (Nat.le_refl _)
      have o8 := o8.mono (B' := x7.heap.size) (by simp)
      have o2 := o2.bel q8
      have o4 := o4.bel q8
      have o6 := o6.bel q8
      have n8s := q8.size
      have bb := bb.trans q8
      clear b8 q8
      go_wp2_with fail
      refine (allG s _).mono ?_
      rintro r x9 ⟨v9, xs9, a9, k9, rfl, o9, b9⟩
      have q9 := Bel.trans ((Bel.refl x8).alloc _) b9
      have o9 := o9.mono (C := x8.heap.size) (by simp)
      have o2 := o2.bel q9
      have o4 := o4.bel q9
      have o6 := o6.bel q9
      have o8 := o8.bel q9
      have bb := bb.trans q9
      clear b9 q9
      go_wp2_with fail
      refine (countG v6 l _ (ii.bel bb)).mono ?_
      rintro r x10 ⟨a10, d10, k10, rfl, b10⟩
      have o2 := o2.bel b10
      have o4 := o4.bel b10
      have o6 := o6.bel b10
      have o8 := o8.bel b10
      have o9 := o9.bel b10
      have bb := bb.trans b10
      clear b10
      go_wp2_with fail
      refine (sameInts_yes v6 v l l _ (ii.bel bb) (il.bel bb) rfl).mono ?_
      rintro r x11 ⟨rfl, b11⟩
      have o2 := o2.bel b11
      have o4 := o4.bel b11
      have o6 := o6.bel b11
      have o8 := o8.bel b11
      have o9 := o9.bel b11
      have bb := bb.trans b11
      clear b11
      go_wp2_with fail
      refine (spoil_any _ _ _ _ o2).mono ?_
      rintro r x12 ⟨rfl, b12, k12⟩
      have o4 := o4.apart (fun k hk => by have := m2 k hk; omega) k12
      have o6 := o6.apart (fun k hk => by have := m2 k hk; omega) k12
      have o8 := o8.apart (fun k hk => by have := m2 k hk; omega) k12
      have o9 := o9.apart (fun k hk => by have := m2 k hk; omega) k12
      have bb := bb.upto b12 (by omega)
      clear b12 k12
      go_wp2_with fail
      refine (spoil_any _ _ _ _ o4).mono ?_
      rintro r x13 ⟨rfl, b13, k13⟩
      have o6 := o6.apart (fun k hk => by have := m4 k hk; omega) k13
      have o8 := o8.apart (fun k hk => by have := m4 k hk; omega) k13
      have o9 := o9.apart (fun k hk => by have := m4 k hk; omega) k13
      have bb := bb.upto b13 (by omega)
      clear b13 k13
      go_wp2_with fail
      refine (spoil_any _ _ _ _ o6).mono ?_
      rintro r x14 ⟨rfl, b14, k14⟩
      have o8 := o8.apart (fun k hk => by have := m6 k hk; omega) k14
      have o9 := o9.apart (fun k hk => by have := m6 k hk; omega) k14
      have bb := bb.upto b14 (by omega)
      clear b14 k14
      go_wp2_with fail
      refine (spoil_any _ _ _ _ o8).mono ?_
      rintro r x15 ⟨rfl, b15, k15⟩
      have o9 := o9.apart (fun k hk => by have := m8 k hk; omega) k15
      have bb := bb.upto b15 (by omega)
      clear b15 k15
      have hB8 : wr.heap.size ≤ x8.heap.size := by omega
      clear n1 n2 n3 n4 n5s n6s n7s n8s m2 m4 m6 m8 o2 o4 o6 o8
      rcases o9.2 with ⟨rfl, hn9⟩ | ⟨g9, cap9, cur9, rfl, r1, r2, r3, r4, r5, r6⟩
      · go_wp2_with fail
        go_loopw [36] (fun i wq => i = .int .i64 0 ∧ wq = x15) (fun _ _ => 0)
        case atStart => exact ⟨rfl, rfl⟩
        case round =>
          obtain ⟨rfl, rfl⟩ := hrel
          go_wp2_with fail
          go_roundw
          case rel => exact ⟨q + 1, by omega, by go_num, hb.trans bb⟩
          case measure => simp [intOf]; omega
      · unfold maxLen at r4
        have hB0 : Box x15 g9 56 cur9.toList := by unfold Box; simpa using r2
        have hcl : xs9.length * 2 ≤ cur9.toList.length := by have h9 : cur9.toList.length = cur9.size := Array.length_toList; omega
        generalize cur9.toList = cs0 at *
        clear r2 r5 r6 o9
        go_wp2_with fail
        go_loopw [36] (fun i wq => ∃ (j : Nat) (cs : List Value), j ≤ xs9.length ∧ i = .int .i64 (j : Int) ∧ Box wq g9 56 cs ∧ xs9.length * 2 ≤ cs.length ∧ Below x8.heap.size x15 wq) (fun i _ => xs9.length - (intOf i).toNat)
        case atStart => exact ⟨0, cs0, by omega, rfl, hB0, hcl, Below.refl _ _⟩
        case round =>
          obtain ⟨j, cs, hj, rfl, hB, hl, hbb⟩ := hrel
          by_cases hjt : j < xs9.length
          · have d0 := hB.cell (j * 2) cs[j * 2] (List.getElem?_eq_getElem (by omega))
            have f0 := hB.frozen (j * 2)
            have hgw := hB.lt
            go_wp2_with fail
            go_roundw
            case rel => exact ⟨j + 1, _, by omega, by go_num, hB.set (j * 2) _, by rw [List.length_set]; exact hl, Below.setCell hbb r1 _⟩
            case measure => simp [intOf]; omega
          · obtain rfl : j = xs9.length := by omega
            go_wp2_with fail
            go_roundw
            case rel => exact ⟨q + 1, by omega, by go_num, hb.trans (bb.upto hbb hB8)⟩
            case measure => simp [intOf]; omega
    · obtain rfl : q = 2 := by omega
      go_wp2_with fail
      go_ret
      exact ⟨rfl, hw⟩
set_option maxHeartbeats 8000000 in
theorem rest_b (nm s : ByteArray) (v : Value) (l : List Int) (e : Int) (w : World) (hv : IntSl w v l) (hll : l.length * 8 ≤ reachBytes) (htab : Tab w) (hL : Len w) (t : List UInt8) (k : Int) (HE : Hid (M.encE e 1 l = (t, k))) (HN : Hid (M.long nm.data.toList = 0)) (HS : Hid (M.long s.data.toList = 2)) (HD : Hid (M.decT nm.data.toList s.data.toList = ([], 0, 0, 2))) : Calls Tryz.prog 4 #[.string nm, .string s, v, .int .i64 e] w fun r w' => r = .returned (.bool true) ∧ Bel w w' := by
  skip
  go_enter Tryz.func4, Tryz.ntmps4
  go_wp2_with fail
  refine (streamBegun_any _).mono ?_
  rintro r w1 ⟨rfl, b1⟩
  go_wp2_with fail
  refine (textBegun_any _ (hL.bel b1) (htab.bel b1)).mono ?_
  rintro r w2 ⟨rfl, b2⟩
  have b2 := b1.trans b2
  go_wp2_with fail
  refine (attrBegun_any _ (hL.bel b2)).mono ?_
  rintro r w3 ⟨rfl, b3⟩
  have b3 := b2.trans b3
  go_wp2_with fail
  refine (encoderBegun_any _ (htab.bel b3)).mono ?_
  rintro r w4 ⟨rfl, b4⟩
  have b4 := b3.trans b4
  go_wp2_with fail
  refine (frontBegun_any _ (hL.bel b4)).mono ?_
  rintro r w5 ⟨rfl, b5⟩
  have b5 := b4.trans b5
  clear b1 b2 b3 b4
  go_wp2_with (first
    | (at_builtin; refine wpList_appCopy (.tmp 55) (.tmp 56) rfl w5.heap.size _ (Own.empty _ _ (Nat.le_refl _)) _ l (hv.bel (b5.alloc _)) hll (by simp) rfl rfl rfl ?_; intro v6 w6 o6 b6; have hb6 : Bel w5 w6 := ((Bel.refl w5).alloc _).upto b6 (by simp)))
  have i6 : IntSl w6 v6 l := Own.ints o6
  have b6 := b5.trans hb6
  clear o6 b5 hb6
  refine (encodeOf_to e 1 v l _ (hv.bel b6) _ _ HE.out).mono ?_
  rintro r w7 ⟨rfl, b7⟩
  have i7 := i6.bel b7
  have b7 := b6.trans b7
  clear i6 b6
  go_wp2_with fail
  refine (long_to nm _ HN.out _).mono ?_
  rintro r _ ⟨rfl, rfl⟩
  go_wp2_with fail
  refine (long_to s _ HS.out _).mono ?_
  rintro r _ ⟨rfl, rfl⟩
  go_wp2_with fail
  go_loopw [14] (fun i wr => ∃ q : Nat, q ≤ 2 ∧ i = .int .i64 (q : Int) ∧ Bel w7 wr) (fun i _ => 2 - (intOf i).toNat)
  case atStart => exact ⟨0, by omega, rfl, Bel.refl _⟩
  case round =>
    obtain ⟨q, hq, rfl, hb⟩ := hrel
    have hw := Bel.trans b7 hb
    have ii := IntSl.bel i7 hb
    have il := IntSl.bel hv hw
    by_cases hlt : q < 2
    · go_wp2_with fail
      refine (enc_to e 1 v6 l _ ii (htab.bel hw) _ _ HE.out).mono ?_
      rintro r x1 ⟨rfl, b1⟩
      go_wp2_with fail
      refine (decodeT_sl nm s _ _ _ _ HD.out _ (hL.bel (hw.trans b1))).mono ?_
      rintro r x2 ⟨A2, c2, rfl, o2, b2⟩
      have m2 := o2.under (Nat.le_refl _)
      have n1 := b1.size
      have n2 := b2.size
      have bb := b1.trans b2
      clear b2
      go_wp2_with fail
      refine (intsAre_yes _ _ [] [] 2 _ o2.ints (IntSl.nil_ _) rfl).mono ?_
      rintro r x3 ⟨rfl, b3⟩
      have o2 := o2.bel b3
      have n3 := b3.size
      have bb := bb.trans b3
      clear b1 b3
      go_wp2_with fail
      refine (decG e s _).mono ?_
      rintro r x4 ⟨A4, c4, xs4, k4, rfl, o4, b4⟩
      have m4 := o4.under (Nat.le_refl _)
      have o2 := o2.bel b4
      have n4 := b4.size
      have bb := bb.trans b4
      clear b4
      go_wp2_with fail
      refine (openG e _).mono ?_
      rintro r x5 ⟨n5, k5, rfl, b5⟩
      have o2 := o2.bel b5
      have o4 := o4.bel b5
      have n5s := b5.size
      have bb := bb.trans b5
      clear b5
      go_wp2_with fail
      refine (feedG n5 s _).mono ?_
      rintro r x6 ⟨A6, c6, xs6, n6, l6, sg6, fr6, st6, k6, rfl, o6, b6⟩
      have q6 := Bel.trans ((Bel.refl x5).alloc _) b6
      have m6 := o6.under (Nat.le_refl _)
      have o6 := o6.mono (B' := x5.heap.size) (by simp)
      have o2 := o2.bel q6
      have o4 := o4.bel q6
      have n6s := q6.size
      have bb := bb.trans q6
      clear b6 q6
      go_wp2_with fail
      refine (beginG nm _).mono ?_
      rintro r x7 ⟨lb7, k7, rfl, b7⟩
      have q7 := Bel.trans ((Bel.refl x6).alloc _) b7
      have o2 := o2.bel q7
      have o4 := o4.bel q7
      have o6 := o6.bel q7
      have n7s := q7.size
      have bb := bb.trans q7
      clear b7 q7
      go_wp2_with fail
      refine (feedFG lb7 s _ (hL.bel ((hw.trans bb).alloc _))).mono ?_
      rintro r x8 ⟨A8, c8, xs8, l8, en8, wy8, wt8, se8, rs8, sg8, fr8, st8, k8, rfl, o8, b8⟩
      have q8 := Bel.trans ((Bel.refl x7).alloc _) b8
      have m8 := o8.under (Nat.le_refl _)
      have o8 := o8.mono (B' := x7.heap.size) (by simp)
      have o2 := o2.bel q8
      have o4 := o4.bel q8
      have o6 := o6.bel q8
      have n8s := q8.size
      have bb := bb.trans q8
      clear b8 q8
      go_wp2_with fail
      refine (allG s _).mono ?_
      rintro r x9 ⟨v9, xs9, a9, k9, rfl, o9, b9⟩
      have q9 := Bel.trans ((Bel.refl x8).alloc _) b9
      have o9 := o9.mono (C := x8.heap.size) (by simp)
      have o2 := o2.bel q9
      have o4 := o4.bel q9
      have o6 := o6.bel q9
      have o8 := o8.bel q9
      have bb := bb.trans q9
      clear b9 q9
      go_wp2_with fail
      refine (countG v6 l _ (ii.bel bb)).mono ?_
      rintro r x10 ⟨a10, d10, k10, rfl, b10⟩
      have o2 := o2.bel b10
      have o4 := o4.bel b10
      have o6 := o6.bel b10
      have o8 := o8.bel b10
      have o9 := o9.bel b10
      have bb := bb.trans b10
      clear b10
      go_wp2_with fail
      refine (sameInts_yes v6 v l l _ (ii.bel bb) (il.bel bb) rfl).mono ?_
      rintro r x11 ⟨rfl, b11⟩
      have o2 := o2.bel b11
      have o4 := o4.bel b11
      have o6 := o6.bel b11
      have o8 := o8.bel b11
      have o9 := o9.bel b11
      have bb := bb.trans b11
      clear b11
      go_wp2_with fail
      refine (spoil_any _ _ _ _ o2).mono ?_
      rintro r x12 ⟨rfl, b12, k12⟩
      have o4 := o4.apart (fun k hk => by have := m2 k hk; omega) k12
      have o6 := o6.apart (fun k hk => by have := m2 k hk; omega) k12
      have o8 := o8.apart (fun k hk => by have := m2 k hk; omega) k12
      have o9 := o9.apart (fun k hk => by have := m2 k hk; omega) k12
      have bb := bb.upto b12 (by omega)
      clear b12 k12
      go_wp2_with fail
      refine (spoil_any _ _ _ _ o4).mono ?_
      rintro r x13 ⟨rfl, b13, k13⟩
      have o6 := o6.apart (fun k hk => by have := m4 k hk; omega) k13
      have o8 := o8.apart (fun k hk => by have := m4 k hk; omega) k13
      have o9 := o9.apart (fun k hk => by have := m4 k hk; omega) k13
      have bb := bb.upto b13 (by omega)
      clear b13 k13
      go_wp2_with fail
      refine (spoil_any _ _ _ _ o6).mono ?_
      rintro r x14 ⟨rfl, b14, k14⟩
      have o8 := o8.apart (fun k hk => by have := m6 k hk; omega) k14
      have o9 := o9.apart (fun k hk => by have := m6 k hk; omega) k14
      have bb := bb.upto b14 (by omega)
      clear b14 k14
      go_wp2_with fail
      refine (spoil_any _ _ _ _ o8).mono ?_
      rintro r x15 ⟨rfl, b15, k15⟩
      have o9 := o9.apart (fun k hk => by have := m8 k hk; omega) k15
      have bb := bb.upto b15 (by omega)
      clear b15 k15
      have hB8 : wr.heap.size ≤ x8.heap.size := by omega
      clear n1 n2 n3 n4 n5s n6s n7s n8s m2 m4 m6 m8 o2 o4 o6 o8
      rcases o9.2 with ⟨rfl, hn9⟩ | ⟨g9, cap9, cur9, rfl, r1, r2, r3, r4, r5, r6⟩
      · go_wp2_with fail
        go_loopw [36] (fun i wq => i = .int .i64 0 ∧ wq = x15) (fun _ _ => 0)
        case atStart => exact ⟨rfl, rfl⟩
        case round =>
          obtain ⟨rfl, rfl⟩ := hrel
          go_wp2_with fail
          go_roundw
          case rel => exact ⟨q + 1, by omega, by go_num, hb.trans bb⟩
          case measure => simp [intOf]; omega
      · unfold maxLen at r4
        have hB0 : Box x15 g9 56 cur9.toList := by unfold Box; simpa using r2
        have hcl : xs9.length * 2 ≤ cur9.toList.length := by have h9 : cur9.toList.length = cur9.size := Array.length_toList; omega
        generalize cur9.toList = cs0 at *
        clear r2 r5 r6 o9
        go_wp2_with fail
        go_loopw [36] (fun i wq => ∃ (j : Nat) (cs : List Value), j ≤ xs9.length ∧ i = .int .i64 (j : Int) ∧ Box wq g9 56 cs ∧ xs9.length * 2 ≤ cs.length ∧ Below x8.heap.size x15 wq) (fun i _ => xs9.length - (intOf i).toNat)
        case atStart => exact ⟨0, cs0, by omega, rfl, hB0, hcl, Below.refl _ _⟩
        case round =>
          obtain ⟨j, cs, hj, rfl, hB, hl, hbb⟩ := hrel
          by_cases hjt : j < xs9.length
          · have d0 := hB.cell (j * 2) cs[j * 2] (List.getElem?_eq_getElem (by omega))
            have f0 := hB.frozen (j * 2)
            have hgw := hB.lt
            go_wp2_with fail
            go_roundw
            case rel => exact ⟨j + 1, _, by omega, by go_num, hB.set (j * 2) _, by rw [List.length_set]; exact hl, Below.setCell hbb r1 _⟩
            case measure => simp [intOf]; omega
          · obtain rfl : j = xs9.length := by omega
            go_wp2_with fail
            go_roundw
            case rel => exact ⟨q + 1, by omega, by go_num, hb.trans (bb.upto hbb hB8)⟩
            case measure => simp [intOf]; omega
    · obtain rfl : q = 2 := by omega
      go_wp2_with fail
      go_ret
      exact ⟨rfl, hw⟩
set_option maxHeartbeats 8000000 in
theorem rest_c (nm s : ByteArray) (v : Value) (l : List Int) (e : Int) (w : World) (hv : IntSl w v l) (hll : l.length * 8 ≤ reachBytes) (htab : Tab w) (hL : Len w) (t : List UInt8) (k : Int) (HE : Hid (M.encE e 1 l = (t, k))) (hnm : nm.size ≤ 3000) (hs : s.size ≤ 3000) (xs : List Int) (n y : Int) (HN : Hid (M.long nm.data.toList = 0)) (HS : Hid (M.long s.data.toList = 0)) (HW : Hid (M.wholeM nm.data.toList s.data.toList = (xs, n, y))) (HD : Hid (M.decT nm.data.toList s.data.toList = (xs, n, y, 0))) : Calls Tryz.prog 4 #[.string nm, .string s, v, .int .i64 e] w fun r w' => r = .returned (.bool true) ∧ Bel w w' := by
  skip
  go_enter Tryz.func4, Tryz.ntmps4
  go_wp2_with fail
  refine (streamBegun_any _).mono ?_
  rintro r w1 ⟨rfl, b1⟩
  go_wp2_with fail
  refine (textBegun_any _ (hL.bel b1) (htab.bel b1)).mono ?_
  rintro r w2 ⟨rfl, b2⟩
  have b2 := b1.trans b2
  go_wp2_with fail
  refine (attrBegun_any _ (hL.bel b2)).mono ?_
  rintro r w3 ⟨rfl, b3⟩
  have b3 := b2.trans b3
  go_wp2_with fail
  refine (encoderBegun_any _ (htab.bel b3)).mono ?_
  rintro r w4 ⟨rfl, b4⟩
  have b4 := b3.trans b4
  go_wp2_with fail
  refine (frontBegun_any _ (hL.bel b4)).mono ?_
  rintro r w5 ⟨rfl, b5⟩
  have b5 := b4.trans b5
  clear b1 b2 b3 b4
  go_wp2_with (first
    | (at_builtin; refine wpList_appCopy (.tmp 55) (.tmp 56) rfl w5.heap.size _ (Own.empty _ _ (Nat.le_refl _)) _ l (hv.bel (b5.alloc _)) hll (by simp) rfl rfl rfl ?_; intro v6 w6 o6 b6; have hb6 : Bel w5 w6 := ((Bel.refl w5).alloc _).upto b6 (by simp)))
  have i6 : IntSl w6 v6 l := Own.ints o6
  have b6 := b5.trans hb6
  clear o6 b5 hb6
  refine (encodeOf_to e 1 v l _ (hv.bel b6) _ _ HE.out).mono ?_
  rintro r w7 ⟨rfl, b7⟩
  have i7 := i6.bel b7
  have b7 := b6.trans b7
  clear i6 b6
  go_wp2_with fail
  refine (long_to nm _ HN.out _).mono ?_
  rintro r _ ⟨rfl, rfl⟩
  go_wp2_with fail
  refine (long_to s _ HS.out _).mono ?_
  rintro r _ ⟨rfl, rfl⟩
  go_wp2_with fail
  refine (wholeOf_to nm s _ _ _ HW.out (by omega) hs _).mono ?_
  rintro r w8 ⟨v8, rfl, o8, b8⟩
  have i8 := o8.ints
  have i7 := i7.bel b8
  have b8 := b7.trans b8
  clear o8 b7 hnm hs
  go_wp2_with fail
  go_loopw [14] (fun i wr => ∃ q : Nat, q ≤ 2 ∧ i = .int .i64 (q : Int) ∧ Bel w8 wr) (fun i _ => 2 - (intOf i).toNat)
  case atStart => exact ⟨0, by omega, rfl, Bel.refl _⟩
  case round =>
    obtain ⟨q, hq, rfl, hb⟩ := hrel
    have hw := Bel.trans b8 hb
    have ii := IntSl.bel i7 hb
    have il := IntSl.bel hv hw
    by_cases hlt : q < 2
    · go_wp2_with fail
      refine (enc_to e 1 v6 l _ ii (htab.bel hw) _ _ HE.out).mono ?_
      rintro r x1 ⟨rfl, b1⟩
      go_wp2_with fail
      refine (decodeT_sl nm s _ _ _ _ HD.out _ (hL.bel (hw.trans b1))).mono ?_
      rintro r x2 ⟨A2, c2, rfl, o2, b2⟩
      have m2 := o2.under (Nat.le_refl _)
      have n1 := b1.size
      have n2 := b2.size
      have bb := b1.trans b2
      clear b2
      go_wp2_with fail
      refine (intsAre_yes _ _ xs xs 0 _ o2.ints (i8.bel (hb.trans bb)) (by rw [if_pos rfl])).mono ?_
      rintro r x3 ⟨rfl, b3⟩
      have o2 := o2.bel b3
      have n3 := b3.size
      have bb := bb.trans b3
      clear b1 b3
      go_wp2_with fail
      refine (decG e s _).mono ?_
      rintro r x4 ⟨A4, c4, xs4, k4, rfl, o4, b4⟩
      have m4 := o4.under (Nat.le_refl _)
      have o2 := o2.bel b4
      have n4 := b4.size
      have bb := bb.trans b4
      clear b4
      go_wp2_with fail
      refine (openG e _).mono ?_
      rintro r x5 ⟨n5, k5, rfl, b5⟩
      have o2 := o2.bel b5
      have o4 := o4.bel b5
      have n5s := b5.size
      have bb := bb.trans b5
      clear b5
      go_wp2_with fail
      refine (feedG n5 s _).mono ?_
      rintro r x6 ⟨A6, c6, xs6, n6, l6, sg6, fr6, st6, k6, rfl, o6, b6⟩
      have q6 := Bel.trans ((Bel.refl x5).alloc _) b6
      have m6 := o6.under (Nat.le_refl _)
      have o6 := o6.mono (B' := x5.heap.size) (by simp)
      have o2 := o2.bel q6
      have o4 := o4.bel q6
      have n6s := q6.size
      have bb := bb.trans q6
      clear b6 q6
      go_wp2_with fail
      refine (beginG nm _).mono ?_
      rintro r x7 ⟨lb7, k7, rfl, b7⟩
      have q7 := Bel.trans ((Bel.refl x6).alloc _) b7
      have o2 := o2.bel q7
      have o4 := o4.bel q7
      have o6 := o6.bel q7
      have n7s := q7.size
      have bb := bb.trans q7
      clear b7 q7
      go_wp2_with fail
      refine (feedFG lb7 s _ (hL.bel ((hw.trans bb).alloc _))).mono ?_
      rintro r x8 ⟨A8, c8, xs8, l8, en8, wy8, wt8, se8, rs8, sg8, fr8, st8, k8, rfl, o8, b8⟩
      have q8 := Bel.trans ((Bel.refl x7).alloc _) b8
      have m8 := o8.under (Nat.le_refl _)
      have o8 := o8.mono (B' := x7.heap.size) (by simp)
      have o2 := o2.bel q8
      have o4 := o4.bel q8
      have o6 := o6.bel q8
      have n8s := q8.size
      have bb := bb.trans q8
      clear b8 q8
      go_wp2_with fail
      refine (allG s _).mono ?_
      rintro r x9 ⟨v9, xs9, a9, k9, rfl, o9, b9⟩
      have q9 := Bel.trans ((Bel.refl x8).alloc _) b9
      have o9 := o9.mono (C := x8.heap.size) (by simp)
      have o2 := o2.bel q9
      have o4 := o4.bel q9
      have o6 := o6.bel q9
      have o8 := o8.bel q9
      have bb := bb.trans q9
      clear b9 q9
      go_wp2_with fail
      refine (countG v6 l _ (ii.bel bb)).mono ?_
      rintro r x10 ⟨a10, d10, k10, rfl, b10⟩
      have o2 := o2.bel b10
      have o4 := o4.bel b10
      have o6 := o6.bel b10
      have o8 := o8.bel b10
      have o9 := o9.bel b10
      have bb := bb.trans b10
      clear b10
      go_wp2_with fail
      refine (sameInts_yes v6 v l l _ (ii.bel bb) (il.bel bb) rfl).mono ?_
      rintro r x11 ⟨rfl, b11⟩
      have o2 := o2.bel b11
      have o4 := o4.bel b11
      have o6 := o6.bel b11
      have o8 := o8.bel b11
      have o9 := o9.bel b11
      have bb := bb.trans b11
      clear b11
      go_wp2_with fail
      refine (spoil_any _ _ _ _ o2).mono ?_
      rintro r x12 ⟨rfl, b12, k12⟩
      have o4 := o4.apart (fun k hk => by have := m2 k hk; omega) k12
      have o6 := o6.apart (fun k hk => by have := m2 k hk; omega) k12
      have o8 := o8.apart (fun k hk => by have := m2 k hk; omega) k12
      have o9 := o9.apart (fun k hk => by have := m2 k hk; omega) k12
      have bb := bb.upto b12 (by omega)
      clear b12 k12
      go_wp2_with fail
      refine (spoil_any _ _ _ _ o4).mono ?_
      rintro r x13 ⟨rfl, b13, k13⟩
      have o6 := o6.apart (fun k hk => by have := m4 k hk; omega) k13
      have o8 := o8.apart (fun k hk => by have := m4 k hk; omega) k13
      have o9 := o9.apart (fun k hk => by have := m4 k hk; omega) k13
      have bb := bb.upto b13 (by omega)
      clear b13 k13
      go_wp2_with fail
      refine (spoil_any _ _ _ _ o6).mono ?_
      rintro r x14 ⟨rfl, b14, k14⟩
      have o8 := o8.apart (fun k hk => by have := m6 k hk; omega) k14
      have o9 := o9.apart (fun k hk => by have := m6 k hk; omega) k14
      have bb := bb.upto b14 (by omega)
      clear b14 k14
      go_wp2_with fail
      refine (spoil_any _ _ _ _ o8).mono ?_
      rintro r x15 ⟨rfl, b15, k15⟩
      have o9 := o9.apart (fun k hk => by have := m8 k hk; omega) k15
      have bb := bb.upto b15 (by omega)
      clear b15 k15
      have hB8 : wr.heap.size ≤ x8.heap.size := by omega
      clear n1 n2 n3 n4 n5s n6s n7s n8s m2 m4 m6 m8 o2 o4 o6 o8
      rcases o9.2 with ⟨rfl, hn9⟩ | ⟨g9, cap9, cur9, rfl, r1, r2, r3, r4, r5, r6⟩
      · go_wp2_with fail
        go_loopw [36] (fun i wq => i = .int .i64 0 ∧ wq = x15) (fun _ _ => 0)
        case atStart => exact ⟨rfl, rfl⟩
        case round =>
          obtain ⟨rfl, rfl⟩ := hrel
          go_wp2_with fail
          go_roundw
          case rel => exact ⟨q + 1, by omega, by go_num, hb.trans bb⟩
          case measure => simp [intOf]; omega
      · unfold maxLen at r4
        have hB0 : Box x15 g9 56 cur9.toList := by unfold Box; simpa using r2
        have hcl : xs9.length * 2 ≤ cur9.toList.length := by have h9 : cur9.toList.length = cur9.size := Array.length_toList; omega
        generalize cur9.toList = cs0 at *
        clear r2 r5 r6 o9
        go_wp2_with fail
        go_loopw [36] (fun i wq => ∃ (j : Nat) (cs : List Value), j ≤ xs9.length ∧ i = .int .i64 (j : Int) ∧ Box wq g9 56 cs ∧ xs9.length * 2 ≤ cs.length ∧ Below x8.heap.size x15 wq) (fun i _ => xs9.length - (intOf i).toNat)
        case atStart => exact ⟨0, cs0, by omega, rfl, hB0, hcl, Below.refl _ _⟩
        case round =>
          obtain ⟨j, cs, hj, rfl, hB, hl, hbb⟩ := hrel
          by_cases hjt : j < xs9.length
          · have d0 := hB.cell (j * 2) cs[j * 2] (List.getElem?_eq_getElem (by omega))
            have f0 := hB.frozen (j * 2)
            have hgw := hB.lt
            go_wp2_with fail
            go_roundw
            case rel => exact ⟨j + 1, _, by omega, by go_num, hB.set (j * 2) _, by rw [List.length_set]; exact hl, Below.setCell hbb r1 _⟩
            case measure => simp [intOf]; omega
          · obtain rfl : j = xs9.length := by omega
            go_wp2_with fail
            go_roundw
            case rel => exact ⟨q + 1, by omega, by go_num, hb.trans (bb.upto hbb hB8)⟩
            case measure => simp [intOf]; omega
    · obtain rfl : q = 2 := by omega
      go_wp2_with fail
      go_ret
      exact ⟨rfl, hw⟩
theorem restPointsTrue (nm s : ByteArray) (v : Value) (l : List Int) (e : Int) (w : World) (_ : nm.size ≤ reachBytes) (_ : s.size ≤ reachBytes) (hv : IntSl w v l) (hll : l.length * 8 ≤ reachBytes) (_ : ∀ n ∈ l, -9223372036854775808 ≤ n ∧ n ≤ 9223372036854775807) (_ : -9223372036854775808 ≤ e ∧ e ≤ 9223372036854775807) (htab : Tab w) (hL : Len w) : Calls Tryz.prog 4 #[.string nm, .string s, v, .int .i64 e] w fun r w' => r = .returned (.bool true) ∧ Bel w w' := by
  obtain ⟨t, k, he⟩ : ∃ t k, M.encE e 1 l = (t, k) := ⟨_, _, rfl⟩
  rcases long_cases nm with ⟨h1, hn⟩ | ⟨h1, hn⟩
  · exact rest_a nm s v l e w hv hll htab hL t k (Lib.hid he) (Lib.hid hn) (Lib.hid (by rw [M.decT, ← Lib.size_eq, ← Lib.size_eq, if_pos (.inl h1)]))
  · rcases long_cases s with ⟨h2, hs⟩ | ⟨h2, hs⟩
    · exact rest_b nm s v l e w hv hll htab hL t k (Lib.hid he) (Lib.hid hn) (Lib.hid hs) (Lib.hid (by rw [M.decT, ← Lib.size_eq, ← Lib.size_eq, if_pos (.inr h2)]))
    · obtain ⟨xs, n, y, hw⟩ : ∃ xs n y, M.wholeM nm.data.toList s.data.toList = (xs, n, y) := ⟨_, _, _, rfl⟩
      exact rest_c nm s v l e w hv hll htab hL t k (Lib.hid he) h1 h2 xs n y (Lib.hid hn) (Lib.hid hs) (Lib.hid hw) (Lib.hid (by rw [M.decT, ← Lib.size_eq, ← Lib.size_eq, if_neg (by omega), hw]))
end Go.Proofs.YteingkjdemlhgaaGreatDoor

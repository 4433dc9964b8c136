/-
  The laws of signs that are shifted: KanaEscapes.
-/
import Derived.Test.YthjafhoahhdlnaaLawKana
import Derived.Test.YthjafhoahhdlnaaBase7
import Derived.Deep.AppendLies
namespace Go.Proofs.Ythjafhoahhdlnaa
open Go.RowKit
set_option maxRecDepth 1000000

theorem escsK_snoc (gs : List Int) (g : Int) : M.escsK (gs ++ [g]) = M.escsK gs ++ [27, 40, M.escB g] := by simp [M.escsK]
theorem escsK_len (gs : List Int) : (M.escsK gs).length = 3 * gs.length := by
  induction gs with
  | nil => rfl
  | cons g gs ih =>
    have e : M.escsK (g :: gs) = [27, 40, M.escB g] ++ M.escsK gs := rfl
    rw [e, List.length_append, ih, List.length_cons]; simp; omega
theorem badsK_snoc : ∀ (gs : List Int) (f : Bool) (g : Int), M.badsK f (gs ++ [g]) = M.badsK f gs ++ (if (f || !gs.isEmpty) = true then [65533] else [])
  | [], f, g => by cases f <;> rfl
  | a :: gs, f, g => by
    rw [List.cons_append, M.badsK, M.badsK, badsK_snoc gs true g, List.append_assoc]
    simp
theorem lastK_snoc : ∀ (gs : List Int) (now g : Int), M.lastK now (gs ++ [g]) = g
  | [], _, _ => rfl
  | a :: gs, now, g => by rw [List.cons_append, M.lastK, lastK_snoc gs a g]
theorem lastK_in : ∀ (gs : List Int) (now : Int), (now = 0 ∨ now = 1 ∨ now = 2) → (∀ g ∈ gs, g = 0 ∨ g = 1 ∨ g = 2) → (M.lastK now gs = 0 ∨ M.lastK now gs = 1 ∨ M.lastK now gs = 2)
  | [], now, h, _ => h
  | a :: gs, now, _, h => lastK_in gs a (h a (by simp)) (fun g hg => h g (by simp [hg]))
theorem badsK_len : ∀ (gs : List Int) (f : Bool), (M.badsK f gs).length ≤ gs.length
  | [], f => by simp [M.badsK]
  | a :: gs, f => by
    rw [M.badsK, List.length_append, List.length_cons]
    have := badsK_len gs true
    have h2 : (if f = true then [(65533 : Int)] else []).length ≤ 1 := by split <;> simp
    omega
theorem signK_digit (g : Int) (c : Nat) (hg : g = 0 ∨ g = 1 ∨ g = 2) (h1 : 48 ≤ c) (h2 : c ≤ 57) : M.signK g c = if g = 2 then 65377 + (c : Int) - 33 else (c : Int) := by
  rcases hg with rfl | rfl | rfl
  · rw [M.signK, if_neg (by omega), if_neg (by omega), if_neg (by omega), if_neg (by omega), if_neg (by omega)]
  · rw [M.signK, if_neg (by omega), if_neg (by omega), if_neg (by omega), if_neg (by omega), if_neg (by omega)]
  · rw [M.signK, if_pos ⟨rfl, by omega, by omega⟩, if_pos rfl]; omega
theorem escapes_facts (gs : List Int) (c : Nat) (h : ∀ g ∈ gs, g = 0 ∨ g = 1 ∨ g = 2) (h1 : 48 ≤ c) (h2 : c ≤ 57) :
    M.allK (M.escsK gs ++ [UInt8.ofNat c]) = M.badsK false gs ++ [M.signK (M.lastK 0 gs) c] ∧
    M.allK (M.escsK gs ++ [UInt8.ofNat c] ++ [27, 40, 66] ++ [UInt8.ofNat c]) = M.badsK false gs ++ [M.signK (M.lastK 0 gs) c] ++ [(c : Int)] := by
  have hcn : (UInt8.ofNat c).toNat = c := UInt8.toNat_ofNat_of_lt' (show c < 256 by omega)
  have h27 : UInt8.ofNat c ≠ 27 := by intro hh; have := congrArg UInt8.toNat hh; rw [hcn] at this; simp at this; omega
  constructor
  · rw [M.allK, M.toldK_escs true gs 0 false _ h, M.toldK_sign true _ _ _ _ h27, M.toldK_nil, hcn]
  · rw [List.append_assoc, List.append_assoc, M.allK, M.toldK_escs true gs 0 false _ h]
    rw [show ([UInt8.ofNat c] ++ ([27, 40, 66] ++ [UInt8.ofNat c]) : List UInt8) = UInt8.ofNat c :: 27 :: 40 :: 66 :: [UInt8.ofNat c] from rfl]
    rw [M.toldK_sign true _ _ _ _ h27, M.toldK_esc true _ 0 false _ (by rfl), hcn]
    rw [show (40 :: 66 :: [UInt8.ofNat c] : List UInt8).drop 2 = [UInt8.ofNat c] from rfl, M.toldK_sign true _ _ _ _ h27, M.toldK_nil, hcn, M.signK_plain c ⟨by omega, by omega, by omega, by omega⟩]
    simp
/-- Append of one number that has just been laid: where the new slice lies, too. -/
theorem wpList_appL {P : Program} {w0 : World} {ops : Array Oper} {rest : List Oper} {o : Oper} {a : Act} {Q : Exit → Act → World → Prop} (s x : Operand) (t : TypeId)
    (ho : o.op = .call { callee := .builtin .append, args := #[s, x], argTypes := #[t, t] }) {e : TypeId} {bytes : Nat} (he : Elem P t e bytes) (hby : bytes ≤ 1024)
    (B : Nat) (v : Value) (xs : List Value) (u : Value) (hown : Own B e w0 v xs) (h1 : u.oneCell' = true) (hlen : xs.length < 68719476736) (hB : B ≤ w0.heap.size)
    (hs : a.eval s = v) (hx : a.eval x = .slice (some ⟨w0.heap.size, 0, none⟩) 1 1) (hw : Region.wanted o (yielded ops a.tmps) = true)
    (h : ∀ v' w', Own B e w' v' (xs ++ [u]) → Below B w0 w' → (∀ k, v.ownBlock ≠ some k → k < w0.heap.size → w'.heap[k]? = w0.heap[k]?) → (∀ k, v'.ownBlock = some k → v.ownBlock = some k ∨ w0.heap.size ≤ k) → wpList P ops Q rest (a.put o.dst v') w') : wpList P ops Q (o :: rest) a (w0.alloc (.cells #[u] e)) := by
  refine wpList_wanted hw fun K hK => ?_
  obtain ⟨ht, z, hi, hz⟩ := he
  obtain ⟨i, hi, hz0, hz1, hz2⟩ := info_parts hi
  refine wp_append_lies _ s x t ho B e i z 1 bytes ht hi hz0 hz1 hz2 hz (by decide) v xs.length xs hs (hown.alloc _) ⟨w0.heap.size, 0, none⟩ 1 1 [u] hx (by simp) ?_ (by simpa using h1) (by decide) (by simp only [maxLen]; omega) ?_ (by simp; omega) (w0.alloc (.cells #[u] e)).heap.size rfl ?_
  · intro j u' hj
    rw [add_zero, World.cell?_alloc_new]
    simpa using hj
  · have : (xs.length + 1) * bytes ≤ 68719476736 * 1024 := Nat.mul_le_mul (by omega) hby
    omega
  · intro g cap w' ho' hg' hat _
    refine hK _ _ (h _ w' ?_ ?_ ?_ ?_)
    · show w'.ownsRow B e 1 _ (xs ++ [u]).length (xs ++ [u])
      rw [List.length_append]
      exact ho'
    · exact ((Below.refl B w0).alloc hB _).trans ((Below.refl B _).grown hg' (by simp; omega) (fun k hk => (hown.lt k hk).1))
    · intro k hne hk
      exact (hg'.block k (by simp; omega) (fun e => hne e.symm)).trans (((Bel.refl w0).alloc _).block k hk)
    · intro k hk
      have hgk : g = k := by simpa [Value.ownBlock] using hk
      subst hgk
      rcases hat with h9 | h9
      · exact .inl h9
      · right; rw [h9]; simp
set_option maxHeartbeats 4000000 in
theorem kanaEscapesTrue (v : Value) (xs : List Int) (ci : Int) (w : World) (hv : IntSl w v xs) (_ : xs.length * 8 ≤ reachBytes) (_ : ∀ n ∈ xs, -9223372036854775808 ≤ n ∧ n ≤ 9223372036854775807) (hcb : -9223372036854775808 ≤ ci ∧ ci ≤ 9223372036854775807) : Calls Try.prog 4 #[v, .int .i64 ci] w fun e w' => e = .returned (.bool true) ∧ Bel w w' := by
  obtain ⟨a, ca, rfl, hc1, hc2, hn, hx⟩ := hv
  unfold maxLen at hc2
  by_cases hc : 48 ≤ ci ∧ ci ≤ 57
  · obtain ⟨g1, g2⟩ := hc
    by_cases hl : xs.length ≤ 100
    · obtain ⟨c, rfl⟩ := Int.eq_ofNat_of_zero_le (show 0 ≤ ci by omega)
      clear hcb
      go_enter Try.func4, Try.ntmps4
      go_wp2_with fail
      refine (kanaBegun_any _).mono ?_
      rintro e w1 ⟨rfl, b1⟩
      go_wp2_with fail
      go_loopw [5, 6, 7, 8] (fun vs vg vw i wr => ∃ (k : Nat) (gs : List Int) (now : Int), k ≤ xs.length ∧ i = .int .i64 k ∧ Hid (gs = xs.take k) ∧ gs.length = k ∧ (∀ g ∈ gs, g = 0 ∨ g = 1 ∨ g = 2) ∧ vs = .string ⟨(M.escsK gs).toArray⟩ ∧ vg = .int .i64 now ∧ Hid (M.lastK 0 gs = now) ∧ Own w1.heap.size 3 wr vw ((M.badsK false gs).map (Value.int .i64)) ∧ Bel w1 wr) (fun _ _ _ i _ => xs.length - (intOf i).toNat)
      case atStart => exact ⟨0, [], 0, by omega, rfl, Lib.hid (by simp), rfl, by simp, rfl, rfl, Lib.hid rfl, Own.nil _ _ _, Bel.refl _⟩
      case round =>
        obtain ⟨k, gs, now, hk, rfl, HG, hgl, hgs, rfl, rfl, HL, hown, hb⟩ := hrel
        have hel := escsK_len gs
        have hbl := badsK_len gs false
        by_cases hlt : k < xs.length
        · obtain ⟨n, hy⟩ : ∃ n, xs[k]? = some n := ⟨_, List.getElem?_eq_getElem hlt⟩
          cases a with
          | none => exfalso; have h3 := hlt; rw [hn rfl, List.length_nil] at h3; omega
          | some x =>
            have hcw := hx x rfl k n hy
            have hcell : wr.cell? (x.add k) = some (.int .i64 n) := (Bel.cell (Bel.trans b1 hb) (World.block_lt_of_cell? w _ hcw)).trans hcw
            have i1 : (k : Int) < (xs.length : Int) := by omega
            by_cases hnb : 0 ≤ n ∧ n ≤ 2
            · have hblk : (x.add k).block < w1.heap.size := Nat.lt_of_lt_of_le (World.block_lt_of_cell? w _ hcw) b1.size
              have HE := Lib.hid (escsK_snoc gs n)
              have HG2 := Lib.hid (show gs ++ [n] = xs.take (k + 1) by rw [HG.out, List.take_add_one, hy]; rfl)
              have HL2 := Lib.hid (lastK_snoc gs 0 n)
              have hgs2 : ∀ g ∈ gs ++ [n], g = 0 ∨ g = 1 ∨ g = 2 := fun g hg => by
                rw [List.mem_append] at hg
                rcases hg with hg | hg
                · exact hgs g hg
                · rw [List.mem_singleton] at hg; subst hg; omega
              have hgl2 : (gs ++ [n]).length = k + 1 := by rw [List.length_append, hgl]; rfl
              have HGS := Lib.hid hgs2
              have HGL := Lib.hid hgl2
              have hsz : ∀ q, w1.heap.size ≤ (wr.drewN q).heap.size := fun q => (Bel.drewN hb q).size
              have hel2 : (M.escsK gs).length ≤ 300 := by omega
              have hbl2 : (M.badsK false gs).length ≤ 100 := by omega
              by_cases hk0 : k = 0
              · have HB := Lib.hid (show M.badsK false (gs ++ [n]) = M.badsK false gs by
                  have : gs = [] := List.eq_nil_of_length_eq_zero (by omega)
                  subst this; rfl)
                have hkz : (k : Int) ≤ 0 := by omega
                obtain rfl | rfl | rfl : n = 0 ∨ n = 1 ∨ n = 2 := by omega
                all_goals
                  clear hx hn hy hcw hel hbl HG HL hnb hgs hgs2 hgl2 hgl hk0
                  go_wp2_with fail
                  go_quiet (fail)
                  go_wp2_with fail
                  go_roundw
                  case rel => exact ⟨k + 1, _, _, by omega, by go_num, HG2, HGL.out, HGS.out, by rw [HE.out]; simp [str_append, M.escB], rfl, HL2, by rw [HB.out]; exact hown.drewN _, Bel.drewN hb _⟩
                  case measure => simp [intOf]; omega
              · have hk1 : 0 < k := by omega
                have hkb : (0 : Int) < (k : Int) := by omega
                have HB := Lib.hid (show M.badsK false (gs ++ [n]) = M.badsK false gs ++ [65533] by
                  rw [badsK_snoc]
                  have : gs ≠ [] := fun h => by subst h; simp at hgl; omega
                  simp [this])
                obtain rfl | rfl | rfl : n = 0 ∨ n = 1 ∨ n = 2 := by omega
                all_goals
                  clear hx hn hy hcw hel hbl HG HL hnb hgs hgs2 hgl2 hgl hk0
                  go_wp2_with fail
                  go_quiet (fail)
                  go_wp2_with (first | (at_builtin; refine wpList_app rfl (.tmp 60) (.tmp 61) 22 rfl elemInt (by decide) w1.heap.size _ _ _ rfl rfl (hown.drewN _) rfl (by simp; omega) (hsz _) ?_; intro v' w1' hown' hb1; have hcell2 := (Below.cell hb1 hblk).trans hcell))
                  go_roundw
                  case rel => exact ⟨k + 1, _, _, by omega, by go_num, HG2, HGL.out, HGS.out, by rw [HE.out]; simp [str_append, M.escB], rfl, HL2, by rw [HB.out, List.map_append]; exact hown', Bel.upto (Bel.drewN hb _) hb1 (Nat.le_refl _)⟩
                  case measure => simp [intOf]; omega
            · have hor : n < 0 ∨ 2 < n := by omega
              clear hx hn hy hcw hel hbl HG HL hnb
              rcases hor with hor | hor
              · go_wp2_with fail
                go_ret
                exact ⟨rfl, b1.trans hb⟩
              · have h0 : 0 ≤ n := by omega
                go_wp2_with fail
                go_ret
                exact ⟨rfl, b1.trans hb⟩
        · obtain rfl : k = xs.length := by omega
          have hgx : gs = xs := by rw [HG.out, List.take_length]
          have hnow := lastK_in gs 0 (.inl rfl) hgs
          rw [HL.out] at hnow
          have hel2 : (M.escsK gs).length ≤ 300 := by omega
          obtain ⟨f1, f2⟩ := escapes_facts gs c hgs (by omega) (by omega)
          rw [HL.out] at f1 f2
          obtain ⟨pt, hpt⟩ : ∃ pt, M.signK now c = pt := ⟨_, rfl⟩
          rw [hpt] at f1 f2
          have hpc := signK_digit now c hnow (by omega) (by omega)
          rw [hpt] at hpc
          have hbl2 : (M.badsK false gs).length ≤ 100 := by omega
          generalize M.badsK false gs = bs at *
          generalize M.escsK gs = es at *
          have HV := Lib.hid (show [UInt8.ofNat c].map byteVal = [.int .u8 (c : Int)] by simp [byteVal]; omega)
          have D1 := Lib.hid (show M.decK ((⟨es.toArray⟩ : ByteArray) ++ ⟨[UInt8.ofNat c].toArray⟩).data.toList = (bs ++ [pt], 0) by
            rw [data_append]
            show M.decK (es ++ [UInt8.ofNat c]) = _
            rw [decK_ok _ (by rw [List.length_append, List.length_singleton]; omega), f1])
          have D2 := Lib.hid (show M.decK ((((⟨es.toArray⟩ : ByteArray) ++ ⟨[UInt8.ofNat c].toArray⟩) ++ ⟨#[27, 40, 66]⟩) ++ ⟨[UInt8.ofNat c].toArray⟩).data.toList = (bs ++ [pt] ++ [(c : Int)], 0) by
            rw [data_append, data_append, data_append]
            show M.decK (es ++ [UInt8.ofNat c] ++ [27, 40, 66] ++ [UInt8.ofNat c]) = _
            rw [decK_ok _ (by simp; omega), f2])
          clear f1 f2 hx hn hgs HG HL hgl hgx hel hbl hpt
          by_cases hn2 : now = 2
          · subst hn2
            rw [if_pos rfl] at hpc
            subst hpc
            clear hnow
            go_wp2_with (first | ((with_reducible show wpList _ _ _ _ _ _); refine wpList_toString rfl (.tmp 77) _ _ 5 rfl Try.underlying31 Try.underlying5 Try.underlying9 _ _ [UInt8.ofNat c] rfl (own_row _ [UInt8.ofNat c] _ HV.out (by simp)) ?_))
            refine (decK_sl _ _ _ D1.out _).mono ?_
            rintro e w2 ⟨A2, c2, rfl, o2, b2⟩
            have hs2 : wr.heap.size < w2.heap.size := by have := b2.size; simp at this; omega
            have ob := own_row (e := 5) (w2.alloc (.cells #[.int .u8 (c : Int)] 5)) [UInt8.ofNat c] _ HV.out (by simp)
            simp only [World.size_alloc] at ob
            go_wp2_with (first | ((with_reducible show wpList _ _ _ _ _ _); refine wpList_toString rfl (.tmp 87) _ _ 5 rfl Try.underlying31 Try.underlying5 Try.underlying9 _ _ [UInt8.ofNat c] rfl (own_row _ [UInt8.ofNat c] _ HV.out (by simp)) ?_) | ((with_reducible show wpList _ _ _ _ _ _); refine wpList_toString rfl (.tmp 93) _ _ 5 rfl Try.underlying31 Try.underlying5 Try.underlying9 _ _ [UInt8.ofNat c] rfl ob ?_))
            refine (decK_sl _ _ _ D2.out _).mono ?_
            rintro e w3 ⟨A3, c3, rfl, o3, b3⟩
            have hw23 : Bel w2 w3 := (by repeat (first | exact Bel.refl _ | refine Bel.drewN ?_ _ | refine Bel.drew ?_ | refine Bel.alloc ?_ _ | refine Bel.trans ?_ (by assumption) | refine Bel.setCell ?_ (by simp; omega) _))
            have hw3 : Bel wr w3 := Bel.trans (Bel.trans ((Bel.refl wr).alloc _) b2) hw23
            have ho3 := hown.bel hw3
            have hs3 : w1.heap.size ≤ w3.heap.size := (hb.trans hw3).size
            have o23 := o2.bel hw23
            have hl2 := o2.lt
            have hl3 := o3.lt
            have hlu := hown.lt
            have hs23 := hw23.size
            go_wp2_with (first | (at_builtin; refine wpList_appL (.tmp 99) (.tmp 101) 22 rfl elemInt (by decide) w1.heap.size _ _ (.int .i64 (65377 + (c : Int) - 33)) ho3 rfl (by simp; omega) hs3 rfl rfl rfl ?_; intro v4 w4 o4 b4 n4 l4))
            have hs3' := (b3.size)
            simp only [World.size_alloc] at hl2 hl3 hs3'
            have o24 := o23.keep (fun k hk => n4 k (fun h9 => by have := (hlu k h9).2; have := (hl2 k hk).1; omega) (by have := (hl2 k hk).2; omega))
            have o34 := o3.keep (fun k hk => n4 k (fun h9 => by have := (hlu k h9).2; have := (hl3 k hk).1; omega) (hl3 k hk).2)
            have i2 := o24.ints
            rw [List.length_append, List.length_singleton] at i2
            refine (sameInts_yes _ _ _ _ _ i2 (Own.ints (by simpa using o4)) rfl).mono ?_
            rintro e w5 ⟨rfl, b5⟩
            have o45 := o4.bel b5
            have o35 := o34.bel b5
            have hs5 : w1.heap.size ≤ w5.heap.size := by have := b5.size; have := b4.size; omega
            have hs35 : w3.heap.size ≤ w5.heap.size := by have := b5.size; have := b4.size; omega
            go_wp2_with (first | (at_builtin; refine wpList_appL (.tmp 116) (.tmp 118) 22 rfl elemInt (by decide) w1.heap.size _ _ (.int .i64 (c : Int)) o45 rfl (by simp; omega) hs5 rfl rfl rfl ?_; intro v6 w6 o6 b6 n6 l6))
            have o36 := o35.keep (fun k hk => n6 k (fun h9 => by
              rcases l4 k h9 with h8 | h8
              · have := (hlu k h8).2; have := (hl3 k hk).1; omega
              · have := (hl3 k hk).2; omega) (by have := (hl3 k hk).2; omega))
            have i3 := o36.ints
            simp only [List.length_append, List.length_singleton, Nat.add_assoc] at i3
            refine (sameInts_yes _ _ _ _ _ i3 (Own.ints (by simpa using o6)) rfl).mono ?_
            rintro e w7 ⟨rfl, b7⟩
            go_wp2_with fail
            go_ret
            exact ⟨rfl, (Bel.upto ((Bel.upto ((b1.trans hb).trans hw3) b4 b1.size).trans b5) b6 b1.size).trans b7⟩
          · have e2 : (now == 2) = false := by simpa using hn2
            rw [if_neg hn2] at hpc
            subst hpc
            clear hnow hn2
            go_wp2_with (first | ((with_reducible show wpList _ _ _ _ _ _); refine wpList_toString rfl (.tmp 77) _ _ 5 rfl Try.underlying31 Try.underlying5 Try.underlying9 _ _ [UInt8.ofNat c] rfl (own_row _ [UInt8.ofNat c] _ HV.out (by simp)) ?_))
            refine (decK_sl _ _ _ D1.out _).mono ?_
            rintro e w2 ⟨A2, c2, rfl, o2, b2⟩
            have hs2 : wr.heap.size < w2.heap.size := by have := b2.size; simp at this; omega
            have ob := own_row (e := 5) (w2.alloc (.cells #[.int .u8 (c : Int)] 5)) [UInt8.ofNat c] _ HV.out (by simp)
            simp only [World.size_alloc] at ob
            go_wp2_with (first | ((with_reducible show wpList _ _ _ _ _ _); refine wpList_toString rfl (.tmp 87) _ _ 5 rfl Try.underlying31 Try.underlying5 Try.underlying9 _ _ [UInt8.ofNat c] rfl (own_row _ [UInt8.ofNat c] _ HV.out (by simp)) ?_) | ((with_reducible show wpList _ _ _ _ _ _); refine wpList_toString rfl (.tmp 93) _ _ 5 rfl Try.underlying31 Try.underlying5 Try.underlying9 _ _ [UInt8.ofNat c] rfl ob ?_))
            refine (decK_sl _ _ _ D2.out _).mono ?_
            rintro e w3 ⟨A3, c3, rfl, o3, b3⟩
            have hw23 : Bel w2 w3 := (by repeat (first | exact Bel.refl _ | refine Bel.drewN ?_ _ | refine Bel.drew ?_ | refine Bel.alloc ?_ _ | refine Bel.trans ?_ (by assumption) | refine Bel.setCell ?_ (by simp; omega) _))
            have hw3 : Bel wr w3 := Bel.trans (Bel.trans ((Bel.refl wr).alloc _) b2) hw23
            have ho3 := hown.bel hw3
            have hs3 : w1.heap.size ≤ w3.heap.size := (hb.trans hw3).size
            have o23 := o2.bel hw23
            have hl2 := o2.lt
            have hl3 := o3.lt
            have hlu := hown.lt
            have hs23 := hw23.size
            go_wp2_with (first | (at_builtin; refine wpList_appL (.tmp 99) (.tmp 101) 22 rfl elemInt (by decide) w1.heap.size _ _ (.int .i64 (c : Int)) ho3 rfl (by simp; omega) hs3 rfl rfl rfl ?_; intro v4 w4 o4 b4 n4 l4))
            have hs3' := (b3.size)
            simp only [World.size_alloc] at hl2 hl3 hs3'
            have o24 := o23.keep (fun k hk => n4 k (fun h9 => by have := (hlu k h9).2; have := (hl2 k hk).1; omega) (by have := (hl2 k hk).2; omega))
            have o34 := o3.keep (fun k hk => n4 k (fun h9 => by have := (hlu k h9).2; have := (hl3 k hk).1; omega) (hl3 k hk).2)
            have i2 := o24.ints
            rw [List.length_append, List.length_singleton] at i2
            refine (sameInts_yes _ _ _ _ _ i2 (Own.ints (by simpa using o4)) rfl).mono ?_
            rintro e w5 ⟨rfl, b5⟩
            have o45 := o4.bel b5
            have o35 := o34.bel b5
            have hs5 : w1.heap.size ≤ w5.heap.size := by have := b5.size; have := b4.size; omega
            have hs35 : w3.heap.size ≤ w5.heap.size := by have := b5.size; have := b4.size; omega
            go_wp2_with (first | (at_builtin; refine wpList_appL (.tmp 116) (.tmp 118) 22 rfl elemInt (by decide) w1.heap.size _ _ (.int .i64 (c : Int)) o45 rfl (by simp; omega) hs5 rfl rfl rfl ?_; intro v6 w6 o6 b6 n6 l6))
            have o36 := o35.keep (fun k hk => n6 k (fun h9 => by
              rcases l4 k h9 with h8 | h8
              · have := (hlu k h8).2; have := (hl3 k hk).1; omega
              · have := (hl3 k hk).2; omega) (by have := (hl3 k hk).2; omega))
            have i3 := o36.ints
            simp only [List.length_append, List.length_singleton, Nat.add_assoc] at i3
            refine (sameInts_yes _ _ _ _ _ i3 (Own.ints (by simpa using o6)) rfl).mono ?_
            rintro e w7 ⟨rfl, b7⟩
            go_wp2_with fail
            go_ret
            exact ⟨rfl, (Bel.upto ((Bel.upto ((b1.trans hb).trans hw3) b4 b1.size).trans b5) b6 b1.size).trans b7⟩
    · go_enter Try.func4, Try.ntmps4
      go_wp2_with (go_at_call 10; refine (kanaBegun_any _).mono ?_; rintro e w' ⟨rfl, hb⟩)
      go_ret
      exact ⟨rfl, by assumption⟩
  · have hor : ci < 48 ∨ 57 < ci := by omega
    clear hc
    rcases hor with hor | hor
    · go_enter Try.func4, Try.ntmps4
      go_wp2_with (go_at_call 10; refine (kanaBegun_any _).mono ?_; rintro e w' ⟨rfl, hb⟩)
      go_ret
      exact ⟨rfl, by assumption⟩
    · have h0 : 48 ≤ ci := by omega
      go_enter Try.func4, Try.ntmps4
      go_wp2_with (go_at_call 10; refine (kanaBegun_any _).mono ?_; rintro e w' ⟨rfl, hb⟩)
      go_ret
      exact ⟨rfl, by assumption⟩
end Go.Proofs.Ythjafhoahhdlnaa

/-
  Package scan: value, told, meta, Meta.
-/
import Derived.Test.YthaoohckgilahaaDoorAttr5
import Derived.Test.YthaoohckgilahaaDoorPlainRune
import Derived.Laws.EntriesVeiled
namespace Go.Proofs.YthaoohckgilahaaDoor
open Go.RowKit
set_option maxRecDepth 1000000

theorem ixAttr (b off n c : Nat) (zs : Nat → Value × Value) (p : Nat → Bool) (g : Nat) (lb : Array Value) (eg : ∀ args w, (callFunc g args).run Tryd.prog w = .ok (.enter g args) w) (w : World)
    (hp : ∀ (W : World) (j : Nat), j < n → Below w.heap.size w W → Calls Tryd.prog g (#[.agg #[(zs j).1, (zs j).2]] ++ lb) W fun e w' => e = .returned (.bool (p j)) ∧ Below w.heap.size w w')
    (hbig : n ≤ 9223372036854775807) (hb : b < w.heap.size) (hc : ∀ j, j < n → w.cell? ⟨b, off + j * 2, none⟩ = some (zs j).1 ∧ w.cell? ⟨b, off + j * 2 + 1, none⟩ = some (zs j).2) :
    Calls Tryd.prog 57 #[.slice (some ⟨b, off, none⟩) n c, .func (.func g) #[] lb] w fun e w' => (∃ r : Int, e = .returned (.int .i64 r) ∧ FirstAt n p r) ∧ Below w.heap.size w w' := by
  have hrow : ∀ (W : World), Below w.heap.size w W → ∀ j, j < n → W.cell? ⟨b, off + j * 2, none⟩ = some (zs j).1 ∧ W.cell? ⟨b, off + j * 2 + 1, none⟩ = some (zs j).2 := fun W hW j hj => by
    have h1 := hc j hj
    exact ⟨(hW.cell (p := ⟨b, off + j * 2, none⟩) hb).trans h1.1, (hW.cell (p := ⟨b, off + j * 2 + 1, none⟩) hb).trans h1.2⟩
  clear hc
  go_enter Tryd.func57, Tryd.ntmps57
  go_wp2
  go_loopg [5, 8] n (fun gg _ s8 wr => ∃ kk : Nat, kk ≤ n ∧ n - kk ≤ gg ∧ s8 = .int .i64 kk ∧ Aside (Below w.heap.size w wr) ∧ Aside (∀ j, j < kk → p j = false))
  case atStart => exact ⟨0, Nat.zero_le _, by omega, rfl, Below.refl _ w, fun j hj => absurd hj (Nat.not_lt_zero _)⟩
  case round =>
    obtain ⟨kk, hkk, hg, rfl, BW, A⟩ := hrel
    by_cases hlt : kk < n
    · have hltz : (kk : Int) < (n : Int) := by omega
      obtain ⟨l1, l2⟩ := hrow wr BW.out kk (by omega)
      have hcall := hp wr kk hlt BW.out
      clear hrow hp
      generalize (zs kk) = y at l1 l2 hcall
      obtain ⟨y1, y2⟩ := y
      simp only at l1 l2 hcall
      cases hq : p kk with
      | true =>
        rw [hq] at hcall
        have HQ := Lib.hid hq
        clear hq
        go_wp2_with (go_at_fn g; refine hcall.mono ?_; rintro e w' ⟨rfl, hb'⟩)
        go_ret
        exact ⟨⟨kk, rfl, .inr ⟨kk, hlt, rfl, HQ.out, A.out⟩⟩, hb'⟩
      | false =>
        rw [hq] at hcall
        have HQ := Lib.hid hq
        clear hq
        go_wp2_with (go_at_fn g; refine hcall.mono ?_; rintro e w' ⟨rfl, hb'⟩)
        go_roundg (n - (kk + 1))
        case measure => omega
        case rel =>
          refine ⟨kk + 1, by omega, by omega, by go_num, hb', (show Aside _ from fun j hj => ?_)⟩
          by_cases e : j = kk
          · subst e
            exact HQ.out
          · exact A.out j (by omega)
    · have hltz : ¬ (kk : Int) < (n : Int) := by omega
      have : kk = n := by omega
      subst this
      go_wp2
      go_ret
      exact ⟨⟨-1, rfl, .inl ⟨rfl, A.out⟩⟩, BW.out⟩
theorem ixAttr_nil (a : Option Addr) (f : Value) (c : Nat) (w : World) : Calls Tryd.prog 57 #[.slice a 0 c, f] w fun e w' => e = .returned (.int .i64 (-1)) ∧ Bel w w' := by
  go_enter Tryd.func57, Tryd.ntmps57
  go_wp2
  go_loop [8] (fun v => v = .int .i64 0) (fun _ => 0)
  case atStart => rfl
  case round =>
    subst hrel
    go_wp2
    go_ret
    exact ⟨rfl, Bel.refl _⟩
/-- The first that has it; -1: none has. -/
def FindAt (xs : List (List UInt8 × List UInt8)) (p : List UInt8 × List UInt8 → Bool) (r : Int) : Prop := (r = -1 ∧ xs.find? p = none) ∨ ∃ (k : Nat) (q : List UInt8 × List UInt8), r = k ∧ xs[k]? = some q ∧ xs.find? p = some q
theorem find_at (xs : List (List UInt8 × List UInt8)) (p : List UInt8 × List UInt8 → Bool) (r : Int) (h : FirstAt xs.length (fun j => p (xs.getD j ([], []))) r) : FindAt xs p r := by
  rcases h with ⟨rfl, h⟩ | ⟨k, hk, rfl, hy, hno⟩
  · refine .inl ⟨rfl, List.find?_eq_none.2 fun x hx => ?_⟩
    obtain ⟨j, hj, rfl⟩ := List.getElem_of_mem hx
    have := h j hj
    simp only [List.getD_eq_getElem?_getD, List.getElem?_eq_getElem hj, Option.getD_some] at this
    rw [this]; decide
  · refine .inr ⟨k, xs[k], rfl, List.getElem?_eq_getElem hk, List.find?_eq_some_iff_getElem.2 ⟨?_, k, hk, rfl, fun j hj => ?_⟩⟩
    · simpa only [List.getD_eq_getElem?_getD, List.getElem?_eq_getElem hk, Option.getD_some] using hy
    · have := hno j hj
      simp only [List.getD_eq_getElem?_getD, List.getElem?_eq_getElem (Nat.lt_trans hj hk), Option.getD_some] at this
      rw [this]; rfl
theorem ixSl (v : Value) (xs : List (List UInt8 × List UInt8)) (p : List UInt8 × List UInt8 → Bool) (g : Nat) (lb : Array Value) (eg : ∀ args w, (callFunc g args).run Tryd.prog w = .ok (.enter g args) w) (w : World) (h : AttrSl w v xs)
    (hp : ∀ (W : World) (q : List UInt8 × List UInt8), Below w.heap.size w W → q ∈ xs → Calls Tryd.prog g (#[.agg #[.string ⟨q.1.toArray⟩, .string ⟨q.2.toArray⟩]] ++ lb) W fun e w' => e = .returned (.bool (p q)) ∧ Below w.heap.size w w') :
    Calls Tryd.prog 57 #[v, .func (.func g) #[] lb] w fun e w' => (∃ r : Int, e = .returned (.int .i64 r) ∧ FindAt xs p r) ∧ Below w.heap.size w w' := by
  obtain ⟨a, c, rfl, hc1, hc2, hn, hx⟩ := h
  by_cases h0 : xs = []
  · subst h0
    refine (ixAttr_nil a _ c w).mono ?_
    rintro e w' ⟨rfl, hb⟩
    exact ⟨⟨-1, rfl, .inl ⟨rfl, rfl⟩⟩, hb⟩
  · cases a with
    | none => exact absurd (hn rfl) h0
    | some x =>
      obtain ⟨g1, o, rfl, hy⟩ := hx x rfl
      have hat : ∀ j, (hj : j < xs.length) → xs.getD j ([], []) = xs[j] := fun j hj => by simp [hj]
      have hpos : 0 < xs.length := List.length_pos_iff.2 h0
      have hl := (hy 0 xs[0] (List.getElem?_eq_getElem hpos)).1
      have hlt := World.block_lt_of_cell? _ _ hl
      refine (ixAttr g1 o xs.length c (fun j => (.string ⟨(xs.getD j ([], [])).1.toArray⟩, .string ⟨(xs.getD j ([], [])).2.toArray⟩)) (fun j => p (xs.getD j ([], []))) g lb eg w ?_ ?_ hlt ?_).mono ?_
      · intro W j hj hW
        exact hp W _ hW (by rw [hat j hj]; exact List.getElem_mem hj)
      · unfold maxLen at hc2; omega
      · intro j hj
        obtain ⟨c1, c2⟩ := hy j _ (List.getElem?_eq_getElem hj)
        rw [hat j hj]
        exact ⟨c1, c2⟩
      · rintro e w' ⟨⟨r, rfl, hr⟩, hb⟩
        exact ⟨⟨r, rfl, find_at xs p r hr⟩, hb⟩
theorem val1_any (nm a b : ByteArray) (g : Nat) (w : World) (hc : w.cell? ⟨g, 0, none⟩ = some (.string nm)) (hg : g < w.heap.size) : Calls Tryd.prog 83 #[.agg #[.string a, .string b], .pointer (some ⟨g, 0, none⟩)] w fun e w' => e = .returned (.bool (a.toList == nm.toList)) ∧ Bel w w' := by
  go_enter Tryd.func83, Tryd.ntmps83
  have hne : g ≠ w.heap.size := by omega
  go_wp2
  all_goals (go_ret; exact ⟨by simp_all, (by repeat (first | exact Bel.refl _ | refine Bel.drewN ?_ _ | refine Bel.drew ?_ | refine Bel.alloc ?_ _ | refine Bel.trans ?_ (by assumption) | refine Bel.setCell ?_ (by simp; omega) _))⟩)
theorem valOf_some (xs : List (List UInt8 × List UInt8)) (nm : List UInt8) (q : List UInt8 × List UInt8) (h : xs.find? (fun a => a.1 == nm) = some q) : M.valOf xs nm = some q.2 := by rw [M.valOf, h]; rfl
theorem valOf_none (xs : List (List UInt8 × List UInt8)) (nm : List UInt8) (h : xs.find? (fun a => a.1 == nm) = none) : M.valOf xs nm = none := by rw [M.valOf, h]; rfl
theorem valOf_any (v : Value) (xs : List (List UInt8 × List UInt8)) (nm : ByteArray) (w : World) (h : AttrSl w v xs) : Calls Tryd.prog 71 #[v, .string nm] w fun e w' => e = .returned (.tuple #[.string ⟨((M.valOf xs nm.data.toList).getD []).toArray⟩, .bool (M.valOf xs nm.data.toList).isSome]) ∧ Bel w w' := by
  have HS := Lib.hid h
  obtain ⟨a, c, rfl, hc1, hc2, hn, hx⟩ := h
  unfold maxLen at hc2
  have HX := Lib.hid hx
  have HN := Lib.hid hn
  clear hx hn
  go_enter Tryd.func71, Tryd.ntmps71
  go_wp2_with fail
  refine (ixSl _ xs (fun q => q.1 == nm.data.toList) 83 #[.pointer (some ⟨w.heap.size, 0, none⟩)] (enters_of Tryd.func83 (by kernel_rfl) rfl) _ (HS.out.bel ((Bel.refl w).alloc _)) ?_).mono ?_
  · intro W q hW _
    refine (val1_any nm ⟨q.1.toArray⟩ ⟨q.2.toArray⟩ w.heap.size W ?_ ?_).mono ?_
    · rw [hW.cell (p := ⟨w.heap.size, 0, none⟩) (by simp), cell_new]
    · have := hW.size; simp at this; omega
    · rintro e w3 ⟨rfl, b4⟩
      refine ⟨?_, hW.trans (b4.mono hW.size)⟩
      rw [Lib.toList_data, Lib.toList_data]
  rintro e w4 ⟨⟨r, rfl, hr⟩, b4⟩
  have bB := ((Bel.refl w).alloc (.cells #[.string nm] 9)).trans b4
  rcases hr with ⟨rfl, hno⟩ | ⟨k, q, rfl, hk, hyes⟩
  · have HE := Lib.hid (valOf_none _ _ hno)
    clear hno
    go_wp2
    go_ret2
    exact ⟨by rw [HE.out]; rfl, bB⟩
  · have HE := Lib.hid (valOf_some _ _ _ hyes)
    have hkl := (List.getElem?_eq_some_iff.1 hk).1
    cases a with
    | none => exfalso; have h3 := hkl; rw [HN.out rfl] at h3; exact absurd h3 (Nat.not_lt_zero _)
    | some x =>
      obtain ⟨g, o, rfl, hx'⟩ := HX.out x rfl
      have c2 := (hx' k q hk).2
      have c2 := (bB.cell (World.block_lt_of_cell? _ _ c2)).trans c2
      clear hyes hk hx'
      go_wp2
      go_ret2
      exact ⟨by rw [HE.out]; rfl, bB⟩
/-- All values are short. -/
def ShortV (xs : List (List UInt8 × List UInt8)) : Prop := ∀ p ∈ xs, p.2.length ≤ 3000
theorem valOf_short (xs : List (List UInt8 × List UInt8)) (nm : List UInt8) (h : ShortV xs) : ((M.valOf xs nm).getD []).length ≤ 3000 := by
  rw [M.valOf]
  cases hf : xs.find? (fun a => a.1 == nm) with
  | none => exact Nat.zero_le _
  | some q => exact h q (List.mem_of_find?_eq_some hf)
theorem toldS_any (v : Value) (xs : List (List UInt8 × List UInt8)) (w : World) (h : AttrSl w v xs) (hs : ShortV xs) (hL : Len w) : Calls Tryd.prog 58 #[v] w fun e w' => e = .returned (.int .i64 (M.toldA xs)) ∧ Bel w w' := by
  have r1 := fun w h => valOf_any v xs ⟨#[99, 104, 97, 114, 115, 101, 116]⟩ w h
  have r2 := fun w h => valOf_any v xs ⟨#[104, 116, 116, 112, 45, 101, 113, 117, 105, 118]⟩ w h
  have r3 := fun w h => valOf_any v xs ⟨#[99, 111, 110, 116, 101, 110, 116]⟩ w h
  have s1 := valOf_short xs M.charset7 hs
  have s3 := valOf_short xs M.contentB hs
  rw [show (⟨#[99, 104, 97, 114, 115, 101, 116]⟩ : ByteArray).data.toList = M.charset7 from rfl] at r1
  rw [show (⟨#[104, 116, 116, 112, 45, 101, 113, 117, 105, 118]⟩ : ByteArray).data.toList = M.httpEquiv from rfl] at r2
  rw [show (⟨#[99, 111, 110, 116, 101, 110, 116]⟩ : ByteArray).data.toList = M.contentB from rfl] at r3
  cases h1 : M.valOf xs M.charset7 with
  | some u =>
    rw [h1] at r1 s1
    have HT := Lib.hid (show M.toldA xs = M.find u by rw [M.toldA, h1])
    have R1 := Lib.hid r1
    clear r1 r2 r3 h1
    go_enter Tryd.func58, Tryd.ntmps58
    go_wp2_with fail
    refine (R1.out w h).mono ?_
    rintro e w1 ⟨rfl, b1⟩
    rw [show (some u).getD [] = u from rfl, show (some u).isSome = true from rfl]
    have s1 : u.length ≤ 3000 := s1
    go_wp2_with fail
    refine (of_any ⟨u.toArray⟩ _ (by rw [size_str]; omega)).mono ?_
    rintro e w2 ⟨rfl, b2⟩
    go_wp2_with fail
    go_ret
    exact ⟨by rw [HT.out]; rfl, b1.trans b2⟩
  | none =>
    rw [h1] at r1
    have R1 := Lib.hid r1
    have R2 := Lib.hid r2
    have R3 := Lib.hid r3
    have hk : ((M.valOf xs M.httpEquiv).getD [] == [99, 111, 110, 116, 101, 110, 116, 45, 116, 121, 112, 101]) = true ↔ M.valOf xs M.httpEquiv = some M.contentType := by
      cases M.valOf xs M.httpEquiv with
      | none => exact ⟨(fun h => by cases h), (fun h => by cases h)⟩
      | some u => simp [M.contentType]
    cases hc : ((M.valOf xs M.httpEquiv).getD [] == [99, 111, 110, 116, 101, 110, 116, 45, 116, 121, 112, 101]) with
    | true =>
      have HT := Lib.hid (show M.toldA xs = M.charA ((M.valOf xs M.contentB).getD []) by rw [M.toldA, h1]; simp only; rw [if_pos (hk.1 hc)])
      clear r1 r2 r3 hk h1
      go_enter Tryd.func58, Tryd.ntmps58
      go_wp2_with fail
      refine (R1.out w h).mono ?_
      rintro e w1 ⟨rfl, b1⟩
      rw [show (none : Option (List UInt8)).getD [] = [] from rfl, show (none : Option (List UInt8)).isSome = false from rfl]
      go_wp2_with fail
      refine (R2.out _ (h.bel b1)).mono ?_
      rintro e w2 ⟨rfl, b2⟩
      have b2 := b1.trans b2
      go_wp2_with fail
      refine (R3.out _ (h.bel b2)).mono ?_
      rintro e w3 ⟨rfl, b3⟩
      have b3 := b2.trans b3
      go_wp2_with fail
      refine (told_any2 ⟨((M.valOf xs M.contentB).getD []).toArray⟩ (by rw [size_str]; exact s3) _ (hL.bel b3)).mono ?_
      rintro e w4 ⟨rfl, b4⟩
      go_wp2_with fail
      go_ret
      exact ⟨by rw [HT.out]; rfl, b3.trans b4⟩
    | false =>
      have HT := Lib.hid (show M.toldA xs = 0 by rw [M.toldA, h1]; simp only; rw [if_neg (fun h9 => by rw [hk.2 h9] at hc; cases hc)])
      clear r1 r2 r3 hk h1
      go_enter Tryd.func58, Tryd.ntmps58
      go_wp2_with fail
      refine (R1.out w h).mono ?_
      rintro e w1 ⟨rfl, b1⟩
      rw [show (none : Option (List UInt8)).getD [] = [] from rfl, show (none : Option (List UInt8)).isSome = false from rfl]
      go_wp2_with fail
      refine (R2.out _ (h.bel b1)).mono ?_
      rintro e w2 ⟨rfl, b2⟩
      have b2 := b1.trans b2
      go_wp2_with fail
      refine (R3.out _ (h.bel b2)).mono ?_
      rintro e w3 ⟨rfl, b3⟩
      have b3 := b2.trans b3
      go_wp2_with fail
      go_ret
      exact ⟨by rw [HT.out]; rfl, b3⟩
theorem metaS_any (v : Value) (xs : List (List UInt8 × List UInt8)) (w : World) (h : AttrSl w v xs) (hs : ShortV xs) (hL : Len w) : Calls Tryd.prog 36 #[v] w fun e w' => e = .returned (.int .i64 (M.metaA xs)) ∧ Bel w w' := by
  have HT := Lib.hid (show M.metaA xs = M.turnA (M.toldA xs) from rfl)
  obtain ⟨n, hn⟩ : ∃ n, M.toldA xs = n := ⟨_, rfl⟩
  have tt := toldS_any v xs w h hs hL
  rw [hn] at tt HT
  have HH := Lib.hid tt
  clear tt hn
  by_cases h2 : n = 2
  · subst h2
    go_enter Tryd.func36, Tryd.ntmps36
    go_wp2_with fail
    refine HH.out.mono ?_
    rintro e w1 ⟨rfl, b1⟩
    go_wp2_with fail
    go_ret
    exact ⟨by rw [HT.out]; rfl, b1⟩
  · by_cases h3 : n = 3
    · subst h3
      go_enter Tryd.func36, Tryd.ntmps36
      go_wp2_with fail
      refine HH.out.mono ?_
      rintro e w1 ⟨rfl, b1⟩
      go_wp2_with fail
      go_ret
      exact ⟨by rw [HT.out]; rfl, b1⟩
    · by_cases h5 : n = 5
      · subst h5
        go_enter Tryd.func36, Tryd.ntmps36
        go_wp2_with fail
        refine HH.out.mono ?_
        rintro e w1 ⟨rfl, b1⟩
        go_wp2_with fail
        go_ret
        exact ⟨by rw [HT.out]; rfl, b1⟩
      · have HX := Lib.hid (show M.turnA n = n by unfold M.turnA; rw [if_neg (by omega), if_neg h5])
        have e2 : (n == 2) = false := by simp [h2]
        have e3 : (n == 3) = false := by simp [h3]
        have e5 : (n == 5) = false := by simp [h5]
        clear h2 h3 h5
        go_enter Tryd.func36, Tryd.ntmps36
        go_wp2_with fail
        refine HH.out.mono ?_
        rintro e w1 ⟨rfl, b1⟩
        go_wp2_with fail
        go_ret
        exact ⟨by rw [HT.out, HX.out]; rfl, b1⟩
theorem longA_len (xs : List (List UInt8 × List UInt8)) (h : M.longA xs = false) : xs.length ≤ 3000 ∧ ShortV xs := by
  unfold M.longA at h
  rw [Bool.or_eq_false_iff] at h
  refine ⟨by have := h.1; simp at this; omega, fun p hp => ?_⟩
  have := List.any_eq_false.1 h.2 p hp
  simp at this
  omega
theorem meta1_any (s : ByteArray) (w : World) : Calls Tryd.prog 33 #[.string s] w fun e w' => e = .returned (.bool (decide (3000 < s.size))) ∧ w = w' := by
  go_enter Tryd.func33, Tryd.ntmps33
  go_wp2
  all_goals go_ret
  all_goals exact ⟨by simp; omega, rfl⟩
theorem meta2_any (a b : ByteArray) (g : Nat) (w : World) (hc : w.cell? ⟨g, 0, none⟩ = some (.func (.func 33) #[] #[])) (hg : g < w.heap.size) : Calls Tryd.prog 35 #[.agg #[.string a, .string b], .pointer (some ⟨g, 0, none⟩)] w fun e w' => e = .returned (.bool (decide (3000 < a.size) || decide (3000 < b.size))) ∧ Bel w w' := by
  go_enter Tryd.func35, Tryd.ntmps35
  have hne : g ≠ w.heap.size := by omega
  go_wp2_with (go_at_call 33; refine (meta1_any _ _).mono ?_; rintro e w' ⟨rfl, rfl⟩)
  all_goals (go_ret; exact ⟨by simp_all <;> omega, (by repeat (first | exact Bel.refl _ | refine Bel.drewN ?_ _ | refine Bel.drew ?_ | refine Bel.alloc ?_ _ | refine Bel.trans ?_ (by assumption) | refine Bel.setCell ?_ (by simp; omega) _))⟩)
theorem containsSl (v : Value) (xs : List (List UInt8 × List UInt8)) (p : List UInt8 × List UInt8 → Bool) (g : Nat) (lb : Array Value) (eg : ∀ args w, (callFunc g args).run Tryd.prog w = .ok (.enter g args) w) (w : World) (h : AttrSl w v xs)
    (hp : ∀ (W : World) (q : List UInt8 × List UInt8), Below w.heap.size w W → q ∈ xs → Calls Tryd.prog g (#[.agg #[.string ⟨q.1.toArray⟩, .string ⟨q.2.toArray⟩]] ++ lb) W fun e w' => e = .returned (.bool (p q)) ∧ Below w.heap.size w w') :
    Calls Tryd.prog 34 #[v, .func (.func g) #[] lb] w fun e w' => e = .returned (.bool (xs.any p)) ∧ Bel w w' := by
  have HI := Lib.hid (ixSl v xs p g lb eg w h hp)
  clear hp h
  go_enter Tryd.func34, Tryd.ntmps34
  go_wp2_with fail
  refine HI.out.mono ?_
  rintro e w1 ⟨⟨r, rfl, hr⟩, b1⟩
  rcases hr with ⟨rfl, hno⟩ | ⟨k, q, rfl, hk, hyes⟩
  · have HE := Lib.hid (show xs.any p = false by rw [List.any_eq_false]; exact List.find?_eq_none.1 hno)
    clear hno
    go_wp2
    go_ret
    exact ⟨by rw [HE.out]; rfl, b1⟩
  · have HE := Lib.hid (show xs.any p = true by rw [List.any_eq_true]; exact ⟨q, List.mem_of_find?_eq_some hyes, List.find?_some hyes⟩)
    clear hyes hk
    go_wp2
    go_ret
    exact ⟨by rw [HE.out]; simp, b1⟩
theorem metaS_to (v : Value) (xs : List (List UInt8 × List UInt8)) (n x : Int) (hE : M.metaE xs = (n, x)) (w : World) (h : AttrSl w v xs) (hL : Len w) : Calls Tryd.prog 17 #[v] w fun e w' => e = .returned (.tuple #[.int .i64 n, .int .i64 x]) ∧ Bel w w' := by
  have HS := Lib.hid h
  obtain ⟨a, c, rfl, hc1, hc2, hn, hx⟩ := h
  unfold maxLen at hc2
  clear hn hx
  by_cases hl : 3000 < xs.length
  · rw [M.metaE, if_pos (show M.longA xs = true by rw [M.longA, decide_eq_true hl]; rfl)] at hE
    injection hE with e1 e2
    subst e1; subst e2
    go_enter Tryd.func17, Tryd.ntmps17
    go_wp2_with fail
    go_ret2
    exact ⟨rfl, (by repeat (first | exact Bel.refl _ | refine Bel.drewN ?_ _ | refine Bel.drew ?_ | refine Bel.alloc ?_ _ | refine Bel.trans ?_ (by assumption) | refine Bel.setCell ?_ (by simp; omega) _))⟩
  · obtain ⟨b, hb⟩ : ∃ b, (xs.any fun a => decide (3000 < a.1.length) || decide (3000 < a.2.length)) = b := ⟨_, rfl⟩
    have hlong : M.longA xs = b := by rw [M.longA, hb, decide_eq_false hl]; rfl
    have hm := metaS_any (.slice a xs.length c) xs
    have hcs := fun W hW hp => containsSl (.slice a xs.length c) xs (fun a => decide (3000 < a.1.length) || decide (3000 < a.2.length)) 35 #[.pointer (some ⟨w.heap.size, 0, none⟩)] (enters_of Tryd.func35 (by kernel_rfl) rfl) W hW hp
    rw [hb] at hcs
    have HCS := Lib.hid hcs
    have HHL := Lib.hid hlong
    rw [M.metaE, hlong] at hE
    clear hcs hb hlong
    have hp : ∀ (W : World) (q : List UInt8 × List UInt8), Below (w.heap.size + 1) (w.alloc (.cells #[.func (.func 33) #[] #[]] 45)) W → q ∈ xs → Calls Tryd.prog 35 (#[.agg #[.string ⟨q.1.toArray⟩, .string ⟨q.2.toArray⟩]] ++ #[.pointer (some ⟨w.heap.size, 0, none⟩)]) W fun e w' => e = .returned (.bool (decide (3000 < q.1.length) || decide (3000 < q.2.length))) ∧ Below (w.heap.size + 1) (w.alloc (.cells #[.func (.func 33) #[] #[]] 45)) w' := by
      intro W q hW _
      have hsz := hW.size
      rw [World.size_alloc] at hsz
      refine (meta2_any ⟨q.1.toArray⟩ ⟨q.2.toArray⟩ w.heap.size W ?_ (by omega)).mono ?_
      · rw [hW.cell (p := ⟨w.heap.size, 0, none⟩) (by simp), cell_new]
      · rintro e w3 ⟨rfl, b4⟩
        refine ⟨by rw [size_str, size_str], hW.trans (b4.mono hsz)⟩
    have HP := Lib.hid hp
    clear hp
    cases b with
    | true =>
      rw [if_pos rfl] at hE
      injection hE with e1 e2
      subst e1; subst e2
      go_enter Tryd.func17, Tryd.ntmps17
      go_wp2_with fail
      refine (HCS.out _ (HS.out.bel ((Bel.refl w).alloc _)) (by rw [World.size_alloc]; exact HP.out)).mono ?_
      rintro e w1 ⟨rfl, b1⟩
      go_wp2_with fail
      go_ret2
      exact ⟨rfl, ((Bel.refl w).alloc _).trans b1⟩
    | false =>
      rw [if_neg (by decide)] at hE
      injection hE with e1 e2
      subst e1; subst e2
      go_enter Tryd.func17, Tryd.ntmps17
      go_wp2_with fail
      refine (HCS.out _ (HS.out.bel ((Bel.refl w).alloc _)) (by rw [World.size_alloc]; exact HP.out)).mono ?_
      rintro e w1 ⟨rfl, b1⟩
      have bB := ((Bel.refl w).alloc (.cells #[.func (.func 33) #[] #[]] 45)).trans b1
      go_wp2_with fail
      refine (hm _ (HS.out.bel bB) (longA_len xs HHL.out).2 (hL.bel bB)).mono ?_
      rintro e w2 ⟨rfl, b2⟩
      go_wp2_with fail
      go_ret2
      exact ⟨rfl, bB.trans b2⟩
end Go.Proofs.YthaoohckgilahaaDoor

/-
  Texts of the proof, laid together: Scan1, Scan2, Scan3, PlainScan2, Scan4, Scan5, Mark, Front1, RLong, RLabel, RAttr, RAttr3, RChar, RScan1, RScan2, RMark, FrontR1, Bits. No condition of its own.
-/
import Derived.Test.YteingkjdemlhgaaGreatDoorG2
import Derived.Laws.EntriesVeiled
import Derived.BigRegion
import Derived.Test.YteingkjdemlhgaaGreatDoorG1
import Derived.Test.YteingkjdemlhgaaGreatDoorProg
import Derived.WalkLawsBesides
import Derived.WalkSpells
import Derived.Deep.QuietTactic
import Derived.BigQuiet
import Derived.Deep.CutBlock
import Derived.Deep.Cut
import Derived.Deep.CutRange
import Derived.WalkKit
import Derived.Laws.BitsAllLaws
import Derived.Laws.BitsLemmas

/-
  Package scan: value, told, meta, Meta.
-/
namespace Go.Proofs.YteingkjdemlhgaaGreatDoor
open Go.RowKit
set_option maxRecDepth 1000000
theorem ixAttr (b off n c : Nat) (zs : Nat → Value × Value) (p : Nat → Bool) (g : Nat) (lb : Array Value) (eg : ∀ args w, (callFunc g args).run Tryz.prog w = .ok (.enter g args) w) (w : World)
    (hp : ∀ (W : World) (j : Nat), j < n → Below w.heap.size w W → Calls Tryz.prog g (#[.agg #[(zs j).1, (zs j).2]] ++ lb) W fun e w' => e = .returned (.bool (p j)) ∧ Below w.heap.size w w')
    (hbig : n ≤ 9223372036854775807) (hb : b < w.heap.size) (hc : ∀ j, j < n → w.cell? ⟨b, off + j * 2, none⟩ = some (zs j).1 ∧ w.cell? ⟨b, off + j * 2 + 1, none⟩ = some (zs j).2) :
    Calls Tryz.prog 213 #[.slice (some ⟨b, off, none⟩) n c, .func (.func g) #[] lb] w fun e w' => (∃ r : Int, e = .returned (.int .i64 r) ∧ FirstAt n p r) ∧ Below w.heap.size w w' := by
  have hrow : ∀ (W : World), Below w.heap.size w W → ∀ j, j < n → W.cell? ⟨b, off + j * 2, none⟩ = some (zs j).1 ∧ W.cell? ⟨b, off + j * 2 + 1, none⟩ = some (zs j).2 := fun W hW j hj => by
    have h1 := hc j hj
    exact ⟨(hW.cell (p := ⟨b, off + j * 2, none⟩) hb).trans h1.1, (hW.cell (p := ⟨b, off + j * 2 + 1, none⟩) hb).trans h1.2⟩
  clear hc
  go_enter Tryz.func213, Tryz.ntmps213
  go_wp2
  go_loopg [5, 8] n (fun gg _ s8 wr => ∃ kk : Nat, kk ≤ n ∧ n - kk ≤ gg ∧ s8 = .int .i64 kk ∧ Aside (Below w.heap.size w wr) ∧ Aside (∀ j, j < kk → p j = false))
  case atStart => exact ⟨0, Nat.zero_le _, by omega, rfl, Below.refl _ w, fun j hj => absurd hj (Nat.not_lt_zero _)⟩
  case round =>
    obtain ⟨kk, hkk, hg, rfl, BW, A⟩ := hrel
    by_cases hlt : kk < n
    · have hltz : (kk : Int) < (n : Int) := by omega
      obtain ⟨l1, l2⟩ := hrow wr BW.out kk (by omega)
      have hcall := hp wr kk hlt BW.out
      clear hrow hp
      generalize (zs kk) = y at l1 l2 hcall
      obtain ⟨y1, y2⟩ := y
      simp only at l1 l2 hcall
      cases hq : p kk with
      | true =>
        rw [hq] at hcall
        have HQ := Lib.hid hq
        clear hq
        go_wp2_with (go_at_fn g; refine hcall.mono ?_; rintro e w' ⟨rfl, hb'⟩)
        go_ret
        exact ⟨⟨kk, rfl, .inr ⟨kk, hlt, rfl, HQ.out, A.out⟩⟩, hb'⟩
      | false =>
        rw [hq] at hcall
        have HQ := Lib.hid hq
        clear hq
        go_wp2_with (go_at_fn g; refine hcall.mono ?_; rintro e w' ⟨rfl, hb'⟩)
        go_roundg (n - (kk + 1))
        case measure => omega
        case rel =>
          refine ⟨kk + 1, by omega, by omega, by go_num, hb', (show Aside _ from fun j hj => ?_)⟩
          by_cases e : j = kk
          · subst e
            exact HQ.out
          · exact A.out j (by omega)
    · have hltz : ¬ (kk : Int) < (n : Int) := by omega
      have : kk = n := by omega
      subst this
      go_wp2
      go_ret
      exact ⟨⟨-1, rfl, .inl ⟨rfl, A.out⟩⟩, BW.out⟩
theorem ixAttr_nil (a : Option Addr) (f : Value) (c : Nat) (w : World) : Calls Tryz.prog 213 #[.slice a 0 c, f] w fun e w' => e = .returned (.int .i64 (-1)) ∧ Bel w w' := by
  go_enter Tryz.func213, Tryz.ntmps213
  go_wp2
  go_loop [8] (fun v => v = .int .i64 0) (fun _ => 0)
  case atStart => rfl
  case round =>
    subst hrel
    go_wp2
    go_ret
    exact ⟨rfl, Bel.refl _⟩
/-- The first that has it; -1: none has. -/
def FindAt (xs : List (List UInt8 × List UInt8)) (p : List UInt8 × List UInt8 → Bool) (r : Int) : Prop := (r = -1 ∧ xs.find? p = none) ∨ ∃ (k : Nat) (q : List UInt8 × List UInt8), r = k ∧ xs[k]? = some q ∧ xs.find? p = some q
theorem find_at (xs : List (List UInt8 × List UInt8)) (p : List UInt8 × List UInt8 → Bool) (r : Int) (h : FirstAt xs.length (fun j => p (xs.getD j ([], []))) r) : FindAt xs p r := by
  rcases h with ⟨rfl, h⟩ | ⟨k, hk, rfl, hy, hno⟩
  · refine .inl ⟨rfl, List.find?_eq_none.2 fun x hx => ?_⟩
    obtain ⟨j, hj, rfl⟩ := List.getElem_of_mem hx
    have := h j hj
    simp only [List.getD_eq_getElem?_getD, List.getElem?_eq_getElem hj, Option.getD_some] at this
    rw [this]; decide
  · refine .inr ⟨k, xs[k], rfl, List.getElem?_eq_getElem hk, List.find?_eq_some_iff_getElem.2 ⟨?_, k, hk, rfl, fun j hj => ?_⟩⟩
    · simpa only [List.getD_eq_getElem?_getD, List.getElem?_eq_getElem hk, Option.getD_some] using hy
    · have := hno j hj
      simp only [List.getD_eq_getElem?_getD, List.getElem?_eq_getElem (Nat.lt_trans hj hk), Option.getD_some] at this
      rw [this]; rfl
theorem ixSl (v : Value) (xs : List (List UInt8 × List UInt8)) (p : List UInt8 × List UInt8 → Bool) (g : Nat) (lb : Array Value) (eg : ∀ args w, (callFunc g args).run Tryz.prog w = .ok (.enter g args) w) (w : World) (h : AttrSl w v xs)
    (hp : ∀ (W : World) (q : List UInt8 × List UInt8), Below w.heap.size w W → q ∈ xs → Calls Tryz.prog g (#[.agg #[.string ⟨q.1.toArray⟩, .string ⟨q.2.toArray⟩]] ++ lb) W fun e w' => e = .returned (.bool (p q)) ∧ Below w.heap.size w w') :
    Calls Tryz.prog 213 #[v, .func (.func g) #[] lb] w fun e w' => (∃ r : Int, e = .returned (.int .i64 r) ∧ FindAt xs p r) ∧ Below w.heap.size w w' := by
  obtain ⟨a, c, rfl, hc1, hc2, hn, hx⟩ := h
  by_cases h0 : xs = []
  · subst h0
    refine (ixAttr_nil a _ c w).mono ?_
    rintro e w' ⟨rfl, hb⟩
    exact ⟨⟨-1, rfl, .inl ⟨rfl, rfl⟩⟩, hb⟩
  · cases a with
    | none => exact absurd (hn rfl) h0
    | some x =>
      obtain ⟨g1, o, rfl, hy⟩ := hx x rfl h0
      have hat : ∀ j, (hj : j < xs.length) → xs.getD j ([], []) = xs[j] := fun j hj => by simp [hj]
      have hpos : 0 < xs.length := List.length_pos_iff.2 h0
      have hl := (hy 0 xs[0] (List.getElem?_eq_getElem hpos)).1
      have hlt := World.block_lt_of_cell? _ _ hl
      refine (ixAttr g1 o xs.length c (fun j => (.string ⟨(xs.getD j ([], [])).1.toArray⟩, .string ⟨(xs.getD j ([], [])).2.toArray⟩)) (fun j => p (xs.getD j ([], []))) g lb eg w ?_ ?_ hlt ?_).mono ?_
      · intro W j hj hW
        exact hp W _ hW (by rw [hat j hj]; exact List.getElem_mem hj)
      · unfold maxLen at hc2; omega
      · intro j hj
        obtain ⟨c1, c2⟩ := hy j _ (List.getElem?_eq_getElem hj)
        rw [hat j hj]
        exact ⟨c1, c2⟩
      · rintro e w' ⟨⟨r, rfl, hr⟩, hb⟩
        exact ⟨⟨r, rfl, find_at xs p r hr⟩, hb⟩
theorem val1_any (nm a b : ByteArray) (g : Nat) (w : World) (hc : w.cell? ⟨g, 0, none⟩ = some (.string nm)) (hg : g < w.heap.size) : Calls Tryz.prog 214 #[.agg #[.string a, .string b], .pointer (some ⟨g, 0, none⟩)] w fun e w' => e = .returned (.bool (a.toList == nm.toList)) ∧ Bel w w' := by
  go_enter Tryz.func214, Tryz.ntmps214
  have hne : g ≠ w.heap.size := by omega
  go_wp2
  all_goals (go_ret; exact ⟨by simp_all, (by repeat (first | exact Bel.refl _ | refine Bel.drewN ?_ _ | refine Bel.drew ?_ | refine Bel.alloc ?_ _ | refine Bel.trans ?_ (by assumption) | refine Bel.setCell ?_ (by simp; omega) _))⟩)
theorem valOf_some (xs : List (List UInt8 × List UInt8)) (nm : List UInt8) (q : List UInt8 × List UInt8) (h : xs.find? (fun a => a.1 == nm) = some q) : M.valOf xs nm = some q.2 := by rw [M.valOf, h]; rfl
theorem valOf_none (xs : List (List UInt8 × List UInt8)) (nm : List UInt8) (h : xs.find? (fun a => a.1 == nm) = none) : M.valOf xs nm = none := by rw [M.valOf, h]; rfl
theorem valOf_any (v : Value) (xs : List (List UInt8 × List UInt8)) (nm : ByteArray) (w : World) (h : AttrSl w v xs) : Calls Tryz.prog 207 #[v, .string nm] w fun e w' => e = .returned (.tuple #[.string ⟨((M.valOf xs nm.data.toList).getD []).toArray⟩, .bool (M.valOf xs nm.data.toList).isSome]) ∧ Bel w w' := by
  have HS := Lib.hid h
  obtain ⟨a, c, rfl, hc1, hc2, hn, hx⟩ := h
  unfold maxLen at hc2
  have HX := Lib.hid hx
  have HN := Lib.hid hn
  clear hx hn
  go_enter Tryz.func207, Tryz.ntmps207
  go_wp2_with fail
  refine (ixSl _ xs (fun q => q.1 == nm.data.toList) 214 #[.pointer (some ⟨w.heap.size, 0, none⟩)] (enters_of Tryz.func214 (by kernel_rfl) rfl) _ (HS.out.bel ((Bel.refl w).alloc _)) ?_).mono ?_
  · intro W q hW _
    refine (val1_any nm ⟨q.1.toArray⟩ ⟨q.2.toArray⟩ w.heap.size W ?_ ?_).mono ?_
    · rw [hW.cell (p := ⟨w.heap.size, 0, none⟩) (by simp), cell_new]
    · have := hW.size; simp at this; omega
    · rintro e w3 ⟨rfl, b4⟩
      refine ⟨?_, hW.trans (b4.mono hW.size)⟩
      rw [Lib.toList_data, Lib.toList_data]
  rintro e w4 ⟨⟨r, rfl, hr⟩, b4⟩
  have bB := ((Bel.refl w).alloc (.cells #[.string nm] 9)).trans b4
  rcases hr with ⟨rfl, hno⟩ | ⟨k, q, rfl, hk, hyes⟩
  · have HE := Lib.hid (valOf_none _ _ hno)
    clear hno
    go_wp2
    go_ret2
    exact ⟨by rw [HE.out]; rfl, bB⟩
  · have HE := Lib.hid (valOf_some _ _ _ hyes)
    have hkl := (List.getElem?_eq_some_iff.1 hk).1
    cases a with
    | none => exfalso; have h3 := hkl; rw [HN.out rfl] at h3; exact absurd h3 (Nat.not_lt_zero _)
    | some x =>
      obtain ⟨g, o, rfl, hx'⟩ := HX.out x rfl (List.ne_nil_of_length_pos (by omega))
      have c2 := (hx' k q hk).2
      have c2 := (bB.cell (World.block_lt_of_cell? _ _ c2)).trans c2
      clear hyes hk hx'
      go_wp2
      go_ret2
      exact ⟨by rw [HE.out]; rfl, bB⟩
/-- All values are short. -/
def ShortV (xs : List (List UInt8 × List UInt8)) : Prop := ∀ p ∈ xs, p.2.length ≤ 3000
theorem valOf_short (xs : List (List UInt8 × List UInt8)) (nm : List UInt8) (h : ShortV xs) : ((M.valOf xs nm).getD []).length ≤ 3000 := by
  rw [M.valOf]
  cases hf : xs.find? (fun a => a.1 == nm) with
  | none => exact Nat.zero_le _
  | some q => exact h q (List.mem_of_find?_eq_some hf)
theorem toldS_any (v : Value) (xs : List (List UInt8 × List UInt8)) (w : World) (h : AttrSl w v xs) (hs : ShortV xs) (hL : Len w) : Calls Tryz.prog 194 #[v] w fun e w' => e = .returned (.int .i64 (M.toldA xs)) ∧ Bel w w' := by
  have r1 := fun w h => valOf_any v xs ⟨#[99, 104, 97, 114, 115, 101, 116]⟩ w h
  have r2 := fun w h => valOf_any v xs ⟨#[104, 116, 116, 112, 45, 101, 113, 117, 105, 118]⟩ w h
  have r3 := fun w h => valOf_any v xs ⟨#[99, 111, 110, 116, 101, 110, 116]⟩ w h
  have s1 := valOf_short xs M.charset7 hs
  have s3 := valOf_short xs M.contentB hs
  rw [show (⟨#[99, 104, 97, 114, 115, 101, 116]⟩ : ByteArray).data.toList = M.charset7 from rfl] at r1
  rw [show (⟨#[104, 116, 116, 112, 45, 101, 113, 117, 105, 118]⟩ : ByteArray).data.toList = M.httpEquiv from rfl] at r2
  rw [show (⟨#[99, 111, 110, 116, 101, 110, 116]⟩ : ByteArray).data.toList = M.contentB from rfl] at r3
  cases h1 : M.valOf xs M.charset7 with
  | some u =>
    rw [h1] at r1 s1
    have HT := Lib.hid (show M.toldA xs = M.find u by rw [M.toldA, h1])
    have R1 := Lib.hid r1
    clear r1 r2 r3 h1
    go_enter Tryz.func194, Tryz.ntmps194
    go_wp2_with fail
    refine (R1.out w h).mono ?_
    rintro e w1 ⟨rfl, b1⟩
    rw [show (some u).getD [] = u from rfl, show (some u).isSome = true from rfl]
    have s1 : u.length ≤ 3000 := s1
    go_wp2_with fail
    refine (of_any ⟨u.toArray⟩ _ (by rw [size_str]; omega)).mono ?_
    rintro e w2 ⟨rfl, b2⟩
    go_wp2_with fail
    go_ret
    exact ⟨by rw [HT.out]; rfl, b1.trans b2⟩
  | none =>
    rw [h1] at r1
    have R1 := Lib.hid r1
    have R2 := Lib.hid r2
    have R3 := Lib.hid r3
    have hk : ((M.valOf xs M.httpEquiv).getD [] == [99, 111, 110, 116, 101, 110, 116, 45, 116, 121, 112, 101]) = true ↔ M.valOf xs M.httpEquiv = some M.contentType := by
      cases M.valOf xs M.httpEquiv with
      | none => exact ⟨(fun h => by cases h), (fun h => by cases h)⟩
      | some u => simp [M.contentType]
    cases hc : ((M.valOf xs M.httpEquiv).getD [] == [99, 111, 110, 116, 101, 110, 116, 45, 116, 121, 112, 101]) with
    | true =>
      have HT := Lib.hid (show M.toldA xs = M.charA ((M.valOf xs M.contentB).getD []) by rw [M.toldA, h1]; simp only; rw [if_pos (hk.1 hc)])
      clear r1 r2 r3 hk h1
      go_enter Tryz.func194, Tryz.ntmps194
      go_wp2_with fail
      refine (R1.out w h).mono ?_
      rintro e w1 ⟨rfl, b1⟩
      rw [show (none : Option (List UInt8)).getD [] = [] from rfl, show (none : Option (List UInt8)).isSome = false from rfl]
      go_wp2_with fail
      refine (R2.out _ (h.bel b1)).mono ?_
      rintro e w2 ⟨rfl, b2⟩
      have b2 := b1.trans b2
      go_wp2_with fail
      refine (R3.out _ (h.bel b2)).mono ?_
      rintro e w3 ⟨rfl, b3⟩
      have b3 := b2.trans b3
      go_wp2_with fail
      refine (told_any2 ⟨((M.valOf xs M.contentB).getD []).toArray⟩ (by rw [size_str]; exact s3) _ (hL.bel b3)).mono ?_
      rintro e w4 ⟨rfl, b4⟩
      go_wp2_with fail
      go_ret
      exact ⟨by rw [HT.out]; rfl, b3.trans b4⟩
    | false =>
      have HT := Lib.hid (show M.toldA xs = 0 by rw [M.toldA, h1]; simp only; rw [if_neg (fun h9 => by rw [hk.2 h9] at hc; cases hc)])
      clear r1 r2 r3 hk h1
      go_enter Tryz.func194, Tryz.ntmps194
      go_wp2_with fail
      refine (R1.out w h).mono ?_
      rintro e w1 ⟨rfl, b1⟩
      rw [show (none : Option (List UInt8)).getD [] = [] from rfl, show (none : Option (List UInt8)).isSome = false from rfl]
      go_wp2_with fail
      refine (R2.out _ (h.bel b1)).mono ?_
      rintro e w2 ⟨rfl, b2⟩
      have b2 := b1.trans b2
      go_wp2_with fail
      refine (R3.out _ (h.bel b2)).mono ?_
      rintro e w3 ⟨rfl, b3⟩
      have b3 := b2.trans b3
      go_wp2_with fail
      go_ret
      exact ⟨by rw [HT.out]; rfl, b3⟩
theorem metaS_any (v : Value) (xs : List (List UInt8 × List UInt8)) (w : World) (h : AttrSl w v xs) (hs : ShortV xs) (hL : Len w) : Calls Tryz.prog 170 #[v] w fun e w' => e = .returned (.int .i64 (M.metaA xs)) ∧ Bel w w' := by
  have HT := Lib.hid (show M.metaA xs = M.turnA (M.toldA xs) from rfl)
  obtain ⟨n, hn⟩ : ∃ n, M.toldA xs = n := ⟨_, rfl⟩
  have tt := toldS_any v xs w h hs hL
  rw [hn] at tt HT
  have HH := Lib.hid tt
  clear tt hn
  by_cases h2 : n = 2
  · subst h2
    go_enter Tryz.func170, Tryz.ntmps170
    go_wp2_with fail
    refine HH.out.mono ?_
    rintro e w1 ⟨rfl, b1⟩
    go_wp2_with fail
    go_ret
    exact ⟨by rw [HT.out]; rfl, b1⟩
  · by_cases h3 : n = 3
    · subst h3
      go_enter Tryz.func170, Tryz.ntmps170
      go_wp2_with fail
      refine HH.out.mono ?_
      rintro e w1 ⟨rfl, b1⟩
      go_wp2_with fail
      go_ret
      exact ⟨by rw [HT.out]; rfl, b1⟩
    · by_cases h5 : n = 5
      · subst h5
        go_enter Tryz.func170, Tryz.ntmps170
        go_wp2_with fail
        refine HH.out.mono ?_
        rintro e w1 ⟨rfl, b1⟩
        go_wp2_with fail
        go_ret
        exact ⟨by rw [HT.out]; rfl, b1⟩
      · have HX := Lib.hid (show M.turnA n = n by unfold M.turnA; rw [if_neg (by omega), if_neg h5])
        have e2 : (n == 2) = false := by simp [h2]
        have e3 : (n == 3) = false := by simp [h3]
        have e5 : (n == 5) = false := by simp [h5]
        clear h2 h3 h5
        go_enter Tryz.func170, Tryz.ntmps170
        go_wp2_with fail
        refine HH.out.mono ?_
        rintro e w1 ⟨rfl, b1⟩
        go_wp2_with fail
        go_ret
        exact ⟨by rw [HT.out, HX.out]; rfl, b1⟩
end Go.Proofs.YteingkjdemlhgaaGreatDoor

/-
  Package scan: the looker: begins, byteAt, to, tag.
-/
namespace Go.Proofs.YteingkjdemlhgaaGreatDoor
open Go.RowKit
set_option maxRecDepth 1000000
set_option maxHeartbeats 1000000
/-- A looker at g: it holds a text, the text in small letters, and a place. -/
def Lk (w : World) (g : Nat) (s low : ByteArray) (k : Nat) : Prop := Box w g 171 [.string s, .string low, .int .i64 (k : Int)]
theorem Lk.bel {w w' : World} {g : Nat} {s low : ByteArray} {k : Nat} (h : Lk w g s low k) (hb : Bel w w') : Lk w' g s low k := Box.bel h hb
theorem Lk.move {w : World} {g : Nat} {s low : ByteArray} {k : Nat} (h : Lk w g s low k) (j : Nat) : Lk (w.setCell ⟨g, 2, none⟩ (.int .i64 (j : Int))) g s low j := Box.set h 2 _
/-- low is s in small letters. -/
def Low (s low : ByteArray) : Prop := low.data.toList = M.fold s.data.toList
theorem Low.size {s low : ByteArray} (h : Low s low) : low.size = s.size := by rw [Lib.size_eq, h, M.fold_len, ← Lib.size_eq]
theorem Low.drop {s low : ByteArray} (h : Low s low) (k : Nat) : (low.extract k low.size).data.toList = M.fold (s.data.toList.drop k) := by rw [drop_str, h, fold_drop]
theorem begins_any (g : Nat) (s low p : ByteArray) (k : Nat) (w : World) (h : Lk w g s low k) (hl : Low s low) (hk : k ≤ s.size) : Calls Tryz.prog 167 #[.pointer (some ⟨g, 0, none⟩), .string p] w fun e w' => e = .returned (.bool (Lib.hasPrefix (M.fold (s.data.toList.drop k)) p.data.toList)) ∧ ∃ m, w' = w.drewN m := by
  have c1 := Box.cell h 1 _ rfl
  have c2 := Box.cell h 2 _ rfl
  have hsz := hl.size
  have hbd : (0 : Int) ≤ (k : Int) ∧ (k : Int) ≤ (low.size : Int) := by omega
  have hcall := fun n => Tryz.strings_HasPrefix (low.extract k low.size) p (w.drewN n)
  rw [hl.drop k] at hcall
  have HC := Lib.hid hcall
  clear hcall hl hsz
  go_enter Tryz.func167, Tryz.ntmps167
  go_wp2_with fail
  go_quiet (first | (go_at_call 69; exact Calls.quiet_of_same (HC.out _)))
  go_wp2
  go_ret
  exact ⟨rfl, _, rfl⟩
/-- The byte so many further on, in small letters; 0: there is none. -/
def byteN (l : List UInt8) (more : Nat) : UInt8 := ((M.fold l)[more]?).getD 0
theorem byteAt_any (g : Nat) (s low : ByteArray) (k more : Nat) (w : World) (h : Lk w g s low k) (hl : Low s low) (hk : k ≤ s.size) (hs : s.size ≤ 3000) (hm : more ≤ 9) : Calls Tryz.prog 169 #[.pointer (some ⟨g, 0, none⟩), .int .i64 (more : Int)] w fun e w' => e = .returned (.int .u8 ((byteN (s.data.toList.drop k) more).toNat : Int)) ∧ ∃ m, w' = w.drewN m := by
  have c0 := Box.cell h 0 _ rfl
  have c1 := Box.cell h 1 _ rfl
  have c2 := Box.cell h 2 _ rfl
  have hsz := hl.size
  obtain ⟨km, hkm⟩ : ∃ km : Nat, km = k + more := ⟨_, rfl⟩
  have hki : (k : Int) + (more : Int) = (km : Int) := by omega
  by_cases hlt : km < s.size
  · have hb : byteN (s.data.toList.drop k) more = low[km] := by
      subst hkm
      rw [byteN, ← fold_drop, List.getElem?_drop, ← hl, byte_at low (k + more) (by omega)]
      rfl
    have HB := Lib.hid hb
    have hlt2 : km < low.size := by omega
    have hf : decide ((s.size : Int) ≤ (km : Int)) = false := by simp; omega
    clear hb hl hkm
    go_enter Tryz.func169, Tryz.ntmps169
    go_wp2_with fail
    go_quiet (fail)
    go_wp2_with fail
    go_quiet (fail)
    go_wp2_with fail
    go_ret
    exact ⟨by rw [HB.out]; rfl, _, World.drewN_drewN _ _ _⟩
  · have HB := Lib.hid (show byteN (s.data.toList.drop k) more = 0 by
      rw [byteN, ← fold_drop, List.getElem?_drop, List.getElem?_eq_none (by rw [M.fold_len, ← Lib.size_eq]; omega)]
      rfl)
    have hf : decide ((s.size : Int) ≤ (km : Int)) = true := by simp; omega
    clear hl hkm
    go_enter Tryz.func169, Tryz.ntmps169
    go_wp2_with fail
    go_quiet (fail)
    go_wp2_with fail
    go_ret
    exact ⟨by rw [HB.out]; rfl, _, rfl⟩
theorem behindF_no (sub : List UInt8) : ∀ l : List UInt8, (∀ j, Lib.hasPrefix (M.fold (l.drop j)) sub = false) → M.behindF sub l = []
  | [], _ => rfl
  | c :: t, h => by
    rw [M.behindF, if_neg (by have := h 0; rw [List.drop_zero] at this; rw [this]; decide)]
    exact behindF_no sub t (fun j => h (j + 1))
theorem behindF_at (sub : List UInt8) (hs : sub ≠ []) : ∀ (i : Nat) (l : List UInt8), Lib.hasPrefix (M.fold (l.drop i)) sub = true → (∀ j, j < i → Lib.hasPrefix (M.fold (l.drop j)) sub = false) → M.behindF sub l = l.drop (i + sub.length)
  | i, [], h, _ => by
    rw [List.drop_nil] at h
    cases sub with
    | nil => exact absurd rfl hs
    | cons x y => cases h
  | 0, c :: t, h, _ => by
    rw [M.behindF, if_pos (by rw [List.drop_zero] at h; exact h), Nat.zero_add]
  | i + 1, c :: t, h, hno => by
    rw [M.behindF, if_neg (by have := hno 0 (by omega); rw [List.drop_zero] at this; rw [this]; decide), behindF_at sub hs i t h (fun j hj => hno (j + 1) (by omega)), show i + 1 + sub.length = i + sub.length + 1 by omega, List.drop_succ_cons]
theorem to_any (g : Nat) (s low sub : ByteArray) (k more : Nat) (w : World) (h : Lk w g s low k) (hl : Low s low) (hk : k + more ≤ s.size) (hs : s.size ≤ 3000) (hsub : sub.data.toList ≠ []) (hm : more ≤ 9) (hsl : sub.size ≤ 9) (hL : Len w) : Calls Tryz.prog 168 #[.pointer (some ⟨g, 0, none⟩), .string sub, .int .i64 (more : Int)] w fun e w' => e = .returned (.tuple #[]) ∧ (∃ k', k' ≤ s.size ∧ Lk w' g s low k' ∧ s.data.toList.drop k' = M.behindF sub.data.toList (s.data.toList.drop (k + more))) ∧ Bes g w w' := by
  have c0 := Box.cell h 0 _ rfl
  have c1 := Box.cell h 1 _ rfl
  have c2 := Box.cell h 2 _ rfl
  have f2 := Box.frozen h 2
  have hsz := hl.size
  obtain ⟨m, hm2⟩ := hL
  obtain ⟨km, hkm⟩ : ∃ km : Nat, km = k + more := ⟨_, rfl⟩
  rw [← hkm] at hk ⊢
  have hki : (k : Int) + (more : Int) = (km : Int) := by omega
  have hbd : (0 : Int) ≤ (km : Int) ∧ (km : Int) ≤ (low.size : Int) := by omega
  have hw : IntKind.i64.wrap (km : Int) = (km : Int) := by rw [IntKind.wrap_i64]; omega
  have hcall := fun n => Tryz.strings_Index (low.extract km low.size) sub m (w.drewN n) (by rw [drop_size]; omega) hm2
  rw [hl.drop km] at hcall
  rcases index_cases (M.fold (s.data.toList.drop km)) sub.data.toList hsub with ⟨hi, hno⟩ | ⟨i, hil, hi, hyes, hno⟩
  · rw [hi] at hcall
    have HC := Lib.hid hcall
    have HB := Lib.hid (behindF_no sub.data.toList (s.data.toList.drop km) (fun j => by rw [← fold_drop]; exact hno j))
    clear hcall hl hno hi hkm hsz
    go_enter Tryz.func168, Tryz.ntmps168
    go_wp2_with fail
    go_quiet (first | (go_at_call 113; exact Calls.quiet_of_same (HC.out _)))
    go_wp2_with fail
    exact bodyPost_ret (v := .tuple #[]) (by simp [results, Tryz.results168, go_sem]) rfl ⟨rfl, ⟨s.size, Nat.le_refl _, Lk.move (Box.drewN h nq) s.size, by rw [HB.out]; exact List.drop_eq_nil_of_le (by rw [← Lib.size_eq]; exact Nat.le_refl _)⟩, (Bes.of_bel ((Bel.refl w).drewN nq)).setCell 2 _⟩
  · rw [hi] at hcall
    have HC := Lib.hid hcall
    have HB := Lib.hid (behindF_at sub.data.toList hsub i (s.data.toList.drop km) (by rw [← fold_drop]; exact hyes) (fun j hj => by rw [← fold_drop]; exact hno j hj))
    rw [M.fold_len, List.length_drop, ← Lib.size_eq, ← Lib.size_eq] at hil
    clear hcall hl hno hi hyes hkm hsz
    go_enter Tryz.func168, Tryz.ntmps168
    go_wp2_with fail
    go_quiet (first | (go_at_call 113; exact Calls.quiet_of_same (HC.out _)))
    go_wp2_with fail
    go_end0
    rw [show (k : Int) + ((more : Int) + (i : Int) + (sub.size : Int)) = ((km + (i + sub.size) : Nat) : Int) by omega]
    exact ⟨rfl, ⟨km + (i + sub.size), by omega, Lk.move (Box.drewN h nq) _, by rw [HB.out, List.drop_drop, ← Lib.size_eq]⟩, (Bes.of_bel ((Bel.refl w).drewN nq)).setCell 2 _⟩
theorem drop_min (s : ByteArray) (en : Nat) (h : en ≤ s.size) : s.data.toList.drop (min s.size (en + 1)) = (s.data.toList.drop en).drop 1 := by
  rw [List.drop_drop]
  by_cases e : en + 1 ≤ s.size
  · rw [Nat.min_eq_right e]
  · rw [Nat.min_eq_left (by omega), List.drop_eq_nil_of_le (by rw [← Lib.size_eq]; exact Nat.le_refl _), List.drop_eq_nil_of_le (by rw [← Lib.size_eq]; omega)]
theorem tag_any (g : Nat) (s low : ByteArray) (k fr : Nat) (w : World) (h : Lk w g s low k) (hk : fr ≤ s.size) (hs : s.size ≤ 3000) (xs : List (List UInt8 × List UInt8)) (r : List UInt8) (hn : M.attrsA (s.data.toList.drop fr) = (xs, r)) : Calls Tryz.prog 171 #[.pointer (some ⟨g, 0, none⟩), .int .i64 (fr : Int)] w fun e w' => ∃ v, e = .returned v ∧ AttrSl w' v xs ∧ (∃ k', k' ≤ s.size ∧ Lk w' g s low k' ∧ s.data.toList.drop k' = r.drop 1) ∧ Bes g w w' := by
  have c0 := Box.cell h 0 _ rfl
  have hgl := Box.lt h
  have hsuf := (M.attrsA_suf _ (s.data.toList.drop fr) (Nat.le_refl _)).1
  rw [hn] at hsuf
  have hd := M.Suf.at (M.Suf.trans (a := r) hsuf (M.Suf.drop s.data.toList fr))
  rw [← Lib.size_eq] at hd
  have hrl : r.length ≤ s.size := by
    have := hsuf.len
    rw [List.length_drop, ← Lib.size_eq] at this
    have h9 : r.length ≤ s.size - fr := this
    omega
  have ff := from_any s fr hk hs xs r hn
  obtain ⟨en, hen⟩ : ∃ en : Nat, en = s.size - r.length := ⟨_, rfl⟩
  rw [← hen] at ff hd
  have HF := Lib.hid ff
  have HD := Lib.hid hd
  have henl : en ≤ s.size := by omega
  clear ff hd hsuf hn hen
  go_enter Tryz.func171, Tryz.ntmps171
  go_wp2_with fail
  refine (HF.out _).mono ?_
  rintro e w1 ⟨v, rfl, hown, b1⟩
  have h1 := h.bel b1
  have c0 := Box.cell h1 0 _ rfl
  have c2 := Box.cell h1 2 _ rfl
  have f2 := Box.frozen h1 2
  go_wp2_with fail
  rw [show min (s.size : Int) ((en : Int) + 1) = ((min s.size (en + 1) : Nat) : Int) by omega]
  go_ret
  exact ⟨v, rfl, OwnA.sl (B := w.heap.size) (hown.keep (fun kk hkk => Below.heap_setCell w1 _ _ kk (by have := (hown.lt kk hkk).1; show kk ≠ g; omega))), ⟨min s.size (en + 1), Nat.min_le_left _ _, h1.move _, by rw [drop_min s en henl, HD.out]⟩, (Bes.of_bel b1).setCell 2 _⟩
end Go.Proofs.YteingkjdemlhgaaGreatDoor

/-
  Package scan: letter, named.
-/
namespace Go.Proofs.YteingkjdemlhgaaGreatDoor
open Go.RowKit
set_option maxRecDepth 1000000
set_option maxHeartbeats 1000000
theorem letter_int (c : UInt8) : M.letterB c = (decide (97 ≤ (c.toNat : Int)) && decide ((c.toNat : Int) ≤ 122)) := by
  unfold M.letterB
  rw [Bool.eq_iff_iff]
  simp only [decide_eq_true_eq, Bool.and_eq_true]
  omega
theorem letter_to (c : UInt8) (b : Bool) (h : M.letterB c = b) (w : World) : Calls Tryz.prog 191 #[.int .u8 (c.toNat : Int)] w fun e w' => e = .returned (.bool b) ∧ w' = w := by
  rw [letter_int] at h
  have H := Lib.hid h
  clear h
  go_enter Tryz.func191, Tryz.ntmps191
  go_wp2
  · rename_i h9
    go_ret
    exact ⟨by rw [← H.out, decide_eq_true h9]; rfl, rfl⟩
  · rename_i h9
    go_ret
    exact ⟨by rw [← H.out, decide_eq_false (by omega)]; rfl, rfl⟩
/-- A rune that ends a name. -/
def endP (r : Nat) : Bool := if r < 128 then M.endB (UInt8.ofNat r) else false
theorem endP_byte (b : UInt8) (h : b.toNat < 128) : endP b.toNat = M.endB b := by
  rw [endP, if_pos h, UInt8.ofNat_toNat]
theorem endB_low (b : UInt8) (h : 128 ≤ b.toNat) : M.endB b = false := by
  unfold M.endB
  rw [Bool.or_eq_false_iff]
  constructor
  · rw [M.white_nat, decide_eq_false_iff_not]; omega
  · rw [decide_eq_false_iff_not]; rintro rfl; exact absurd h (by decide)
theorem named1_any (r : Nat) (hr : r ≤ 1114111) (w : World) : Calls Tryz.prog 193 #[.int .i32 (r : Int)] w fun e w' => e = .returned (.bool (endP r)) ∧ w' = w := by
  by_cases h128 : r < 128
  · obtain ⟨c, hc⟩ : ∃ c : UInt8, c.toNat = r := ⟨UInt8.ofNat r, by rw [UInt8.toNat_ofNat']; omega⟩
    subst hc
    have HP := Lib.hid (show endP c.toNat = (((c.toNat : Int) == 62) || M.white c) by
      rw [endP_byte c h128, M.endB, Bool.or_comm]
      congr 1
      rw [Bool.eq_iff_iff]
      simp only [decide_eq_true_eq, beq_iff_eq]
      rw [← UInt8.toNat_inj]
      show c.toNat = 62 ↔ _
      omega)
    obtain ⟨b, hb⟩ : ∃ b, M.white c = b := ⟨_, rfl⟩
    have HW := Lib.hid hb
    rw [hb] at HP
    clear hb
    have hl : decide ((c.toNat : Int) < 128) = true := by simp; omega
    go_enter Tryz.func193, Tryz.ntmps193
    go_wp2_with (go_at_call 106; refine (white_to c b HW.out _).mono ?_; rintro e w' ⟨rfl, rfl⟩)
    · rename_i h9
      go_ret
      exact ⟨by rw [HP.out, show ((c.toNat : Int) == 62) = true by simp [h9]]; rfl, rfl⟩
    · go_ret
      exact ⟨by rw [HP.out]; rfl, rfl⟩
  · have HP := Lib.hid (show endP r = false by rw [endP, if_neg h128])
    have h1 : ((r : Int) == 62) = false := by simp; omega
    have h2 : decide ((r : Int) < 128) = false := by simp; omega
    go_enter Tryz.func193, Tryz.ntmps193
    go_wp2
    go_ret
    exact ⟨by rw [HP.out]; rfl, rfl⟩
/-- Does the name of a tag begin here? -/
def nameQ (l : List UInt8) : Bool := ((byteN l 0).toNat == 60) && M.letterB (byteN l (if (byteN l 1).toNat = 47 then 2 else 1))
theorem fold1_47 (c : UInt8) : (M.fold1 c).toNat = 47 ↔ c = 47 := by
  rw [← UInt8.toNat_inj, M.fold1_nat]
  show _ ↔ c.toNat = 47
  split <;> omega
theorem fold1_60 (c : UInt8) : (M.fold1 c).toNat = 60 ↔ c = 60 := by
  rw [← UInt8.toNat_inj, M.fold1_nat]
  show _ ↔ c.toNat = 60
  split <;> omega
theorem nameEnd_eq (l : List UInt8) : M.nameEnd l = if nameQ l = true then some (l.dropWhile (fun c => !M.endB c)) else none := by
  match l with
  | [] => rfl
  | [c] =>
    have : nameQ [c] = false := by
      have h1 : byteN [c] 1 = 0 := rfl
      rw [nameQ, if_neg (by rw [h1]; decide), h1, show M.letterB 0 = false by decide, Bool.and_false]
    rw [this]; rfl
  | c :: d :: t =>
    have e0 : byteN (c :: d :: t) 0 = M.fold1 c := rfl
    have e1 : byteN (c :: d :: t) 1 = M.fold1 d := rfl
    have e2 : byteN (c :: d :: t) 2 = (t.head?.map M.fold1).getD 0 := by cases t <;> rfl
    have key : (c = 60 ∧ (M.letterB (M.fold1 d) = true ∨ (d = 47 ∧ ∃ x, t.head? = some x ∧ M.letterB (M.fold1 x) = true))) ↔ nameQ (c :: d :: t) = true := by
      rw [nameQ, e0, Bool.and_eq_true, beq_iff_eq, fold1_60, e1]
      refine and_congr_right fun _ => ?_
      by_cases h47 : d = 47
      · subst h47
        rw [if_pos (by decide), e2, show M.letterB (M.fold1 47) = false by decide]
        cases t with
        | nil => simp [show M.letterB 0 = false by decide]
        | cons x y => simp
      · rw [if_neg (by rw [fold1_47]; exact h47), e1]
        simp [h47]
    rw [M.nameEnd]
    by_cases hc : (c = 60 ∧ (M.letterB (M.fold1 d) = true ∨ (d = 47 ∧ ∃ x, t.head? = some x ∧ M.letterB (M.fold1 x) = true)))
    · rw [if_pos hc, if_pos (key.1 hc)]
    · rw [if_neg hc, if_neg (fun h9 => hc (key.2 h9))]
def endOf (s : ByteArray) : Option (List UInt8) → Int
  | some e => ((s.size - e.length : Nat) : Int)
  | none => 0
theorem pred_end (W : World) : PredAtRunes Tryz.prog 193 #[] endP W := fun W' x hx _ => (named1_any x hx W').mono (fun _ _ h => ⟨h.1, 0, h.2⟩)
theorem ix_any (s : ByteArray) (k : Nat) (r : Int) (h : Lib.idxFunc endP true (s.extract k s.size) = r) (W : World) : Calls Tryz.prog 192 #[.string (s.extract k s.size), .func (.func 193) #[] #[]] W fun e w' => e = .returned (.int .i64 r) ∧ Bel W w' := by
  subst h
  exact Tryz.strings_IndexFunc_runes 193 #[] (enters_of Tryz.func193 (by kernel_rfl) rfl) endP (s.extract k s.size) W (pred_end W)
theorem ix_end (s : ByteArray) (k : Nat) : Lib.idxFunc endP true (s.extract k s.size) = M.firstB M.endB 0 (s.data.toList.drop k) := by
  have h := M.idx_byte endP M.endB endP_byte (fun r hr => by rw [endP, if_neg (by omega)]) endB_low (s.extract k s.size) (s.extract k s.size).size 0 (Nat.zero_le _) (Nat.le_refl _)
  rw [drop_str, List.drop_zero] at h
  exact h
theorem first_end (s : ByteArray) (k : Nat) (hk : k ≤ s.size) : (M.firstB M.endB 0 (s.data.toList.drop k) = -1 ∧ endOf s (some ((s.data.toList.drop k).dropWhile (fun c => !M.endB c))) = (s.size : Int)) ∨ ∃ n : Nat, M.firstB M.endB 0 (s.data.toList.drop k) = (n : Int) ∧ endOf s (some ((s.data.toList.drop k).dropWhile (fun c => !M.endB c))) = ((k + n : Nat) : Int) ∧ k + n ≤ s.size := by
  have hl := congrArg List.length (List.takeWhile_append_dropWhile (p := fun c => !M.endB c) (l := s.data.toList.drop k))
  rw [List.length_append, List.length_drop, ← Lib.size_eq] at hl
  unfold M.firstB endOf
  by_cases hd : (s.data.toList.drop k).dropWhile (fun c => !M.endB c) = []
  · left
    rw [if_pos hd, hd]
    exact ⟨rfl, by simp⟩
  · right
    rw [if_neg hd, Nat.zero_add]
    exact ⟨_, rfl, by simp only; omega, by omega⟩
theorem named_any (g : Nat) (s low : ByteArray) (k : Nat) (w : World) (h : Lk w g s low k) (hl : Low s low) (hk : k ≤ s.size) (hs : s.size ≤ 3000) (o : Option (List UInt8)) (ho : M.nameEnd (s.data.toList.drop k) = o) : Calls Tryz.prog 166 #[.pointer (some ⟨g, 0, none⟩)] w fun e w' => e = .returned (.tuple #[.int .i64 (endOf s o), .bool o.isSome]) ∧ Bel w w' := by
  rw [nameEnd_eq, nameQ] at ho
  obtain ⟨c0, hc0⟩ : ∃ c, byteN (s.data.toList.drop k) 0 = c := ⟨_, rfl⟩
  have B0 : ∀ W, Lk W g s low k → Calls Tryz.prog 169 #[.pointer (some ⟨g, 0, none⟩), .int .i64 0] W fun e w' => e = .returned (.int .u8 (c0.toNat : Int)) ∧ ∃ m, w' = W.drewN m := fun W hW => by
    have := byteAt_any g s low k 0 W hW hl hk hs (by decide)
    rw [hc0] at this
    exact this
  obtain ⟨c1, hc1⟩ : ∃ c, byteN (s.data.toList.drop k) 1 = c := ⟨_, rfl⟩
  have B1 : ∀ W, Lk W g s low k → Calls Tryz.prog 169 #[.pointer (some ⟨g, 0, none⟩), .int .i64 1] W fun e w' => e = .returned (.int .u8 (c1.toNat : Int)) ∧ ∃ m, w' = W.drewN m := fun W hW => by
    have := byteAt_any g s low k 1 W hW hl hk hs (by decide)
    rw [hc1] at this
    exact this
  obtain ⟨c2, hc2⟩ : ∃ c, byteN (s.data.toList.drop k) 2 = c := ⟨_, rfl⟩
  have B2 : ∀ W, Lk W g s low k → Calls Tryz.prog 169 #[.pointer (some ⟨g, 0, none⟩), .int .i64 2] W fun e w' => e = .returned (.int .u8 (c2.toNat : Int)) ∧ ∃ m, w' = W.drewN m := fun W hW => by
    have := byteAt_any g s low k 2 W hW hl hk hs (by decide)
    rw [hc2] at this
    exact this
  rw [hc0, hc1] at ho
  cases h60 : ((c0.toNat : Int) != 60) with
  | true =>
    have HO := Lib.hid (show o = none by rw [← ho, if_neg (by simp at h60; simp; omega)])
    cases h47 : ((c1.toNat : Int) == 47) with
    | true =>
      clear ho hc0 hc1 hc2
      go_enter Tryz.func166, Tryz.ntmps166
      go_wp2_with fail
      refine (B1 _ h).mono ?_
      rintro e W1 ⟨rfl, m1, rfl⟩
      have h1 := Box.drewN h m1
      have hb1 : Bel w (w.drewN m1) := (Bel.refl w).drewN m1
      generalize w.drewN m1 = W1 at *
      go_wp2_with fail
      refine (B0 _ h1).mono ?_
      rintro e W2 ⟨rfl, m2, rfl⟩
      have h2 := Box.drewN h1 m2
      have hb2 : Bel w (W1.drewN m2) := hb1.drewN m2
      generalize W1.drewN m2 = W2 at *
      go_wp2_with fail
      go_ret2
      exact ⟨by rw [HO.out]; rfl, hb2⟩
    | false =>
      clear ho hc0 hc1 hc2
      go_enter Tryz.func166, Tryz.ntmps166
      go_wp2_with fail
      refine (B1 _ h).mono ?_
      rintro e W1 ⟨rfl, m1, rfl⟩
      have h1 := Box.drewN h m1
      have hb1 : Bel w (w.drewN m1) := (Bel.refl w).drewN m1
      generalize w.drewN m1 = W1 at *
      go_wp2_with fail
      refine (B0 _ h1).mono ?_
      rintro e W2 ⟨rfl, m2, rfl⟩
      have h2 := Box.drewN h1 m2
      have hb2 : Bel w (W1.drewN m2) := hb1.drewN m2
      generalize W1.drewN m2 = W2 at *
      go_wp2_with fail
      go_ret2
      exact ⟨by rw [HO.out]; rfl, hb2⟩
  | false =>
    have e60 : (c0.toNat == 60) = true := by simp at h60; simp; omega
    rw [e60, Bool.true_and] at ho
    clear e60
    have hix := ix_end s k
    have hir := first_end s k hk
    cases h47 : ((c1.toNat : Int) == 47) with
    | true =>
      have e47 : c1.toNat = 47 := by simp at h47; omega
      rw [if_pos e47, hc2] at ho
      clear e47
      cases hb : M.letterB c2 with
      | false =>
        have HB := Lib.hid hb
        have HO := Lib.hid (show o = none by rw [← ho, hb]; rfl)
        clear ho hc0 hc1 hc2 hb hix hir
        skip
        go_enter Tryz.func166, Tryz.ntmps166
        go_wp2_with fail
        refine (B1 _ h).mono ?_
        rintro e W1 ⟨rfl, m1, rfl⟩
        have h1 := Box.drewN h m1
        have hb1 : Bel w (w.drewN m1) := (Bel.refl w).drewN m1
        generalize w.drewN m1 = W1 at *
        go_wp2_with fail
        refine (B0 _ h1).mono ?_
        rintro e W2 ⟨rfl, m2, rfl⟩
        have h2 := Box.drewN h1 m2
        have hb2 : Bel w (W1.drewN m2) := hb1.drewN m2
        generalize W1.drewN m2 = W2 at *
        go_wp2_with fail
        refine (B2 _ h2).mono ?_
        rintro e W3 ⟨rfl, m3, rfl⟩
        have h3 := Box.drewN h2 m3
        have hb3 : Bel w (W2.drewN m3) := hb2.drewN m3
        generalize W2.drewN m3 = W3 at *
        go_wp2_with fail
        refine (letter_to c2 _ HB.out _).mono ?_
        rintro e W4 ⟨rfl, rfl⟩
        have c0 := Box.cell h3 0 _ rfl
        have c2 := Box.cell h3 2 _ rfl
        clear h1 h2
        go_wp2_with fail
        go_ret2
        exact ⟨by rw [HO.out]; rfl, hb3⟩
      | true =>
        have HB := Lib.hid hb
        have HO := Lib.hid (show o = some ((s.data.toList.drop k).dropWhile (fun c => !M.endB c)) by rw [← ho, hb]; rfl)
        clear ho hc0 hc1 hc2 hb
        rcases hir with ⟨hr, he⟩ | ⟨n, hr, he, hkn⟩
        · rw [hr] at hix
          have HX := Lib.hid hix
          have HE := Lib.hid he
          clear hix hr he
          skip
          go_enter Tryz.func166, Tryz.ntmps166
          go_wp2_with fail
          refine (B1 _ h).mono ?_
          rintro e W1 ⟨rfl, m1, rfl⟩
          have h1 := Box.drewN h m1
          have hb1 : Bel w (w.drewN m1) := (Bel.refl w).drewN m1
          generalize w.drewN m1 = W1 at *
          go_wp2_with fail
          refine (B0 _ h1).mono ?_
          rintro e W2 ⟨rfl, m2, rfl⟩
          have h2 := Box.drewN h1 m2
          have hb2 : Bel w (W1.drewN m2) := hb1.drewN m2
          generalize W1.drewN m2 = W2 at *
          go_wp2_with fail
          refine (B2 _ h2).mono ?_
          rintro e W3 ⟨rfl, m3, rfl⟩
          have h3 := Box.drewN h2 m3
          have hb3 : Bel w (W2.drewN m3) := hb2.drewN m3
          generalize W2.drewN m3 = W3 at *
          go_wp2_with fail
          refine (letter_to c2 _ HB.out _).mono ?_
          rintro e W4 ⟨rfl, rfl⟩
          have c0 := Box.cell h3 0 _ rfl
          have c2 := Box.cell h3 2 _ rfl
          clear h1 h2
          go_wp2_with fail
          go_region_with ((go_at_call 192; refine (ix_any s k _ HX.out _).mono ?_; rintro e W5 ⟨rfl, b5⟩))
          all_goals (
            have hb5 := (Bel.drew hb3).trans b5
            have h5 := Box.bel h3 ((Bel.drew (Bel.refl W4)).trans b5)
            have e0 := Box.cell h5 0 _ rfl
            have e2 := Box.cell h5 2 _ rfl
            go_wp2_with fail
            go_ret2
            exact ⟨by rw [HO.out, HE.out]; rfl, hb5⟩)
        · rw [hr] at hix
          have HX := Lib.hid hix
          have HE := Lib.hid he
          clear hix hr he
          skip
          go_enter Tryz.func166, Tryz.ntmps166
          go_wp2_with fail
          refine (B1 _ h).mono ?_
          rintro e W1 ⟨rfl, m1, rfl⟩
          have h1 := Box.drewN h m1
          have hb1 : Bel w (w.drewN m1) := (Bel.refl w).drewN m1
          generalize w.drewN m1 = W1 at *
          go_wp2_with fail
          refine (B0 _ h1).mono ?_
          rintro e W2 ⟨rfl, m2, rfl⟩
          have h2 := Box.drewN h1 m2
          have hb2 : Bel w (W1.drewN m2) := hb1.drewN m2
          generalize W1.drewN m2 = W2 at *
          go_wp2_with fail
          refine (B2 _ h2).mono ?_
          rintro e W3 ⟨rfl, m3, rfl⟩
          have h3 := Box.drewN h2 m3
          have hb3 : Bel w (W2.drewN m3) := hb2.drewN m3
          generalize W2.drewN m3 = W3 at *
          go_wp2_with fail
          refine (letter_to c2 _ HB.out _).mono ?_
          rintro e W4 ⟨rfl, rfl⟩
          have c0 := Box.cell h3 0 _ rfl
          have c2 := Box.cell h3 2 _ rfl
          clear h1 h2
          go_wp2_with fail
          go_region_with ((go_at_call 192; refine (ix_any s k _ HX.out _).mono ?_; rintro e W5 ⟨rfl, b5⟩))
          all_goals (
            have hb5 := (Bel.drew hb3).trans b5
            have h5 := Box.bel h3 ((Bel.drew (Bel.refl W4)).trans b5)
            have e0 := Box.cell h5 0 _ rfl
            have e2 := Box.cell h5 2 _ rfl
            go_wp2_with fail
            go_ret2
            exact ⟨by rw [HO.out, HE.out]; rfl, hb5⟩)
    | false =>
      have e47 : ¬ c1.toNat = 47 := by simp at h47; omega
      rw [if_neg e47, hc1] at ho
      clear e47
      cases hb : M.letterB c1 with
      | false =>
        have HB := Lib.hid hb
        have HO := Lib.hid (show o = none by rw [← ho, hb]; rfl)
        clear ho hc0 hc1 hc2 hb hix hir
        skip
        go_enter Tryz.func166, Tryz.ntmps166
        go_wp2_with fail
        refine (B1 _ h).mono ?_
        rintro e W1 ⟨rfl, m1, rfl⟩
        have h1 := Box.drewN h m1
        have hb1 : Bel w (w.drewN m1) := (Bel.refl w).drewN m1
        generalize w.drewN m1 = W1 at *
        go_wp2_with fail
        refine (B0 _ h1).mono ?_
        rintro e W2 ⟨rfl, m2, rfl⟩
        have h2 := Box.drewN h1 m2
        have hb2 : Bel w (W1.drewN m2) := hb1.drewN m2
        generalize W1.drewN m2 = W2 at *
        go_wp2_with fail
        refine (B1 _ h2).mono ?_
        rintro e W3 ⟨rfl, m3, rfl⟩
        have h3 := Box.drewN h2 m3
        have hb3 : Bel w (W2.drewN m3) := hb2.drewN m3
        generalize W2.drewN m3 = W3 at *
        go_wp2_with fail
        refine (letter_to c1 _ HB.out _).mono ?_
        rintro e W4 ⟨rfl, rfl⟩
        have c0 := Box.cell h3 0 _ rfl
        have c2 := Box.cell h3 2 _ rfl
        clear h1 h2
        go_wp2_with fail
        go_ret2
        exact ⟨by rw [HO.out]; rfl, hb3⟩
      | true =>
        have HB := Lib.hid hb
        have HO := Lib.hid (show o = some ((s.data.toList.drop k).dropWhile (fun c => !M.endB c)) by rw [← ho, hb]; rfl)
        clear ho hc0 hc1 hc2 hb
        rcases hir with ⟨hr, he⟩ | ⟨n, hr, he, hkn⟩
        · rw [hr] at hix
          have HX := Lib.hid hix
          have HE := Lib.hid he
          clear hix hr he
          skip
          go_enter Tryz.func166, Tryz.ntmps166
          go_wp2_with fail
          refine (B1 _ h).mono ?_
          rintro e W1 ⟨rfl, m1, rfl⟩
          have h1 := Box.drewN h m1
          have hb1 : Bel w (w.drewN m1) := (Bel.refl w).drewN m1
          generalize w.drewN m1 = W1 at *
          go_wp2_with fail
          refine (B0 _ h1).mono ?_
          rintro e W2 ⟨rfl, m2, rfl⟩
          have h2 := Box.drewN h1 m2
          have hb2 : Bel w (W1.drewN m2) := hb1.drewN m2
          generalize W1.drewN m2 = W2 at *
          go_wp2_with fail
          refine (B1 _ h2).mono ?_
          rintro e W3 ⟨rfl, m3, rfl⟩
          have h3 := Box.drewN h2 m3
          have hb3 : Bel w (W2.drewN m3) := hb2.drewN m3
          generalize W2.drewN m3 = W3 at *
          go_wp2_with fail
          refine (letter_to c1 _ HB.out _).mono ?_
          rintro e W4 ⟨rfl, rfl⟩
          have c0 := Box.cell h3 0 _ rfl
          have c2 := Box.cell h3 2 _ rfl
          clear h1 h2
          go_wp2_with fail
          go_region_with ((go_at_call 192; refine (ix_any s k _ HX.out _).mono ?_; rintro e W5 ⟨rfl, b5⟩))
          all_goals (
            have hb5 := (Bel.drew hb3).trans b5
            have h5 := Box.bel h3 ((Bel.drew (Bel.refl W4)).trans b5)
            have e0 := Box.cell h5 0 _ rfl
            have e2 := Box.cell h5 2 _ rfl
            go_wp2_with fail
            go_ret2
            exact ⟨by rw [HO.out, HE.out]; rfl, hb5⟩)
        · rw [hr] at hix
          have HX := Lib.hid hix
          have HE := Lib.hid he
          clear hix hr he
          skip
          go_enter Tryz.func166, Tryz.ntmps166
          go_wp2_with fail
          refine (B1 _ h).mono ?_
          rintro e W1 ⟨rfl, m1, rfl⟩
          have h1 := Box.drewN h m1
          have hb1 : Bel w (w.drewN m1) := (Bel.refl w).drewN m1
          generalize w.drewN m1 = W1 at *
          go_wp2_with fail
          refine (B0 _ h1).mono ?_
          rintro e W2 ⟨rfl, m2, rfl⟩
          have h2 := Box.drewN h1 m2
          have hb2 : Bel w (W1.drewN m2) := hb1.drewN m2
          generalize W1.drewN m2 = W2 at *
          go_wp2_with fail
          refine (B1 _ h2).mono ?_
          rintro e W3 ⟨rfl, m3, rfl⟩
          have h3 := Box.drewN h2 m3
          have hb3 : Bel w (W2.drewN m3) := hb2.drewN m3
          generalize W2.drewN m3 = W3 at *
          go_wp2_with fail
          refine (letter_to c1 _ HB.out _).mono ?_
          rintro e W4 ⟨rfl, rfl⟩
          have c0 := Box.cell h3 0 _ rfl
          have c2 := Box.cell h3 2 _ rfl
          clear h1 h2
          go_wp2_with fail
          go_region_with ((go_at_call 192; refine (ix_any s k _ HX.out _).mono ?_; rintro e W5 ⟨rfl, b5⟩))
          all_goals (
            have hb5 := (Bel.drew hb3).trans b5
            have h5 := Box.bel h3 ((Bel.drew (Bel.refl W4)).trans b5)
            have e0 := Box.cell h5 0 _ rfl
            have e2 := Box.cell h5 2 _ rfl
            go_wp2_with fail
            go_ret2
            exact ⟨by rw [HO.out, HE.out]; rfl, hb5⟩)
end Go.Proofs.YteingkjdemlhgaaGreatDoor

/-
  What a scan needs of attributes and of first bytes, in plain laws.
-/
namespace Go.Proofs.YteingkjdemlhgaaGreatDoor.M
open Go
theorem quotedA_val (q : UInt8) (t v : Bs) (h : (quotedA q t).1 = some v) : v.length ≤ t.length := by
  unfold quotedA at h
  split at h
  · cases h
  · injection h with h
    subst h
    exact (List.takeWhile_prefix (fun c => c != q) (l := t)).length_le
theorem valueA_val (l v : Bs) (h : (valueA l).1 = some v) : v.length ≤ l.length := by
  have h0 := (suf_dropWhile white l).len
  unfold valueA at h
  split at h
  · injection h with h
    subst h
    exact Nat.zero_le _
  · rename_i q t ht
    rw [ht, List.length_cons] at h0
    split at h
    · have := quotedA_val q t v h
      omega
    · injection h with h
      subst h
      have := (List.takeWhile_prefix valB (l := q :: t)).length_le
      rw [List.length_cons] at this
      omega
theorem nextA_val (l : Bs) (p : Bs × Bs) (r : Bs) (h : nextA l = (some p, r)) : p.2.length ≤ l.length := by
  have h0 := (suf_dropWhile skipB l).len
  unfold nextA at h
  split at h
  · cases h
  · rename_i c t hc
    rw [hc, List.length_cons] at h0
    split at h
    · cases h
    · have h2 := (suf_dropWhile white (t.dropWhile nameB)).len
      have h3 := (suf_dropWhile nameB t).len
      unfold afterA at h
      split at h
      · injection h with h _
        injection h with h
        subst h
        exact Nat.zero_le _
      · rename_i e u he
        rw [he, List.length_cons] at h2
        split at h
        · injection h with h _
          cases hv : (valueA u).1 with
          | none => rw [hv] at h; cases h
          | some v =>
            rw [hv] at h
            injection h with h
            subst h
            have := valueA_val u v hv
            show (fold v).length ≤ _
            rw [fold_len]
            omega
        · injection h with h _
          injection h with h
          subst h
          exact Nat.zero_le _
theorem attrsA_val : ∀ (k : Nat) (l : Bs), l.length ≤ k → ∀ p ∈ (attrsA l).1, p.2.length ≤ l.length
  | k, l, h => by
    cases hn : nextA l with
    | mk o r =>
      cases o with
      | none => rw [attrsA_none l r hn]; intro p hp; cases hp
      | some a =>
        have hl := nextA_less l a (by rw [hn])
        rw [hn] at hl
        simp only at hl
        match k, h with
        | 0, h => omega
        | k + 1, h =>
          have ih := attrsA_val k r (by omega)
          rw [attrsA_some l a r hn]
          intro p hp
          rcases List.mem_cons.1 hp with rfl | hp
          · exact nextA_val l _ r hn
          · have := ih p hp; omega
theorem fold1_eq (x : UInt8) (hx : x.toNat < 65 ∨ (90 < x.toNat ∧ x.toNat < 97)) (c : UInt8) : fold1 c = x ↔ c = x := by
  rw [← UInt8.toNat_inj, ← UInt8.toNat_inj, fold1_nat]
  split <;> omega
theorem pre2_fold (x : UInt8) (hx : x.toNat < 65 ∨ (90 < x.toNat ∧ x.toNat < 97)) (l : Bs) : Lib.hasPrefix (fold l) [60, x] = Lib.hasPrefix l [60, x] := by
  have e1 := fold1_eq 60 (.inl (by decide))
  have e2 := fold1_eq x hx
  match l with
  | [] => rfl
  | [c] =>
    show ((60 == fold1 c) && false) = ((60 == c) && false)
    rw [Bool.and_false, Bool.and_false]
  | c :: d :: t =>
    show ((60 == fold1 c) && ((x == fold1 d) && true)) = ((60 == c) && ((x == d) && true))
    have a1 : (60 == fold1 c) = (60 == c) := by rw [Bool.eq_iff_iff, beq_iff_eq, beq_iff_eq]; exact ⟨fun h => ((e1 c).1 h.symm).symm, fun h => ((e1 c).2 h.symm).symm⟩
    have a2 : (x == fold1 d) = (x == d) := by rw [Bool.eq_iff_iff, beq_iff_eq, beq_iff_eq]; exact ⟨fun h => ((e2 d).1 h.symm).symm, fun h => ((e2 d).2 h.symm).symm⟩
    rw [a1, a2]
theorem nameEnd_suf (l e : Bs) (h : nameEnd l = some e) : Suf e l := by
  unfold nameEnd at h
  split at h
  · split at h
    · injection h with h
      subst h
      exact suf_dropWhile _ _
    · cases h
  · cases h
end Go.Proofs.YteingkjdemlhgaaGreatDoor.M

/-
  Package scan: the looker's step.
-/
namespace Go.Proofs.YteingkjdemlhgaaGreatDoor
open Go.RowKit
set_option maxRecDepth 1000000
set_option maxHeartbeats 4000000
theorem pre_roomS (l sub : List UInt8) (h : Lib.hasPrefix (M.fold l) sub = true) (hs : sub ≠ []) : sub.length ≤ l.length := by
  have h1 : Lib.occAt (M.fold l) sub 0 = true := h
  rcases Lib.occAt_room h1 with h2 | h2
  · rw [M.fold_len] at h2
    omega
  · exact absurd h2 hs
theorem byteN_slash (l : List UInt8) : M.slashW (l.drop 5) = (M.white (byteN l 5) || (((byteN l 5).toNat : Int) == 47)) := by
  have e : byteN l 5 = (((l.drop 5).head?).map M.fold1).getD 0 := by
    unfold byteN M.fold
    rw [List.head?_drop, List.getElem?_map]
  rw [e]
  cases l.drop 5 with
  | nil => decide
  | cons c t =>
    show M.skipB c = (M.white (M.fold1 c) || (((M.fold1 c).toNat : Int) == 47))
    have hw : M.white (M.fold1 c) = M.white c := by
      rw [M.white_nat, M.white_nat, Bool.eq_iff_iff, decide_eq_true_eq, decide_eq_true_eq, M.fold1_nat]
      split <;> omega
    rw [hw, M.skipB]
    congr 1
    rw [Bool.eq_iff_iff, decide_eq_true_eq, beq_iff_eq, ← fold1_47]
    omega
theorem Len.bes {g : Nat} {w w' : World} {s low : ByteArray} {k : Nat} (hL : Len w) (h : Lk w g s low k) (hb : Bes g w w') : Len w' := by
  obtain ⟨m, hm⟩ := hL
  have hg : 0 ≠ g := by
    rintro rfl
    have := Box.cell h 0 _ rfl
    rw [hm] at this
    cases this
  refine ⟨m, ?_⟩
  have hlt := World.block_lt_of_cell? w _ hm
  have hblk := hb.block _ hlt hg
  unfold World.cell? at hm ⊢
  rw [hblk]
  exact hm
theorem step_any (g : Nat) (s low : ByteArray) (k : Nat) (w : World) (h : Lk w g s low k) (hl : Low s low) (hk : k ≤ s.size) (hlt : k < s.size) (hs : s.size ≤ 3000) (hL : Len w) (n : Int) (t : List UInt8) (hst : M.stepS (s.data.toList.drop k) = (n, t)) : Calls Tryz.prog 142 #[.pointer (some ⟨g, 0, none⟩)] w fun e w' => e = .returned (.int .i64 n) ∧ (∃ k', k' ≤ s.size ∧ Lk w' g s low k' ∧ s.data.toList.drop k' = t) ∧ Bes g w w' := by
  have h0 := h
  obtain ⟨o, ho⟩ : ∃ o, M.nameEnd (s.data.toList.drop k) = o := ⟨_, rfl⟩
  have NM := Lib.hid (fun W hW => named_any g s low k W hW hl hk hs o ho)
  obtain ⟨c5, hc5⟩ : ∃ c, byteN (s.data.toList.drop k) 5 = c := ⟨_, rfl⟩
  have B5 : ∀ W, Lk W g s low k → Calls Tryz.prog 169 #[.pointer (some ⟨g, 0, none⟩), .int .i64 5] W fun e w' => e = .returned (.int .u8 (c5.toNat : Int)) ∧ ∃ m, w' = W.drewN m := fun W hW => by
    have := byteAt_any g s low k 5 W hW hl hk hs (by decide)
    rw [hc5] at this
    exact this
  have G5 := Lib.hid B5
  obtain ⟨b1, hb1⟩ : ∃ b, Lib.hasPrefix (M.fold (s.data.toList.drop k)) M.openS = b := ⟨_, rfl⟩
  have B1 := fun W hW => begins_any g s low ⟨#[60, 33, 45, 45]⟩ k W hW hl hk
  rw [show (⟨#[60, 33, 45, 45]⟩ : ByteArray).data.toList = M.openS from rfl, hb1] at B1
  have G1 := Lib.hid B1
  obtain ⟨b2, hb2⟩ : ∃ b, Lib.hasPrefix (M.fold (s.data.toList.drop k)) M.metaS = b := ⟨_, rfl⟩
  have B2 := fun W hW => begins_any g s low ⟨#[60, 109, 101, 116, 97]⟩ k W hW hl hk
  rw [show (⟨#[60, 109, 101, 116, 97]⟩ : ByteArray).data.toList = M.metaS from rfl, hb2] at B2
  have G2 := Lib.hid B2
  obtain ⟨b3, hb3⟩ : ∃ b, Lib.hasPrefix (M.fold (s.data.toList.drop k)) [60, 33] = b := ⟨_, rfl⟩
  have B3 := fun W hW => begins_any g s low ⟨#[60, 33]⟩ k W hW hl hk
  rw [show (⟨#[60, 33]⟩ : ByteArray).data.toList = [60, 33] from rfl, hb3] at B3
  have G3 := Lib.hid B3
  obtain ⟨b4, hb4⟩ : ∃ b, Lib.hasPrefix (M.fold (s.data.toList.drop k)) [60, 47] = b := ⟨_, rfl⟩
  have B4 := fun W hW => begins_any g s low ⟨#[60, 47]⟩ k W hW hl hk
  rw [show (⟨#[60, 47]⟩ : ByteArray).data.toList = [60, 47] from rfl, hb4] at B4
  have G4 := Lib.hid B4
  obtain ⟨b6, hb6⟩ : ∃ b, Lib.hasPrefix (M.fold (s.data.toList.drop k)) [60, 63] = b := ⟨_, rfl⟩
  have B6 := fun W hW => begins_any g s low ⟨#[60, 63]⟩ k W hW hl hk
  rw [show (⟨#[60, 63]⟩ : ByteArray).data.toList = [60, 63] from rfl, hb6] at B6
  have G6 := Lib.hid B6
  rw [M.pre2_fold _ (by decide)] at hb3 hb4 hb6
  have HST := Lib.hid hst
  unfold M.stepS at hst
  rw [byteN_slash, hc5, ho, hb1, hb2, hb3, hb4, hb6] at hst
  have hroom1 := pre_roomS (s.data.toList.drop k) M.openS
  rw [hb1, List.length_drop, ← Lib.size_eq, show M.openS.length = 4 from rfl] at hroom1
  have hroom2 := pre_roomS (s.data.toList.drop k) M.metaS
  rw [hb2, List.length_drop, ← Lib.size_eq, show M.metaS.length = 5 from rfl] at hroom2
  clear hc5 hb1 hb2 hb3 hb4 hb6 HST B5 B1 B2 B3 B4 B6
  cases b1 with
  | true =>
    have hr4 := hroom1 rfl (by decide)
    rw [if_pos rfl] at hst
    injection hst with e1 e2
    subst e1
    have HE := Lib.hid e2
    clear e2 hroom1 hroom2 ho
    go_enter Tryz.func142, Tryz.ntmps142
    go_wp2_with fail
    refine (NM.out _ h).mono ?_
    rintro e W1 ⟨rfl, b1⟩
    have h := Box.bel h b1
    have hB : Bes g w W1 := Bes.of_bel b1
    clear b1
    go_wp2_with fail
    refine (G1.out _ h).mono ?_
    rintro e W2 ⟨rfl, m, rfl⟩
    have h := Box.drewN h m
    have hB := hB.trans (Bes.of_bel ((Bel.refl W1).drewN m))
    generalize World.drewN W1 m = W2 at h hB ⊢
    go_wp2_with fail
    refine (to_any g s low ⟨#[45, 45, 62]⟩ k 2 _ h hl (by omega) hs (by decide) (by decide) (by decide) (Len.bes hL h0 hB)).mono ?_
    rintro e W9 ⟨rfl, ⟨k', hk', h9, hd⟩, hB9⟩
    go_wp2_with fail
    go_ret
    exact ⟨rfl, ⟨k', hk', h9, by rw [hd, ← HE.out]; first | rfl | (rw [List.drop_drop]; rfl)⟩, hB.trans hB9⟩
  | false =>
    rw [if_neg (by decide)] at hst
    cases b2 with
    | false =>
      rw [if_neg (by rintro ⟨h9, _⟩; cases h9)] at hst
      cases o with
      | some en =>
        have hsuf := M.nameEnd_suf _ _ ho
        have hd0 := M.Suf.at (M.Suf.trans (a := en) hsuf (M.Suf.drop s.data.toList k))
        rw [← Lib.size_eq] at hd0
        obtain ⟨xs, r, hn⟩ : ∃ xs r, M.attrsA en = (xs, r) := ⟨_, _, rfl⟩
        have hst : ((0 : Int), (M.attrsA en).2.drop 1) = (n, t) := hst
        rw [hn] at hst
        rw [hd0] at hn
        have T := fun W hW => tag_any g s low k (s.size - en.length) W hW (by omega) hs xs r hn
        rw [show ((s.size - en.length : Nat) : Int) = endOf s (some en) from rfl] at T
        have TG := Lib.hid T
        clear T hn hd0 hsuf
        injection hst with e1 e2
        subst e1
        have HE := Lib.hid e2
        clear e2 hroom1 hroom2 ho
        have ho9 : (some en).isSome = true := rfl
        go_enter Tryz.func142, Tryz.ntmps142
        go_wp2_with fail
        refine (NM.out _ h).mono ?_
        rintro e W1 ⟨rfl, b1⟩
        have h := Box.bel h b1
        have hB : Bes g w W1 := Bes.of_bel b1
        clear b1
        go_wp2_with fail
        refine (G1.out _ h).mono ?_
        rintro e W2 ⟨rfl, m, rfl⟩
        have h := Box.drewN h m
        have hB := hB.trans (Bes.of_bel ((Bel.refl W1).drewN m))
        generalize World.drewN W1 m = W2 at h hB ⊢
        go_wp2_with fail
        refine (G2.out _ h).mono ?_
        rintro e W3 ⟨rfl, m, rfl⟩
        have h := Box.drewN h m
        have hB := hB.trans (Bes.of_bel ((Bel.refl W2).drewN m))
        generalize World.drewN W2 m = W3 at h hB ⊢
        go_wp2_with fail
        refine (TG.out _ h).mono ?_
        rintro e W9 ⟨v, rfl, hsl, ⟨k', hk', h9, hd⟩, hB9⟩
        go_wp2_with fail
        go_ret
        exact ⟨rfl, ⟨k', hk', h9, hd.trans HE.out⟩, hB.trans hB9⟩
      | none =>
        have ho9 : (none : Option (List UInt8)).isSome = false := rfl
        have hst : (if b3 = true ∨ b4 = true ∨ b6 = true then ((0 : Int), M.behindF [62] (s.data.toList.drop k)) else (0, (s.data.toList.drop k).drop 1)) = (n, t) := hst
        cases b3 with
        | true =>
          rw [if_pos (.inl rfl)] at hst
          injection hst with e1 e2
          subst e1
          have HE := Lib.hid e2
          clear e2 hroom1 hroom2 ho
          go_enter Tryz.func142, Tryz.ntmps142
          go_wp2_with fail
          refine (NM.out _ h).mono ?_
          rintro e W1 ⟨rfl, b1⟩
          have h := Box.bel h b1
          have hB : Bes g w W1 := Bes.of_bel b1
          clear b1
          go_wp2_with fail
          refine (G1.out _ h).mono ?_
          rintro e W2 ⟨rfl, m, rfl⟩
          have h := Box.drewN h m
          have hB := hB.trans (Bes.of_bel ((Bel.refl W1).drewN m))
          generalize World.drewN W1 m = W2 at h hB ⊢
          go_wp2_with fail
          refine (G2.out _ h).mono ?_
          rintro e W3 ⟨rfl, m, rfl⟩
          have h := Box.drewN h m
          have hB := hB.trans (Bes.of_bel ((Bel.refl W2).drewN m))
          generalize World.drewN W2 m = W3 at h hB ⊢
          go_wp2_with fail
          refine (G3.out _ h).mono ?_
          rintro e W20 ⟨rfl, m, rfl⟩
          have h := Box.drewN h m
          have hB := hB.trans (Bes.of_bel ((Bel.refl W3).drewN m))
          generalize World.drewN W3 m = W20 at h hB ⊢
          go_wp2_with fail
          refine (to_any g s low ⟨#[62]⟩ k 0 _ h hl (by omega) hs (by decide) (by decide) (by decide) (Len.bes hL h0 hB)).mono ?_
          rintro e W9 ⟨rfl, ⟨k', hk', h9, hd⟩, hB9⟩
          go_wp2_with fail
          go_ret
          exact ⟨rfl, ⟨k', hk', h9, by rw [hd, ← HE.out]; first | rfl | (rw [List.drop_drop]; rfl)⟩, hB.trans hB9⟩
        | false =>
          cases b4 with
          | true =>
            rw [if_pos (.inr (.inl rfl))] at hst
            injection hst with e1 e2
            subst e1
            have HE := Lib.hid e2
            clear e2 hroom1 hroom2 ho
            go_enter Tryz.func142, Tryz.ntmps142
            go_wp2_with fail
            refine (NM.out _ h).mono ?_
            rintro e W1 ⟨rfl, b1⟩
            have h := Box.bel h b1
            have hB : Bes g w W1 := Bes.of_bel b1
            clear b1
            go_wp2_with fail
            refine (G1.out _ h).mono ?_
            rintro e W2 ⟨rfl, m, rfl⟩
            have h := Box.drewN h m
            have hB := hB.trans (Bes.of_bel ((Bel.refl W1).drewN m))
            generalize World.drewN W1 m = W2 at h hB ⊢
            go_wp2_with fail
            refine (G2.out _ h).mono ?_
            rintro e W3 ⟨rfl, m, rfl⟩
            have h := Box.drewN h m
            have hB := hB.trans (Bes.of_bel ((Bel.refl W2).drewN m))
            generalize World.drewN W2 m = W3 at h hB ⊢
            go_wp2_with fail
            refine (G3.out _ h).mono ?_
            rintro e W20 ⟨rfl, m, rfl⟩
            have h := Box.drewN h m
            have hB := hB.trans (Bes.of_bel ((Bel.refl W3).drewN m))
            generalize World.drewN W3 m = W20 at h hB ⊢
            go_wp2_with fail
            refine (G4.out _ h).mono ?_
            rintro e W21 ⟨rfl, m, rfl⟩
            have h := Box.drewN h m
            have hB := hB.trans (Bes.of_bel ((Bel.refl W20).drewN m))
            generalize World.drewN W20 m = W21 at h hB ⊢
            go_wp2_with fail
            refine (to_any g s low ⟨#[62]⟩ k 0 _ h hl (by omega) hs (by decide) (by decide) (by decide) (Len.bes hL h0 hB)).mono ?_
            rintro e W9 ⟨rfl, ⟨k', hk', h9, hd⟩, hB9⟩
            go_wp2_with fail
            go_ret
            exact ⟨rfl, ⟨k', hk', h9, by rw [hd, ← HE.out]; first | rfl | (rw [List.drop_drop]; rfl)⟩, hB.trans hB9⟩
          | false =>
            cases b6 with
            | true =>
              rw [if_pos (.inr (.inr rfl))] at hst
              injection hst with e1 e2
              subst e1
              have HE := Lib.hid e2
              clear e2 hroom1 hroom2 ho
              go_enter Tryz.func142, Tryz.ntmps142
              go_wp2_with fail
              refine (NM.out _ h).mono ?_
              rintro e W1 ⟨rfl, b1⟩
              have h := Box.bel h b1
              have hB : Bes g w W1 := Bes.of_bel b1
              clear b1
              go_wp2_with fail
              refine (G1.out _ h).mono ?_
              rintro e W2 ⟨rfl, m, rfl⟩
              have h := Box.drewN h m
              have hB := hB.trans (Bes.of_bel ((Bel.refl W1).drewN m))
              generalize World.drewN W1 m = W2 at h hB ⊢
              go_wp2_with fail
              refine (G2.out _ h).mono ?_
              rintro e W3 ⟨rfl, m, rfl⟩
              have h := Box.drewN h m
              have hB := hB.trans (Bes.of_bel ((Bel.refl W2).drewN m))
              generalize World.drewN W2 m = W3 at h hB ⊢
              go_wp2_with fail
              refine (G3.out _ h).mono ?_
              rintro e W20 ⟨rfl, m, rfl⟩
              have h := Box.drewN h m
              have hB := hB.trans (Bes.of_bel ((Bel.refl W3).drewN m))
              generalize World.drewN W3 m = W20 at h hB ⊢
              go_wp2_with fail
              refine (G4.out _ h).mono ?_
              rintro e W21 ⟨rfl, m, rfl⟩
              have h := Box.drewN h m
              have hB := hB.trans (Bes.of_bel ((Bel.refl W20).drewN m))
              generalize World.drewN W20 m = W21 at h hB ⊢
              go_wp2_with fail
              refine (G6.out _ h).mono ?_
              rintro e W22 ⟨rfl, m, rfl⟩
              have h := Box.drewN h m
              have hB := hB.trans (Bes.of_bel ((Bel.refl W21).drewN m))
              generalize World.drewN W21 m = W22 at h hB ⊢
              go_wp2_with fail
              refine (to_any g s low ⟨#[62]⟩ k 0 _ h hl (by omega) hs (by decide) (by decide) (by decide) (Len.bes hL h0 hB)).mono ?_
              rintro e W9 ⟨rfl, ⟨k', hk', h9, hd⟩, hB9⟩
              go_wp2_with fail
              go_ret
              exact ⟨rfl, ⟨k', hk', h9, by rw [hd, ← HE.out]; first | rfl | (rw [List.drop_drop]; rfl)⟩, hB.trans hB9⟩
            | false =>
              rw [if_neg (by decide)] at hst
              injection hst with e1 e2
              subst e1
              have HE := Lib.hid e2
              clear e2 hroom1 hroom2 ho
              go_enter Tryz.func142, Tryz.ntmps142
              go_wp2_with fail
              refine (NM.out _ h).mono ?_
              rintro e W1 ⟨rfl, b1⟩
              have h := Box.bel h b1
              have hB : Bes g w W1 := Bes.of_bel b1
              clear b1
              go_wp2_with fail
              refine (G1.out _ h).mono ?_
              rintro e W2 ⟨rfl, m, rfl⟩
              have h := Box.drewN h m
              have hB := hB.trans (Bes.of_bel ((Bel.refl W1).drewN m))
              generalize World.drewN W1 m = W2 at h hB ⊢
              go_wp2_with fail
              refine (G2.out _ h).mono ?_
              rintro e W3 ⟨rfl, m, rfl⟩
              have h := Box.drewN h m
              have hB := hB.trans (Bes.of_bel ((Bel.refl W2).drewN m))
              generalize World.drewN W2 m = W3 at h hB ⊢
              go_wp2_with fail
              refine (G3.out _ h).mono ?_
              rintro e W20 ⟨rfl, m, rfl⟩
              have h := Box.drewN h m
              have hB := hB.trans (Bes.of_bel ((Bel.refl W3).drewN m))
              generalize World.drewN W3 m = W20 at h hB ⊢
              go_wp2_with fail
              refine (G4.out _ h).mono ?_
              rintro e W21 ⟨rfl, m, rfl⟩
              have h := Box.drewN h m
              have hB := hB.trans (Bes.of_bel ((Bel.refl W20).drewN m))
              generalize World.drewN W20 m = W21 at h hB ⊢
              go_wp2_with fail
              refine (G6.out _ h).mono ?_
              rintro e W22 ⟨rfl, m, rfl⟩
              have h := Box.drewN h m
              have hB := hB.trans (Bes.of_bel ((Bel.refl W21).drewN m))
              generalize World.drewN W21 m = W22 at h hB ⊢
              have c2 := Box.cell h 2 _ rfl
              have f2 := Box.frozen h 2
              go_wp2_with fail
              go_ret
              exact ⟨rfl, ⟨k + 1, by omega, by rw [show (k : Int) + 1 = ((k + 1 : Nat) : Int) by omega]; exact Lk.move h (k + 1), by rw [← HE.out, List.drop_drop]⟩, hB.setCell 2 _⟩
    | true =>
      cases hw : M.white c5 with
      | true =>
        rw [if_pos ⟨rfl, by rw [hw]; rfl⟩] at hst
        have HW := Lib.hid hw
        clear hw
        have hr5 := hroom2 rfl (by decide)
        obtain ⟨xs, r, hn⟩ : ∃ xs r, M.attrsA ((s.data.toList.drop k).drop 5) = (xs, r) := ⟨_, _, rfl⟩
        rw [hn] at hst
        rw [List.drop_drop] at hn
        have hshort : ShortV xs := fun q hq => by have h9 := M.attrsA_val _ (s.data.toList.drop (k + 5)) (Nat.le_refl _) q (by rw [hn]; exact hq); rw [List.length_drop, ← Lib.size_eq] at h9; omega
        have T := fun W hW => tag_any g s low k (k + 5) W hW (by omega) hs xs r hn
        rw [show ((k + 5 : Nat) : Int) = (k : Int) + 5 by omega] at T
        have TG := Lib.hid T
        clear T hn
        injection hst with e1 e2
        subst e1
        have HE := Lib.hid e2
        clear e2 hroom1 hroom2 ho
        go_enter Tryz.func142, Tryz.ntmps142
        go_wp2_with fail
        refine (NM.out _ h).mono ?_
        rintro e W1 ⟨rfl, b1⟩
        have h := Box.bel h b1
        have hB : Bes g w W1 := Bes.of_bel b1
        clear b1
        go_wp2_with fail
        refine (G1.out _ h).mono ?_
        rintro e W2 ⟨rfl, m, rfl⟩
        have h := Box.drewN h m
        have hB := hB.trans (Bes.of_bel ((Bel.refl W1).drewN m))
        generalize World.drewN W1 m = W2 at h hB ⊢
        go_wp2_with fail
        refine (G2.out _ h).mono ?_
        rintro e W3 ⟨rfl, m, rfl⟩
        have h := Box.drewN h m
        have hB := hB.trans (Bes.of_bel ((Bel.refl W2).drewN m))
        generalize World.drewN W2 m = W3 at h hB ⊢
        go_wp2_with fail
        refine (G5.out _ h).mono ?_
        rintro e W4 ⟨rfl, m, rfl⟩
        have h := Box.drewN h m
        have hB := hB.trans (Bes.of_bel ((Bel.refl W3).drewN m))
        generalize World.drewN W3 m = W4 at h hB ⊢
        have c2 := Box.cell h 2 _ rfl
        go_wp2_with fail
        refine (white_to c5 _ HW.out _).mono ?_
        rintro e W' ⟨rfl, hW'⟩
        have hW' := hW'.symm
        subst hW'
        go_wp2_with fail
        refine (TG.out _ h).mono ?_
        rintro e W9 ⟨v, rfl, hsl, ⟨k', hk', h9, hd⟩, hB9⟩
        have hB9 := hB.trans hB9
        have hL9 := Len.bes hL h0 hB9
        go_wp2_with fail
        refine (metaS_any v xs W9 hsl hshort hL9).mono ?_
        rintro e W10 ⟨rfl, b10⟩
        go_wp2_with fail
        go_ret
        exact ⟨rfl, ⟨k', hk', Lk.bel h9 b10, hd.trans HE.out⟩, hB9.trans (Bes.of_bel b10)⟩
      | false =>
        have HW := Lib.hid hw
        cases h47 : ((c5.toNat : Int) == 47) with
        | true =>
          rw [if_pos ⟨rfl, by rw [hw, h47]; rfl⟩] at hst
          clear hw
          have hr5 := hroom2 rfl (by decide)
          obtain ⟨xs, r, hn⟩ : ∃ xs r, M.attrsA ((s.data.toList.drop k).drop 5) = (xs, r) := ⟨_, _, rfl⟩
          rw [hn] at hst
          rw [List.drop_drop] at hn
          have hshort : ShortV xs := fun q hq => by have h9 := M.attrsA_val _ (s.data.toList.drop (k + 5)) (Nat.le_refl _) q (by rw [hn]; exact hq); rw [List.length_drop, ← Lib.size_eq] at h9; omega
          have T := fun W hW => tag_any g s low k (k + 5) W hW (by omega) hs xs r hn
          rw [show ((k + 5 : Nat) : Int) = (k : Int) + 5 by omega] at T
          have TG := Lib.hid T
          clear T hn
          injection hst with e1 e2
          subst e1
          have HE := Lib.hid e2
          clear e2 hroom1 hroom2 ho
          go_enter Tryz.func142, Tryz.ntmps142
          go_wp2_with fail
          refine (NM.out _ h).mono ?_
          rintro e W1 ⟨rfl, b1⟩
          have h := Box.bel h b1
          have hB : Bes g w W1 := Bes.of_bel b1
          clear b1
          go_wp2_with fail
          refine (G1.out _ h).mono ?_
          rintro e W2 ⟨rfl, m, rfl⟩
          have h := Box.drewN h m
          have hB := hB.trans (Bes.of_bel ((Bel.refl W1).drewN m))
          generalize World.drewN W1 m = W2 at h hB ⊢
          go_wp2_with fail
          refine (G2.out _ h).mono ?_
          rintro e W3 ⟨rfl, m, rfl⟩
          have h := Box.drewN h m
          have hB := hB.trans (Bes.of_bel ((Bel.refl W2).drewN m))
          generalize World.drewN W2 m = W3 at h hB ⊢
          go_wp2_with fail
          refine (G5.out _ h).mono ?_
          rintro e W4 ⟨rfl, m, rfl⟩
          have h := Box.drewN h m
          have hB := hB.trans (Bes.of_bel ((Bel.refl W3).drewN m))
          generalize World.drewN W3 m = W4 at h hB ⊢
          go_wp2_with fail
          refine (white_to c5 _ HW.out _).mono ?_
          rintro e W' ⟨rfl, hW'⟩
          have hW' := hW'.symm
          subst hW'
          go_wp2_with fail
          refine (G5.out _ h).mono ?_
          rintro e W5 ⟨rfl, m, rfl⟩
          have h := Box.drewN h m
          have hB := hB.trans (Bes.of_bel ((Bel.refl W4).drewN m))
          generalize World.drewN W4 m = W5 at h hB ⊢
          have c2 := Box.cell h 2 _ rfl
          go_wp2_with fail
          refine (TG.out _ h).mono ?_
          rintro e W9 ⟨v, rfl, hsl, ⟨k', hk', h9, hd⟩, hB9⟩
          have hB9 := hB.trans hB9
          have hL9 := Len.bes hL h0 hB9
          go_wp2_with fail
          refine (metaS_any v xs W9 hsl hshort hL9).mono ?_
          rintro e W10 ⟨rfl, b10⟩
          go_wp2_with fail
          go_ret
          exact ⟨rfl, ⟨k', hk', Lk.bel h9 b10, hd.trans HE.out⟩, hB9.trans (Bes.of_bel b10)⟩
        | false =>
          rw [if_neg (by rintro ⟨_, h9⟩; rw [hw, h47] at h9; cases h9)] at hst
          clear hw
          cases o with
          | some en =>
            have hsuf := M.nameEnd_suf _ _ ho
            have hd0 := M.Suf.at (M.Suf.trans (a := en) hsuf (M.Suf.drop s.data.toList k))
            rw [← Lib.size_eq] at hd0
            obtain ⟨xs, r, hn⟩ : ∃ xs r, M.attrsA en = (xs, r) := ⟨_, _, rfl⟩
            have hst : ((0 : Int), (M.attrsA en).2.drop 1) = (n, t) := hst
            rw [hn] at hst
            rw [hd0] at hn
            have T := fun W hW => tag_any g s low k (s.size - en.length) W hW (by omega) hs xs r hn
            rw [show ((s.size - en.length : Nat) : Int) = endOf s (some en) from rfl] at T
            have TG := Lib.hid T
            clear T hn hd0 hsuf
            injection hst with e1 e2
            subst e1
            have HE := Lib.hid e2
            clear e2 hroom1 hroom2 ho
            have ho9 : (some en).isSome = true := rfl
            go_enter Tryz.func142, Tryz.ntmps142
            go_wp2_with fail
            refine (NM.out _ h).mono ?_
            rintro e W1 ⟨rfl, b1⟩
            have h := Box.bel h b1
            have hB : Bes g w W1 := Bes.of_bel b1
            clear b1
            go_wp2_with fail
            refine (G1.out _ h).mono ?_
            rintro e W2 ⟨rfl, m, rfl⟩
            have h := Box.drewN h m
            have hB := hB.trans (Bes.of_bel ((Bel.refl W1).drewN m))
            generalize World.drewN W1 m = W2 at h hB ⊢
            go_wp2_with fail
            refine (G2.out _ h).mono ?_
            rintro e W3 ⟨rfl, m, rfl⟩
            have h := Box.drewN h m
            have hB := hB.trans (Bes.of_bel ((Bel.refl W2).drewN m))
            generalize World.drewN W2 m = W3 at h hB ⊢
            go_wp2_with fail
            refine (G5.out _ h).mono ?_
            rintro e W4 ⟨rfl, m, rfl⟩
            have h := Box.drewN h m
            have hB := hB.trans (Bes.of_bel ((Bel.refl W3).drewN m))
            generalize World.drewN W3 m = W4 at h hB ⊢
            go_wp2_with fail
            refine (white_to c5 _ HW.out _).mono ?_
            rintro e W' ⟨rfl, hW'⟩
            have hW' := hW'.symm
            subst hW'
            go_wp2_with fail
            refine (G5.out _ h).mono ?_
            rintro e W5 ⟨rfl, m, rfl⟩
            have h := Box.drewN h m
            have hB := hB.trans (Bes.of_bel ((Bel.refl W4).drewN m))
            generalize World.drewN W4 m = W5 at h hB ⊢
            have c2 := Box.cell h 2 _ rfl
            go_wp2_with fail
            refine (TG.out _ h).mono ?_
            rintro e W9 ⟨v, rfl, hsl, ⟨k', hk', h9, hd⟩, hB9⟩
            go_wp2_with fail
            go_ret
            exact ⟨rfl, ⟨k', hk', h9, hd.trans HE.out⟩, hB.trans hB9⟩
          | none =>
            have ho9 : (none : Option (List UInt8)).isSome = false := rfl
            have hst : (if b3 = true ∨ b4 = true ∨ b6 = true then ((0 : Int), M.behindF [62] (s.data.toList.drop k)) else (0, (s.data.toList.drop k).drop 1)) = (n, t) := hst
            cases b3 with
            | true =>
              rw [if_pos (.inl rfl)] at hst
              injection hst with e1 e2
              subst e1
              have HE := Lib.hid e2
              clear e2 hroom1 hroom2 ho
              go_enter Tryz.func142, Tryz.ntmps142
              go_wp2_with fail
              refine (NM.out _ h).mono ?_
              rintro e W1 ⟨rfl, b1⟩
              have h := Box.bel h b1
              have hB : Bes g w W1 := Bes.of_bel b1
              clear b1
              go_wp2_with fail
              refine (G1.out _ h).mono ?_
              rintro e W2 ⟨rfl, m, rfl⟩
              have h := Box.drewN h m
              have hB := hB.trans (Bes.of_bel ((Bel.refl W1).drewN m))
              generalize World.drewN W1 m = W2 at h hB ⊢
              go_wp2_with fail
              refine (G2.out _ h).mono ?_
              rintro e W3 ⟨rfl, m, rfl⟩
              have h := Box.drewN h m
              have hB := hB.trans (Bes.of_bel ((Bel.refl W2).drewN m))
              generalize World.drewN W2 m = W3 at h hB ⊢
              go_wp2_with fail
              refine (G5.out _ h).mono ?_
              rintro e W4 ⟨rfl, m, rfl⟩
              have h := Box.drewN h m
              have hB := hB.trans (Bes.of_bel ((Bel.refl W3).drewN m))
              generalize World.drewN W3 m = W4 at h hB ⊢
              go_wp2_with fail
              refine (white_to c5 _ HW.out _).mono ?_
              rintro e W' ⟨rfl, hW'⟩
              have hW' := hW'.symm
              subst hW'
              go_wp2_with fail
              refine (G5.out _ h).mono ?_
              rintro e W5 ⟨rfl, m, rfl⟩
              have h := Box.drewN h m
              have hB := hB.trans (Bes.of_bel ((Bel.refl W4).drewN m))
              generalize World.drewN W4 m = W5 at h hB ⊢
              have c2 := Box.cell h 2 _ rfl
              go_wp2_with fail
              refine (G3.out _ h).mono ?_
              rintro e W20 ⟨rfl, m, rfl⟩
              have h := Box.drewN h m
              have hB := hB.trans (Bes.of_bel ((Bel.refl W5).drewN m))
              generalize World.drewN W5 m = W20 at h hB ⊢
              go_wp2_with fail
              refine (to_any g s low ⟨#[62]⟩ k 0 _ h hl (by omega) hs (by decide) (by decide) (by decide) (Len.bes hL h0 hB)).mono ?_
              rintro e W9 ⟨rfl, ⟨k', hk', h9, hd⟩, hB9⟩
              go_wp2_with fail
              go_ret
              exact ⟨rfl, ⟨k', hk', h9, by rw [hd, ← HE.out]; first | rfl | (rw [List.drop_drop]; rfl)⟩, hB.trans hB9⟩
            | false =>
              cases b4 with
              | true =>
                rw [if_pos (.inr (.inl rfl))] at hst
                injection hst with e1 e2
                subst e1
                have HE := Lib.hid e2
                clear e2 hroom1 hroom2 ho
                go_enter Tryz.func142, Tryz.ntmps142
                go_wp2_with fail
                refine (NM.out _ h).mono ?_
                rintro e W1 ⟨rfl, b1⟩
                have h := Box.bel h b1
                have hB : Bes g w W1 := Bes.of_bel b1
                clear b1
                go_wp2_with fail
                refine (G1.out _ h).mono ?_
                rintro e W2 ⟨rfl, m, rfl⟩
                have h := Box.drewN h m
                have hB := hB.trans (Bes.of_bel ((Bel.refl W1).drewN m))
                generalize World.drewN W1 m = W2 at h hB ⊢
                go_wp2_with fail
                refine (G2.out _ h).mono ?_
                rintro e W3 ⟨rfl, m, rfl⟩
                have h := Box.drewN h m
                have hB := hB.trans (Bes.of_bel ((Bel.refl W2).drewN m))
                generalize World.drewN W2 m = W3 at h hB ⊢
                go_wp2_with fail
                refine (G5.out _ h).mono ?_
                rintro e W4 ⟨rfl, m, rfl⟩
                have h := Box.drewN h m
                have hB := hB.trans (Bes.of_bel ((Bel.refl W3).drewN m))
                generalize World.drewN W3 m = W4 at h hB ⊢
                go_wp2_with fail
                refine (white_to c5 _ HW.out _).mono ?_
                rintro e W' ⟨rfl, hW'⟩
                have hW' := hW'.symm
                subst hW'
                go_wp2_with fail
                refine (G5.out _ h).mono ?_
                rintro e W5 ⟨rfl, m, rfl⟩
                have h := Box.drewN h m
                have hB := hB.trans (Bes.of_bel ((Bel.refl W4).drewN m))
                generalize World.drewN W4 m = W5 at h hB ⊢
                have c2 := Box.cell h 2 _ rfl
                go_wp2_with fail
                refine (G3.out _ h).mono ?_
                rintro e W20 ⟨rfl, m, rfl⟩
                have h := Box.drewN h m
                have hB := hB.trans (Bes.of_bel ((Bel.refl W5).drewN m))
                generalize World.drewN W5 m = W20 at h hB ⊢
                go_wp2_with fail
                refine (G4.out _ h).mono ?_
                rintro e W21 ⟨rfl, m, rfl⟩
                have h := Box.drewN h m
                have hB := hB.trans (Bes.of_bel ((Bel.refl W20).drewN m))
                generalize World.drewN W20 m = W21 at h hB ⊢
                go_wp2_with fail
                refine (to_any g s low ⟨#[62]⟩ k 0 _ h hl (by omega) hs (by decide) (by decide) (by decide) (Len.bes hL h0 hB)).mono ?_
                rintro e W9 ⟨rfl, ⟨k', hk', h9, hd⟩, hB9⟩
                go_wp2_with fail
                go_ret
                exact ⟨rfl, ⟨k', hk', h9, by rw [hd, ← HE.out]; first | rfl | (rw [List.drop_drop]; rfl)⟩, hB.trans hB9⟩
              | false =>
                cases b6 with
                | true =>
                  rw [if_pos (.inr (.inr rfl))] at hst
                  injection hst with e1 e2
                  subst e1
                  have HE := Lib.hid e2
                  clear e2 hroom1 hroom2 ho
                  go_enter Tryz.func142, Tryz.ntmps142
                  go_wp2_with fail
                  refine (NM.out _ h).mono ?_
                  rintro e W1 ⟨rfl, b1⟩
                  have h := Box.bel h b1
                  have hB : Bes g w W1 := Bes.of_bel b1
                  clear b1
                  go_wp2_with fail
                  refine (G1.out _ h).mono ?_
                  rintro e W2 ⟨rfl, m, rfl⟩
                  have h := Box.drewN h m
                  have hB := hB.trans (Bes.of_bel ((Bel.refl W1).drewN m))
                  generalize World.drewN W1 m = W2 at h hB ⊢
                  go_wp2_with fail
                  refine (G2.out _ h).mono ?_
                  rintro e W3 ⟨rfl, m, rfl⟩
                  have h := Box.drewN h m
                  have hB := hB.trans (Bes.of_bel ((Bel.refl W2).drewN m))
                  generalize World.drewN W2 m = W3 at h hB ⊢
                  go_wp2_with fail
                  refine (G5.out _ h).mono ?_
                  rintro e W4 ⟨rfl, m, rfl⟩
                  have h := Box.drewN h m
                  have hB := hB.trans (Bes.of_bel ((Bel.refl W3).drewN m))
                  generalize World.drewN W3 m = W4 at h hB ⊢
                  go_wp2_with fail
                  refine (white_to c5 _ HW.out _).mono ?_
                  rintro e W' ⟨rfl, hW'⟩
                  have hW' := hW'.symm
                  subst hW'
                  go_wp2_with fail
                  refine (G5.out _ h).mono ?_
                  rintro e W5 ⟨rfl, m, rfl⟩
                  have h := Box.drewN h m
                  have hB := hB.trans (Bes.of_bel ((Bel.refl W4).drewN m))
                  generalize World.drewN W4 m = W5 at h hB ⊢
                  have c2 := Box.cell h 2 _ rfl
                  go_wp2_with fail
                  refine (G3.out _ h).mono ?_
                  rintro e W20 ⟨rfl, m, rfl⟩
                  have h := Box.drewN h m
                  have hB := hB.trans (Bes.of_bel ((Bel.refl W5).drewN m))
                  generalize World.drewN W5 m = W20 at h hB ⊢
                  go_wp2_with fail
                  refine (G4.out _ h).mono ?_
                  rintro e W21 ⟨rfl, m, rfl⟩
                  have h := Box.drewN h m
                  have hB := hB.trans (Bes.of_bel ((Bel.refl W20).drewN m))
                  generalize World.drewN W20 m = W21 at h hB ⊢
                  go_wp2_with fail
                  refine (G6.out _ h).mono ?_
                  rintro e W22 ⟨rfl, m, rfl⟩
                  have h := Box.drewN h m
                  have hB := hB.trans (Bes.of_bel ((Bel.refl W21).drewN m))
                  generalize World.drewN W21 m = W22 at h hB ⊢
                  go_wp2_with fail
                  refine (to_any g s low ⟨#[62]⟩ k 0 _ h hl (by omega) hs (by decide) (by decide) (by decide) (Len.bes hL h0 hB)).mono ?_
                  rintro e W9 ⟨rfl, ⟨k', hk', h9, hd⟩, hB9⟩
                  go_wp2_with fail
                  go_ret
                  exact ⟨rfl, ⟨k', hk', h9, by rw [hd, ← HE.out]; first | rfl | (rw [List.drop_drop]; rfl)⟩, hB.trans hB9⟩
                | false =>
                  rw [if_neg (by decide)] at hst
                  injection hst with e1 e2
                  subst e1
                  have HE := Lib.hid e2
                  clear e2 hroom1 hroom2 ho
                  go_enter Tryz.func142, Tryz.ntmps142
                  go_wp2_with fail
                  refine (NM.out _ h).mono ?_
                  rintro e W1 ⟨rfl, b1⟩
                  have h := Box.bel h b1
                  have hB : Bes g w W1 := Bes.of_bel b1
                  clear b1
                  go_wp2_with fail
                  refine (G1.out _ h).mono ?_
                  rintro e W2 ⟨rfl, m, rfl⟩
                  have h := Box.drewN h m
                  have hB := hB.trans (Bes.of_bel ((Bel.refl W1).drewN m))
                  generalize World.drewN W1 m = W2 at h hB ⊢
                  go_wp2_with fail
                  refine (G2.out _ h).mono ?_
                  rintro e W3 ⟨rfl, m, rfl⟩
                  have h := Box.drewN h m
                  have hB := hB.trans (Bes.of_bel ((Bel.refl W2).drewN m))
                  generalize World.drewN W2 m = W3 at h hB ⊢
                  go_wp2_with fail
                  refine (G5.out _ h).mono ?_
                  rintro e W4 ⟨rfl, m, rfl⟩
                  have h := Box.drewN h m
                  have hB := hB.trans (Bes.of_bel ((Bel.refl W3).drewN m))
                  generalize World.drewN W3 m = W4 at h hB ⊢
                  go_wp2_with fail
                  refine (white_to c5 _ HW.out _).mono ?_
                  rintro e W' ⟨rfl, hW'⟩
                  have hW' := hW'.symm
                  subst hW'
                  go_wp2_with fail
                  refine (G5.out _ h).mono ?_
                  rintro e W5 ⟨rfl, m, rfl⟩
                  have h := Box.drewN h m
                  have hB := hB.trans (Bes.of_bel ((Bel.refl W4).drewN m))
                  generalize World.drewN W4 m = W5 at h hB ⊢
                  have c2 := Box.cell h 2 _ rfl
                  go_wp2_with fail
                  refine (G3.out _ h).mono ?_
                  rintro e W20 ⟨rfl, m, rfl⟩
                  have h := Box.drewN h m
                  have hB := hB.trans (Bes.of_bel ((Bel.refl W5).drewN m))
                  generalize World.drewN W5 m = W20 at h hB ⊢
                  go_wp2_with fail
                  refine (G4.out _ h).mono ?_
                  rintro e W21 ⟨rfl, m, rfl⟩
                  have h := Box.drewN h m
                  have hB := hB.trans (Bes.of_bel ((Bel.refl W20).drewN m))
                  generalize World.drewN W20 m = W21 at h hB ⊢
                  go_wp2_with fail
                  refine (G6.out _ h).mono ?_
                  rintro e W22 ⟨rfl, m, rfl⟩
                  have h := Box.drewN h m
                  have hB := hB.trans (Bes.of_bel ((Bel.refl W21).drewN m))
                  generalize World.drewN W21 m = W22 at h hB ⊢
                  have c2 := Box.cell h 2 _ rfl
                  have f2 := Box.frozen h 2
                  go_wp2_with fail
                  go_ret
                  exact ⟨rfl, ⟨k + 1, by omega, by rw [show (k : Int) + 1 = ((k + 1 : Nat) : Int) by omega]; exact Lk.move h (k + 1), by rw [← HE.out, List.drop_drop]⟩, hB.setCell 2 _⟩
end Go.Proofs.YteingkjdemlhgaaGreatDoor

/-
  Package scan: Of, Scan.
-/
namespace Go.Proofs.YteingkjdemlhgaaGreatDoor
open Go.RowKit
set_option maxRecDepth 1000000
set_option maxHeartbeats 4000000
theorem scanOf_any (s : ByteArray) (hs : s.size ≤ 9000) (w : World) (hL : Len w) : Calls Tryz.prog 103 #[.string s] w fun e w' => e = .returned (.int .i64 (M.scanA s.data.toList)) ∧ Bel w w' := by
  obtain ⟨mn, hmn⟩ : ∃ mn : Nat, mn = min s.size 256 := ⟨_, rfl⟩
  have hmi : min (s.size : Int) 256 = (mn : Int) := by omega
  have hms : mn ≤ s.size := by omega
  have hbd : (0 : Int) ≤ (mn : Int) ∧ (mn : Int) ≤ (s.size : Int) := by omega
  obtain ⟨u, hu⟩ : ∃ u : ByteArray, s.extract 0 mn = u := ⟨_, rfl⟩
  have hul : u.data.toList = s.data.toList.take 256 := by
    rw [← hu, Lib.extract_data, List.drop_zero, Nat.sub_zero, hmn, Lib.size_eq]
    by_cases h9 : s.data.toList.length ≤ 256
    · rw [Nat.min_eq_left h9, List.take_length, List.take_of_length_le h9]
    · rw [Nat.min_eq_right (by omega)]
  have hus : u.size ≤ 256 := by rw [Lib.size_eq, hul, List.length_take]; omega
  have HA := Lib.hid (show M.scanA s.data.toList = M.scan0 u.data.toList by rw [M.scanA, hul])
  clear hul hmn
  go_enter Tryz.func103, Tryz.ntmps103
  go_wp2_with fail
  clear hu hmi hbd
  refine (folded_any u w (by omega)).mono ?_
  rintro e W0 ⟨rfl, b0⟩
  obtain ⟨low, hlow⟩ : ∃ low : ByteArray, low = ⟨(M.fold u.data.toList).toArray⟩ := ⟨_, rfl⟩
  have hl : Low u low := by rw [hlow, Low]
  rw [← hlow]
  clear hlow
  go_wp2_with fail
  have hr1 : Lk (W0.alloc (.cells #[.string u, .string low, .int .i64 0] 171)) W0.heap.size u low 0 := Box.new W0 171 [.string u, .string low, .int .i64 0]
  have hb2 := b0.alloc (.cells #[.string u, .string low, .int .i64 0] 171)
  have hgs := b0.size
  generalize (W0.alloc (.cells #[.string u, .string low, .int .i64 0] 171)) = W1 at *
  generalize W0.heap.size = g at *
  go_loopg [4] (u.size + 1) (fun gg _ wr => ∃ (j : Nat), j ≤ u.size ∧ u.size - j ≤ gg ∧ Lk wr g u low j ∧ Bel w wr ∧ Hid (M.scanA s.data.toList = M.scan0 (u.data.toList.drop j)))
  case atStart => exact ⟨0, by omega, by omega, hr1, hb2, HA⟩
  case round =>
    clear hr1 hb2
    obtain ⟨j, hj, hg, hr, hb, HJ⟩ := hrel
    have c2 := Box.cell hr 2 _ rfl
    by_cases hlt : j < u.size
    · obtain ⟨n, t, hst⟩ : ∃ n t, M.stepS (u.data.toList.drop j) = (n, t) := ⟨_, _, rfl⟩
      have st := step_any g u low j wr hr hl hj hlt (by omega) (hL.bel hb) n t hst
      obtain ⟨c, l, hcl⟩ : ∃ c l, u.data.toList.drop j = c :: l := by
        cases hd : u.data.toList.drop j with
        | nil =>
          have := congrArg List.length hd
          rw [List.length_drop, ← Lib.size_eq, List.length_nil] at this
          omega
        | cons c l => exact ⟨c, l, rfl⟩
      have hless := M.stepS_less c l
      rw [← hcl, hst, List.length_drop, ← Lib.size_eq] at hless
      have hless : t.length < u.size - j := hless
      have hsc := M.scan0_cons c l
      rw [← hcl, hst] at hsc
      have hs2 : M.scan0 (u.data.toList.drop j) = if n = 0 then M.scan0 t else n := hsc
      clear hst hcl hsc
      by_cases hn : n = 0
      · rw [if_pos hn] at hs2
        subst hn
        have HR := Lib.hid (HJ.out.trans hs2)
        clear hs2 HJ
        go_wp2_with fail
        refine st.mono ?_
        rintro e W2 ⟨rfl, ⟨k', hk', hr2, hd⟩, hB⟩
        have hlen := congrArg List.length hd
        rw [List.length_drop, ← Lib.size_eq] at hlen
        have HD := Lib.hid hd
        clear hd
        go_wp2_with fail
        go_roundg (u.size - k')
        case measure => omega
        case rel => exact ⟨k', hk', Nat.le_refl _, hr2, hB.bel hb hgs, Lib.hid (by rw [HR.out, HD.out])⟩
      · rw [if_neg hn] at hs2
        have HR := Lib.hid (HJ.out.trans hs2)
        have hn9 : (n == 0) = false := by simp [hn]
        clear hs2 HJ hn
        go_wp2_with fail
        refine st.mono ?_
        rintro e W2 ⟨rfl, ⟨k', hk', hr2, hd⟩, hB⟩
        clear hd
        go_wp2_with fail
        go_ret
        exact ⟨by rw [HR.out]; rfl, hB.bel hb hgs⟩
    · obtain rfl : j = u.size := by omega
      have HR := Lib.hid (show M.scanA s.data.toList = 0 by rw [HJ.out, List.drop_eq_nil_of_le (by rw [← Lib.size_eq]; exact Nat.le_refl _)]; rfl)
      go_wp2_with fail
      go_ret
      exact ⟨by rw [HR.out]; rfl, hb⟩
end Go.Proofs.YteingkjdemlhgaaGreatDoor

/-
  Package mark: what Sniff, May, Ahead and Put compute.
-/
namespace Go.Proofs.YteingkjdemlhgaaGreatDoor
open Go.RowKit
theorem litePrefix (s p : ByteArray) (w : World) : Calls Tryz.prog 100 #[.string s, .string p] w fun e w' => e = .returned (.bool (Lib.hasPrefix s.data.toList p.data.toList)) ∧ w = w' := by
  have H := Lib.hid (Lib.hasPrefix_raw s p)
  by_cases h : p.size ≤ s.size
  · go_enter Tryz.func100, Tryz.ntmps100
    go_wp2
    go_ret
    refine ⟨?_, rfl⟩
    rw [← H.out]; simp [h]
  · go_enter Tryz.func100, Tryz.ntmps100
    go_wp2
    go_ret
    refine ⟨?_, rfl⟩
    rw [← H.out]; simp [h]
theorem hasPrefix_any (s p : ByteArray) (w : World) : Calls Tryz.prog 69 #[.string s, .string p] w fun e w' => e = .returned (.bool (Lib.hasPrefix s.data.toList p.data.toList)) ∧ w = w' := by
  go_enter Tryz.func69, Tryz.ntmps69
  go_wp2_with (go_at_call 100; refine (litePrefix _ _ _).mono ?_; rintro e w' ⟨rfl, rfl⟩)
  go_ret
  exact ⟨rfl, rfl⟩
theorem marks_any (w : World) : Calls Tryz.prog 68 #[] w fun e w' => e = .returned (.slice (some ⟨w.heap.size, 0, none⟩) 3 3) ∧ w.alloc (.cells #[.int .i64 1, .string ⟨#[239, 187, 191]⟩, .int .i64 3, .string ⟨#[254, 255]⟩, .int .i64 2, .string ⟨#[255, 254]⟩] 108) = w' := by
  go_enter Tryz.func68, Tryz.ntmps68
  go_wp2
  go_ret
  exact ⟨rfl, rfl⟩
theorem sniff_any (s : ByteArray) (w : World) : Calls Tryz.prog 36 #[.string s] w fun e w' => e = .returned (.tuple #[.int .i64 (M.sniff s.data.toList).1, .int .i64 (M.sniff s.data.toList).2]) ∧ Bel w w' := by
  go_enter Tryz.func36, Tryz.ntmps36
  go_wp2_with (first | (go_at_call 68; refine (marks_any _).mono ?_; rintro e w' ⟨rfl, rfl⟩) | (go_at_call 69; refine (hasPrefix_any _ _ _).mono ?_; rintro e w' ⟨rfl, rfl⟩))
  refine wp_loop_rounds 4 ?_
  rw [rounds_succ]
  go_wp2_with (first | (go_at_call 68; refine (marks_any _).mono ?_; rintro e w' ⟨rfl, rfl⟩) | (go_at_call 69; refine (hasPrefix_any _ _ _).mono ?_; rintro e w' ⟨rfl, rfl⟩))
  all_goals try (rw [rounds_succ]; go_wp2_with (first | (go_at_call 68; refine (marks_any _).mono ?_; rintro e w' ⟨rfl, rfl⟩) | (go_at_call 69; refine (hasPrefix_any _ _ _).mono ?_; rintro e w' ⟨rfl, rfl⟩)))
  all_goals try (rw [rounds_succ]; go_wp2_with (first | (go_at_call 68; refine (marks_any _).mono ?_; rintro e w' ⟨rfl, rfl⟩) | (go_at_call 69; refine (hasPrefix_any _ _ _).mono ?_; rintro e w' ⟨rfl, rfl⟩)))
  all_goals try (rw [rounds_succ]; go_wp2_with (first | (go_at_call 68; refine (marks_any _).mono ?_; rintro e w' ⟨rfl, rfl⟩) | (go_at_call 69; refine (hasPrefix_any _ _ _).mono ?_; rintro e w' ⟨rfl, rfl⟩)))
  all_goals try (go_quiet (fail); go_wp2)
  all_goals go_ret2
  all_goals refine ⟨?_, (by repeat (first | exact Bel.refl _ | refine Bel.drewN ?_ _ | refine Bel.drew ?_ | refine Bel.alloc ?_ _ | refine Bel.trans ?_ (by assumption) | refine Bel.setCell ?_ (by simp; omega) _))⟩
  all_goals simp [M.sniff, *]
theorem ahead_any (n : Int) (w : World) : Calls Tryz.prog 64 #[.int .i64 n] w fun e w' => e = .returned (.string ⟨(M.markOf n).toArray⟩) ∧ Bel w w' := by
  go_enter Tryz.func64, Tryz.ntmps64
  go_wp2_with (first | (go_at_call 68; refine (marks_any _).mono ?_; rintro e w' ⟨rfl, rfl⟩) | (go_at_call 69; refine (hasPrefix_any _ _ _).mono ?_; rintro e w' ⟨rfl, rfl⟩))
  refine wp_loop_rounds 4 ?_
  rw [rounds_succ]
  go_wp2_with (first | (go_at_call 68; refine (marks_any _).mono ?_; rintro e w' ⟨rfl, rfl⟩) | (go_at_call 69; refine (hasPrefix_any _ _ _).mono ?_; rintro e w' ⟨rfl, rfl⟩))
  all_goals try (rw [rounds_succ]; go_wp2_with (first | (go_at_call 68; refine (marks_any _).mono ?_; rintro e w' ⟨rfl, rfl⟩) | (go_at_call 69; refine (hasPrefix_any _ _ _).mono ?_; rintro e w' ⟨rfl, rfl⟩)))
  all_goals try (rw [rounds_succ]; go_wp2_with (first | (go_at_call 68; refine (marks_any _).mono ?_; rintro e w' ⟨rfl, rfl⟩) | (go_at_call 69; refine (hasPrefix_any _ _ _).mono ?_; rintro e w' ⟨rfl, rfl⟩)))
  all_goals try (rw [rounds_succ]; go_wp2_with (first | (go_at_call 68; refine (marks_any _).mono ?_; rintro e w' ⟨rfl, rfl⟩) | (go_at_call 69; refine (hasPrefix_any _ _ _).mono ?_; rintro e w' ⟨rfl, rfl⟩)))
  all_goals go_ret
  all_goals refine ⟨?_, (by repeat (first | exact Bel.refl _ | refine Bel.drewN ?_ _ | refine Bel.drew ?_ | refine Bel.alloc ?_ _ | refine Bel.trans ?_ (by assumption) | refine Bel.setCell ?_ (by simp; omega) _))⟩
  all_goals simp_all [M.markOf]
end Go.Proofs.YteingkjdemlhgaaGreatDoor

/-
  Package front: chosen, Choose, Begin, enough.
-/
namespace Go.Proofs.YteingkjdemlhgaaGreatDoor
open Go.RowKit
set_option maxRecDepth 1000000
set_option maxHeartbeats 2000000
theorem sniffF_to (s : ByteArray) (n k : Int) (h : M.sniff s.data.toList = (n, k)) (w : World) : Calls Tryz.prog 36 #[.string s] w fun e w' => e = .returned (.tuple #[.int .i64 n, .int .i64 k]) ∧ Bel w w' := by
  have := sniff_any s w; rw [h] at this; exact this
theorem ofF_to (s : ByteArray) (n : Int) (h : M.find s.data.toList = n) (hs : s.size ≤ 68719476735) (w : World) : Calls Tryz.prog 102 #[.string s] w fun e w' => e = .returned (.int .i64 n) ∧ Bel w w' := by
  have := of_any s w hs; rw [h] at this; exact this
theorem scanF_to (s : ByteArray) (n : Int) (h : M.scanA s.data.toList = n) (hs : s.size ≤ 9000) (w : World) (hL : Len w) : Calls Tryz.prog 103 #[.string s] w fun e w' => e = .returned (.int .i64 n) ∧ Bel w w' := by
  have := scanOf_any s hs w hL; rw [h] at this; exact this
theorem chosen_to (nm s : ByteArray) (n y k : Int) (h : M.chosen nm.data.toList s.data.toList = (n, y, k)) (hn : nm.size ≤ 68719476735) (hs : s.size ≤ 9000) (w : World) (hL : Len w) : Calls Tryz.prog 71 #[.string nm, .string s] w fun e w' => e = .returned (.tuple #[.int .i64 n, .int .i64 y, .int .i64 k]) ∧ Bel w w' := by
  obtain ⟨a, b, hsn⟩ : ∃ a b, M.sniff s.data.toList = (a, b) := ⟨_, _, rfl⟩
  have HSN := Lib.hid hsn
  obtain ⟨f, hf⟩ : ∃ f, M.find nm.data.toList = f := ⟨_, rfl⟩
  have HF := Lib.hid hf
  obtain ⟨m, hm⟩ : ∃ m, M.scanA s.data.toList = m := ⟨_, rfl⟩
  have HM := Lib.hid hm
  rw [M.chosen, hsn, hf, hm] at h
  simp only at h
  by_cases h1 : a = 0
  · rw [if_neg (by simp [h1])] at h
    by_cases h2 : f = 0
    · rw [if_neg (by simp [h2])] at h
      by_cases h3 : m = 0
      · rw [if_neg (by simp [h3])] at h
        simp only [Prod.mk.injEq] at h
        obtain ⟨rfl, rfl, rfl⟩ := h
        subst h1; subst h2; subst h3
        clear hsn hf hm
        go_enter Tryz.func71, Tryz.ntmps71
        go_wp2_with fail
        refine (sniffF_to s _ _ HSN.out _).mono ?_
        rintro e w1 ⟨rfl, b1⟩
        go_wp2_with fail
        refine (ofF_to nm _ HF.out hn _).mono ?_
        rintro e w2 ⟨rfl, b2⟩
        have b2 := b1.trans b2
        go_wp2_with fail
        refine (scanF_to s _ HM.out hs _ (hL.bel b2)).mono ?_
        rintro e w3 ⟨rfl, b3⟩
        have b3 := b2.trans b3
        go_wp2_with fail
        refine bodyPost_ret (v := .tuple #[.int .i64 4, .int .i64 4, .int .i64 0]) (by simp [results, Tryz.results71, go_sem]) rfl ?_
        exact ⟨rfl, b3⟩
      · rw [if_pos h3] at h
        simp only [Prod.mk.injEq] at h
        obtain ⟨rfl, rfl, rfl⟩ := h
        subst h1; subst h2
        have g3 : (m != 0) = true := by simpa using h3
        clear hsn hf hm h3
        go_enter Tryz.func71, Tryz.ntmps71
        go_wp2_with fail
        refine (sniffF_to s _ _ HSN.out _).mono ?_
        rintro e w1 ⟨rfl, b1⟩
        go_wp2_with fail
        refine (ofF_to nm _ HF.out hn _).mono ?_
        rintro e w2 ⟨rfl, b2⟩
        have b2 := b1.trans b2
        go_wp2_with fail
        refine (scanF_to s _ HM.out hs _ (hL.bel b2)).mono ?_
        rintro e w3 ⟨rfl, b3⟩
        have b3 := b2.trans b3
        go_wp2_with fail
        refine bodyPost_ret (v := .tuple #[.int .i64 m, .int .i64 3, .int .i64 0]) (by simp [results, Tryz.results71, go_sem]) rfl ?_
        exact ⟨rfl, b3⟩
    · rw [if_pos h2] at h
      simp only [Prod.mk.injEq] at h
      obtain ⟨rfl, rfl, rfl⟩ := h
      subst h1
      have g2 : (f != 0) = true := by simpa using h2
      clear hsn hf hm h2
      go_enter Tryz.func71, Tryz.ntmps71
      go_wp2_with fail
      refine (sniffF_to s _ _ HSN.out _).mono ?_
      rintro e w1 ⟨rfl, b1⟩
      go_wp2_with fail
      refine (ofF_to nm _ HF.out hn _).mono ?_
      rintro e w2 ⟨rfl, b2⟩
      have b2 := b1.trans b2
      go_wp2_with fail
      refine bodyPost_ret (v := .tuple #[.int .i64 f, .int .i64 2, .int .i64 0]) (by simp [results, Tryz.results71, go_sem]) rfl ?_
      exact ⟨rfl, b2⟩
  · rw [if_pos h1] at h
    simp only [Prod.mk.injEq] at h
    obtain ⟨rfl, rfl, rfl⟩ := h
    have g1 : (a != 0) = true := by simpa using h1
    clear hsn hf hm h1
    go_enter Tryz.func71, Tryz.ntmps71
    go_wp2_with fail
    refine (sniffF_to s _ _ HSN.out _).mono ?_
    rintro e w1 ⟨rfl, b1⟩
    go_wp2_with fail
    refine bodyPost_ret (v := .tuple #[.int .i64 a, .int .i64 1, .int .i64 b]) (by simp [results, Tryz.results71, go_sem]) rfl ?_
    exact ⟨rfl, b1⟩
theorem longF_any (s : ByteArray) (w : World) : Calls Tryz.prog 38 #[.string s] w fun e w' => e = .returned (.bool (decide (3000 < s.size))) ∧ w = w' := by
  go_enter Tryz.func38, Tryz.ntmps38
  go_wp2
  all_goals go_ret
  all_goals exact ⟨by simp; omega, rfl⟩
theorem longF_to (s : ByteArray) (b : Bool) (h : decide (3000 < s.size) = b) (w : World) : Calls Tryz.prog 38 #[.string s] w fun e w' => e = .returned (.bool b) ∧ w = w' := by
  have := longF_any s w; rw [h] at this; exact this
theorem choose_to (nm s : ByteArray) (n y k x : Int) (h : M.chooseE nm.data.toList s.data.toList = (n, y, k, x)) (w : World) (hL : Len w) : Calls Tryz.prog 39 #[.string nm, .string s] w fun e w' => e = .returned (.tuple #[.int .i64 n, .int .i64 y, .int .i64 k, .int .i64 x]) ∧ Bel w w' := by
  rw [M.chooseE, ← Lib.size_eq, ← Lib.size_eq] at h
  by_cases h1 : 3000 < nm.size
  · rw [if_pos (.inl h1)] at h
    simp only [Prod.mk.injEq] at h
    obtain ⟨rfl, rfl, rfl, rfl⟩ := h
    have H1 := Lib.hid (decide_eq_true h1)
    clear h1
    go_enter Tryz.func39, Tryz.ntmps39
    go_wp2_with fail
    refine (longF_to nm _ H1.out _).mono ?_
    rintro e _ ⟨rfl, rfl⟩
    go_wp2_with fail
    refine bodyPost_ret (v := .tuple #[.int .i64 0, .int .i64 0, .int .i64 0, .int .i64 2]) (by simp [results, Tryz.results39, go_sem]) rfl ?_
    exact ⟨rfl, Bel.refl _⟩
  · have H1 := Lib.hid (decide_eq_false h1)
    have hn : nm.size ≤ 68719476735 := by omega
    by_cases h2 : 3000 < s.size
    · rw [if_pos (.inr h2)] at h
      simp only [Prod.mk.injEq] at h
      obtain ⟨rfl, rfl, rfl, rfl⟩ := h
      have H2 := Lib.hid (decide_eq_true h2)
      clear h1 h2
      go_enter Tryz.func39, Tryz.ntmps39
      go_wp2_with fail
      refine (longF_to nm _ H1.out _).mono ?_
      rintro e _ ⟨rfl, rfl⟩
      go_wp2_with fail
      refine (longF_to s _ H2.out _).mono ?_
      rintro e _ ⟨rfl, rfl⟩
      go_wp2_with fail
      refine bodyPost_ret (v := .tuple #[.int .i64 0, .int .i64 0, .int .i64 0, .int .i64 2]) (by simp [results, Tryz.results39, go_sem]) rfl ?_
      exact ⟨rfl, Bel.refl _⟩
    · rw [if_neg (fun h9 => h9.elim h1 h2)] at h
      have H2 := Lib.hid (decide_eq_false h2)
      have hs : s.size ≤ 9000 := by omega
      obtain ⟨n2, y2, k2, hc⟩ : ∃ n2 y2 k2, M.chosen nm.data.toList s.data.toList = (n2, y2, k2) := ⟨_, _, _, rfl⟩
      rw [hc] at h
      simp only [Prod.mk.injEq] at h
      obtain ⟨rfl, rfl, rfl, rfl⟩ := h
      have HC := Lib.hid hc
      clear h1 h2 hc
      go_enter Tryz.func39, Tryz.ntmps39
      go_wp2_with fail
      refine (longF_to nm _ H1.out _).mono ?_
      rintro e _ ⟨rfl, rfl⟩
      go_wp2_with fail
      refine (longF_to s _ H2.out _).mono ?_
      rintro e _ ⟨rfl, rfl⟩
      go_wp2_with fail
      refine (chosen_to nm s _ _ _ HC.out hn hs _ hL).mono ?_
      rintro e w1 ⟨rfl, b1⟩
      go_wp2_with fail
      refine bodyPost_ret (v := .tuple #[.int .i64 n2, .int .i64 y2, .int .i64 k2, .int .i64 0]) (by simp [results, Tryz.results39, go_sem]) rfl ?_
      exact ⟨rfl, b1⟩
end Go.Proofs.YteingkjdemlhgaaGreatDoor

/-
  Small answers: is a number between two, is it an encoding, is a text too long.
-/
namespace Go.Proofs.YteingkjdemlhgaaGreatDoor
open Go.RowKit
end Go.Proofs.YteingkjdemlhgaaGreatDoor

/-
  The document's answers on labels: TrimOf, FoldOf, FindOf, NameOf.
-/
namespace Go.Proofs.YteingkjdemlhgaaGreatDoor
open Go.RowKit
set_option maxRecDepth 1000000
end Go.Proofs.YteingkjdemlhgaaGreatDoor

/-
  The document's answers on attributes: AttrAt.
-/
namespace Go.Proofs.YteingkjdemlhgaaGreatDoor
open Go.RowKit
set_option maxRecDepth 1000000
end Go.Proofs.YteingkjdemlhgaaGreatDoor

/-
  The document's answers on attributes: beginsAt, AttrsAt.
-/
namespace Go.Proofs.YteingkjdemlhgaaGreatDoor
open Go.RowKit
set_option maxRecDepth 1000000
end Go.Proofs.YteingkjdemlhgaaGreatDoor

/-
  The document's answers on attributes: CharsetOf.
-/
namespace Go.Proofs.YteingkjdemlhgaaGreatDoor
open Go.RowKit
set_option maxRecDepth 1000000
end Go.Proofs.YteingkjdemlhgaaGreatDoor

/-
  The document's answers on scans: MetaOf, isLetter.
-/
namespace Go.Proofs.YteingkjdemlhgaaGreatDoor
open Go.RowKit
set_option maxRecDepth 1000000
set_option maxHeartbeats 4000000
/-- The first place from k on that has the name; -1: none has. -/
def FirstN (xs : List (List UInt8 × List UInt8)) (nm : List UInt8) (k : Nat) (r : Int) : Prop :=
  (r = -1 ∧ ∀ j, k ≤ j → j < xs.length → ((xs.getD j ([], [])).1 == nm) = false) ∨ ∃ d : Nat, k ≤ d ∧ d < xs.length ∧ r = d ∧ ((xs.getD d ([], [])).1 == nm) = true ∧ ∀ j, k ≤ j → j < d → ((xs.getD j ([], [])).1 == nm) = false
theorem FirstN.at {xs : List (List UInt8 × List UInt8)} {nm : List UInt8} {r : Int} (h : FirstN xs nm 0 r) : (r = -1 ∧ M.valOf xs nm = none) ∨ ∃ (k : Nat) (q : List UInt8 × List UInt8), r = k ∧ xs[k]? = some q ∧ M.valOf xs nm = some q.2 := by
  have h1 : FirstAt xs.length (fun j => (xs.getD j ([], [])).1 == nm) r := by
    rcases h with ⟨e, h⟩ | ⟨d, _, hd, e, hy, hno⟩
    · exact .inl ⟨e, fun j hj => h j (Nat.zero_le _) hj⟩
    · exact .inr ⟨d, hd, e, hy, fun j hj => hno j (Nat.zero_le _) hj⟩
  rcases find_at xs (fun a => a.1 == nm) r h1 with ⟨e, hf⟩ | ⟨k, q, e, hk, hf⟩
  · exact .inl ⟨e, valOf_none _ _ hf⟩
  · exact .inr ⟨k, q, e, hk, valOf_some _ _ _ hf⟩
theorem FirstN.end (xs : List (List UInt8 × List UInt8)) (nm : List UInt8) : FirstN xs nm xs.length (-1) := .inl ⟨rfl, fun j h1 h2 => by omega⟩
theorem FirstN.no {xs : List (List UInt8 × List UInt8)} {nm : List UInt8} {k : Nat} {q : List UInt8 × List UInt8} {r : Int} (hq : xs[k]? = some q) (h : (q.1 == nm) = false) (hr : FirstN xs nm (k + 1) r) : FirstN xs nm k r := by
  have hk : ((xs.getD k ([], [])).1 == nm) = false := by rw [List.getD_eq_getElem?_getD, hq]; exact h
  rcases hr with ⟨e, hr⟩ | ⟨d, hkd, hd, e, hy, hno⟩
  · refine .inl ⟨e, fun j h1 h2 => ?_⟩
    by_cases ej : j = k
    · subst ej; exact hk
    · exact hr j (by omega) h2
  · refine .inr ⟨d, by omega, hd, e, hy, fun j h1 h2 => ?_⟩
    by_cases ej : j = k
    · subst ej; exact hk
    · exact hno j (by omega) h2
end Go.Proofs.YteingkjdemlhgaaGreatDoor

/-
  The document's answers on scans: isLetter, ScanOf.
-/
namespace Go.Proofs.YteingkjdemlhgaaGreatDoor
open Go.RowKit
set_option maxRecDepth 1000000
set_option maxHeartbeats 16000000
end Go.Proofs.YteingkjdemlhgaaGreatDoor

/-
  The document's answers on marks: what the reference computes is what the package computes.
-/
namespace Go.Proofs.YteingkjdemlhgaaGreatDoor
open Go.RowKit
end Go.Proofs.YteingkjdemlhgaaGreatDoor

/-
  The document's answers on fronts: ChooseOf, IsEnough.
-/
namespace Go.Proofs.YteingkjdemlhgaaGreatDoor
open Go.RowKit
set_option maxRecDepth 1000000
set_option maxHeartbeats 2000000
end Go.Proofs.YteingkjdemlhgaaGreatDoor

/-
  Bits: 'or' of numbers whose bits lie apart is their sum.
-/
namespace Go.Proofs.YteingkjdemlhgaaGreatDoor
open Go.RowKit
theorem ofInt_i64 (a : Nat) (ha : a < 9223372036854775808) : (BitVec.ofInt 64 (a : Int)).toNat = a := by
  rw [BitVec.ofInt_natCast, BitVec.toNat_ofNat]; exact Nat.mod_eq_of_lt (by omega)
theorem i64_or_nat (a b : Nat) (ha : a < 9223372036854775808) (hb : b < 9223372036854775808) : bits .or .i64 (a : Int) (b : Int) = ((a ||| b : Nat) : Int) := by
  have hx : a ||| b < 2 ^ 63 := Nat.or_lt_two_pow (by omega) (by omega)
  show IntKind.i64.wrap ((BitVec.ofInt 64 (a : Int) ||| BitVec.ofInt 64 (b : Int)).toNat : Int) = _
  rw [BitVec.toNat_or, ofInt_i64 a ha, ofInt_i64 b hb, IntKind.wrap_i64]
  omega
theorem i64_and_nat (a b : Nat) (ha : a < 9223372036854775808) (hb : b < 9223372036854775808) : bits .and .i64 (a : Int) (b : Int) = ((a &&& b : Nat) : Int) := by
  have hx : a &&& b < 2 ^ 63 := Nat.and_lt_two_pow _ (by omega)
  show IntKind.i64.wrap ((BitVec.ofInt 64 (a : Int) &&& BitVec.ofInt 64 (b : Int)).toNat : Int) = _
  rw [BitVec.toNat_and, ofInt_i64 a ha, ofInt_i64 b hb, IntKind.wrap_i64]
  omega
theorem and_63 (x : Int) (h0 : 0 ≤ x) (h1 : x ≤ 4611686018427387904) : bits .and .i64 x 63 = x % 64 := by
  obtain ⟨m, rfl⟩ := Int.eq_ofNat_of_zero_le h0
  have := i64_and_nat m 63 (by omega) (by omega)
  rw [show (63 : Nat) = 2 ^ 6 - 1 from rfl, Nat.and_two_pow_sub_one_eq_mod] at this
  rw [show ((63 : Int)) = ((2 ^ 6 - 1 : Nat) : Int) from rfl, this]
  omega
/-- Bits that lie apart. -/
theorem or_apart (i a : Nat) (x : Int) (h0 : 0 ≤ x) (h1 : x < 2 ^ i) (hb : 2 ^ i * a + 2 ^ i ≤ 9223372036854775807) : bits .or .i64 ((2 ^ i * a : Nat) : Int) x = ((2 ^ i * a : Nat) : Int) + x := by
  obtain ⟨b, rfl⟩ := Int.eq_ofNat_of_zero_le h0
  have hb2 : b < 2 ^ i := by exact_mod_cast h1
  rw [i64_or_nat _ _ (by omega) (by omega), ← Nat.two_pow_add_eq_or_of_lt hb2 a]
  simp
theorem or_64 (n x : Int) (hn : 0 ≤ n) (hn2 : n ≤ 33554431) (h0 : 0 ≤ x) (h1 : x < 64) : bits .or .i64 (n * 64) x = n * 64 + x := by
  obtain ⟨m, rfl⟩ := Int.eq_ofNat_of_zero_le hn
  have := or_apart 6 m x h0 (by simpa using h1) (by omega)
  rw [show (((2 ^ 6 * m : Nat)) : Int) = (m : Int) * 64 by omega] at this
  exact this
theorem or_128 (x : Int) (h0 : 0 ≤ x) (h1 : x < 64) : bits .or .i64 128 x = 128 + x := by
  have := or_apart 6 2 x h0 (by simpa using h1) (by omega)
  exact this
theorem or_192 (x : Int) (h0 : 0 ≤ x) (h1 : x < 64) : bits .or .i64 192 x = 192 + x := by
  have := or_apart 6 3 x h0 (by simpa using h1) (by omega)
  exact this
theorem or_224 (x : Int) (h0 : 0 ≤ x) (h1 : x < 32) : bits .or .i64 224 x = 224 + x := by
  have := or_apart 5 7 x h0 (by simpa using h1) (by omega)
  exact this
theorem or_240 (x : Int) (h0 : 0 ≤ x) (h1 : x < 16) : bits .or .i64 240 x = 240 + x := by
  have := or_apart 4 15 x h0 (by simpa using h1) (by omega)
  exact this
theorem or_256 (n x : Int) (hn : 0 ≤ n) (hn2 : n ≤ 33554431) (h0 : 0 ≤ x) (h1 : x < 256) : bits .or .i64 (n * 256) x = n * 256 + x := by
  obtain ⟨m, rfl⟩ := Int.eq_ofNat_of_zero_le hn
  have := or_apart 8 m x h0 (by simpa using h1) (by omega)
  rw [show (((2 ^ 8 * m : Nat)) : Int) = (m : Int) * 256 by omega] at this
  exact this
end Go.Proofs.YteingkjdemlhgaaGreatDoor

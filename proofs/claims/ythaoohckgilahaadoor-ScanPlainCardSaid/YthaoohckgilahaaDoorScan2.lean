/-
  Package scan: the looker: begins, byteAt, to, tag.
-/
import Derived.Test.YthaoohckgilahaaDoorScan1
import Derived.BigRegion
namespace Go.Proofs.YthaoohckgilahaaDoor
open Go.RowKit
set_option maxRecDepth 1000000
set_option maxHeartbeats 1000000

/-- A looker at g: it holds a text, the text in small letters, and a place. -/
def Lk (w : World) (g : Nat) (s low : ByteArray) (k : Nat) : Prop := Box w g 77 [.string s, .string low, .int .i64 (k : Int)]
theorem Lk.bel {w w' : World} {g : Nat} {s low : ByteArray} {k : Nat} (h : Lk w g s low k) (hb : Bel w w') : Lk w' g s low k := Box.bel h hb
theorem Lk.move {w : World} {g : Nat} {s low : ByteArray} {k : Nat} (h : Lk w g s low k) (j : Nat) : Lk (w.setCell ⟨g, 2, none⟩ (.int .i64 (j : Int))) g s low j := Box.set h 2 _
/-- low is s in small letters. -/
def Low (s low : ByteArray) : Prop := low.data.toList = M.fold s.data.toList
theorem Low.size {s low : ByteArray} (h : Low s low) : low.size = s.size := by rw [Lib.size_eq, h, M.fold_len, ← Lib.size_eq]
theorem Low.drop {s low : ByteArray} (h : Low s low) (k : Nat) : (low.extract k low.size).data.toList = M.fold (s.data.toList.drop k) := by rw [drop_str, h, fold_drop]
theorem begins_any (g : Nat) (s low p : ByteArray) (k : Nat) (w : World) (h : Lk w g s low k) (hl : Low s low) (hk : k ≤ s.size) : Calls Tryd.prog 73 #[.pointer (some ⟨g, 0, none⟩), .string p] w fun e w' => e = .returned (.bool (Lib.hasPrefix (M.fold (s.data.toList.drop k)) p.data.toList)) ∧ ∃ m, w' = w.drewN m := by
  have c1 := Box.cell h 1 _ rfl
  have c2 := Box.cell h 2 _ rfl
  have hsz := hl.size
  have hbd : (0 : Int) ≤ (k : Int) ∧ (k : Int) ≤ (low.size : Int) := by omega
  have hcall := fun n => Tryd.strings_HasPrefix (low.extract k low.size) p (w.drewN n)
  rw [hl.drop k] at hcall
  have HC := Lib.hid hcall
  clear hcall hl hsz
  go_enter Tryd.func73, Tryd.ntmps73
  go_wp2_with fail
  go_quiet (first | (go_at_call 87; exact Calls.quiet_of_same (HC.out _)))
  go_wp2
  go_ret
  exact ⟨rfl, _, rfl⟩
/-- The byte so many further on, in small letters; 0: there is none. -/
def byteN (l : List UInt8) (more : Nat) : UInt8 := ((M.fold l)[more]?).getD 0
theorem byteAt_any (g : Nat) (s low : ByteArray) (k more : Nat) (w : World) (h : Lk w g s low k) (hl : Low s low) (hk : k ≤ s.size) (hs : s.size ≤ 3000) (hm : more ≤ 9) : Calls Tryd.prog 75 #[.pointer (some ⟨g, 0, none⟩), .int .i64 (more : Int)] w fun e w' => e = .returned (.int .u8 ((byteN (s.data.toList.drop k) more).toNat : Int)) ∧ ∃ m, w' = w.drewN m := by
  have c0 := Box.cell h 0 _ rfl
  have c1 := Box.cell h 1 _ rfl
  have c2 := Box.cell h 2 _ rfl
  have hsz := hl.size
  obtain ⟨km, hkm⟩ : ∃ km : Nat, km = k + more := ⟨_, rfl⟩
  have hki : (k : Int) + (more : Int) = (km : Int) := by omega
  by_cases hlt : km < s.size
  · have hb : byteN (s.data.toList.drop k) more = low[km] := by
      subst hkm
      rw [byteN, ← fold_drop, List.getElem?_drop, ← hl, byte_at low (k + more) (by omega)]
      rfl
    have HB := Lib.hid hb
    have hlt2 : km < low.size := by omega
    have hf : decide ((s.size : Int) ≤ (km : Int)) = false := by simp; omega
    clear hb hl hkm
    go_enter Tryd.func75, Tryd.ntmps75
    go_wp2_with fail
    go_quiet (fail)
    go_wp2_with fail
    go_quiet (fail)
    go_wp2_with fail
    go_ret
    exact ⟨by rw [HB.out]; rfl, _, World.drewN_drewN _ _ _⟩
  · have HB := Lib.hid (show byteN (s.data.toList.drop k) more = 0 by
      rw [byteN, ← fold_drop, List.getElem?_drop, List.getElem?_eq_none (by rw [M.fold_len, ← Lib.size_eq]; omega)]
      rfl)
    have hf : decide ((s.size : Int) ≤ (km : Int)) = true := by simp; omega
    clear hl hkm
    go_enter Tryd.func75, Tryd.ntmps75
    go_wp2_with fail
    go_quiet (fail)
    go_wp2_with fail
    go_ret
    exact ⟨by rw [HB.out]; rfl, _, rfl⟩
theorem behindF_no (sub : List UInt8) : ∀ l : List UInt8, (∀ j, Lib.hasPrefix (M.fold (l.drop j)) sub = false) → M.behindF sub l = []
  | [], _ => rfl
  | c :: t, h => by
    rw [M.behindF, if_neg (by have := h 0; rw [List.drop_zero] at this; rw [this]; decide)]
    exact behindF_no sub t (fun j => h (j + 1))
theorem behindF_at (sub : List UInt8) (hs : sub ≠ []) : ∀ (i : Nat) (l : List UInt8), Lib.hasPrefix (M.fold (l.drop i)) sub = true → (∀ j, j < i → Lib.hasPrefix (M.fold (l.drop j)) sub = false) → M.behindF sub l = l.drop (i + sub.length)
  | i, [], h, _ => by
    rw [List.drop_nil] at h
    cases sub with
    | nil => exact absurd rfl hs
    | cons x y => cases h
  | 0, c :: t, h, _ => by
    rw [M.behindF, if_pos (by rw [List.drop_zero] at h; exact h), Nat.zero_add]
  | i + 1, c :: t, h, hno => by
    rw [M.behindF, if_neg (by have := hno 0 (by omega); rw [List.drop_zero] at this; rw [this]; decide), behindF_at sub hs i t h (fun j hj => hno (j + 1) (by omega)), show i + 1 + sub.length = i + sub.length + 1 by omega, List.drop_succ_cons]
theorem to_any (g : Nat) (s low sub : ByteArray) (k more : Nat) (w : World) (h : Lk w g s low k) (hl : Low s low) (hk : k + more ≤ s.size) (hs : s.size ≤ 3000) (hsub : sub.data.toList ≠ []) (hm : more ≤ 9) (hsl : sub.size ≤ 9) (hL : Len w) : Calls Tryd.prog 74 #[.pointer (some ⟨g, 0, none⟩), .string sub, .int .i64 (more : Int)] w fun e w' => e = .returned (.tuple #[]) ∧ (∃ k', k' ≤ s.size ∧ Lk w' g s low k' ∧ s.data.toList.drop k' = M.behindF sub.data.toList (s.data.toList.drop (k + more))) ∧ Bes g w w' := by
  have c0 := Box.cell h 0 _ rfl
  have c1 := Box.cell h 1 _ rfl
  have c2 := Box.cell h 2 _ rfl
  have f2 := Box.frozen h 2
  have hsz := hl.size
  obtain ⟨m, hm2⟩ := hL
  obtain ⟨km, hkm⟩ : ∃ km : Nat, km = k + more := ⟨_, rfl⟩
  rw [← hkm] at hk ⊢
  have hki : (k : Int) + (more : Int) = (km : Int) := by omega
  have hbd : (0 : Int) ≤ (km : Int) ∧ (km : Int) ≤ (low.size : Int) := by omega
  have hw : IntKind.i64.wrap (km : Int) = (km : Int) := by rw [IntKind.wrap_i64]; omega
  have hcall := fun n => Tryd.strings_Index (low.extract km low.size) sub m (w.drewN n) (by rw [drop_size]; omega) hm2
  rw [hl.drop km] at hcall
  rcases index_cases (M.fold (s.data.toList.drop km)) sub.data.toList hsub with ⟨hi, hno⟩ | ⟨i, hil, hi, hyes, hno⟩
  · rw [hi] at hcall
    have HC := Lib.hid hcall
    have HB := Lib.hid (behindF_no sub.data.toList (s.data.toList.drop km) (fun j => by rw [← fold_drop]; exact hno j))
    clear hcall hl hno hi hkm hsz
    go_enter Tryd.func74, Tryd.ntmps74
    go_wp2_with fail
    go_quiet (first | (go_at_call 52; exact Calls.quiet_of_same (HC.out _)))
    go_wp2_with fail
    exact bodyPost_ret (v := .tuple #[]) (by simp [results, Tryd.results74, go_sem]) rfl ⟨rfl, ⟨s.size, Nat.le_refl _, Lk.move (Box.drewN h nq) s.size, by rw [HB.out]; exact List.drop_eq_nil_of_le (by rw [← Lib.size_eq]; exact Nat.le_refl _)⟩, (Bes.of_bel ((Bel.refl w).drewN nq)).setCell 2 _⟩
  · rw [hi] at hcall
    have HC := Lib.hid hcall
    have HB := Lib.hid (behindF_at sub.data.toList hsub i (s.data.toList.drop km) (by rw [← fold_drop]; exact hyes) (fun j hj => by rw [← fold_drop]; exact hno j hj))
    rw [M.fold_len, List.length_drop, ← Lib.size_eq, ← Lib.size_eq] at hil
    clear hcall hl hno hi hyes hkm hsz
    go_enter Tryd.func74, Tryd.ntmps74
    go_wp2_with fail
    go_quiet (first | (go_at_call 52; exact Calls.quiet_of_same (HC.out _)))
    go_wp2_with fail
    go_end0
    rw [show (k : Int) + ((more : Int) + (i : Int) + (sub.size : Int)) = ((km + (i + sub.size) : Nat) : Int) by omega]
    exact ⟨rfl, ⟨km + (i + sub.size), by omega, Lk.move (Box.drewN h nq) _, by rw [HB.out, List.drop_drop, ← Lib.size_eq]⟩, (Bes.of_bel ((Bel.refl w).drewN nq)).setCell 2 _⟩
theorem drop_min (s : ByteArray) (en : Nat) (h : en ≤ s.size) : s.data.toList.drop (min s.size (en + 1)) = (s.data.toList.drop en).drop 1 := by
  rw [List.drop_drop]
  by_cases e : en + 1 ≤ s.size
  · rw [Nat.min_eq_right e]
  · rw [Nat.min_eq_left (by omega), List.drop_eq_nil_of_le (by rw [← Lib.size_eq]; exact Nat.le_refl _), List.drop_eq_nil_of_le (by rw [← Lib.size_eq]; omega)]
theorem tag_any (g : Nat) (s low : ByteArray) (k fr : Nat) (w : World) (h : Lk w g s low k) (hk : fr ≤ s.size) (hs : s.size ≤ 3000) (xs : List (List UInt8 × List UInt8)) (r : List UInt8) (hn : M.attrsA (s.data.toList.drop fr) = (xs, r)) : Calls Tryd.prog 76 #[.pointer (some ⟨g, 0, none⟩), .int .i64 (fr : Int)] w fun e w' => ∃ v, e = .returned v ∧ AttrSl w' v xs ∧ (∃ k', k' ≤ s.size ∧ Lk w' g s low k' ∧ s.data.toList.drop k' = r.drop 1) ∧ Bes g w w' := by
  have c0 := Box.cell h 0 _ rfl
  have hgl := Box.lt h
  have hsuf := (M.attrsA_suf _ (s.data.toList.drop fr) (Nat.le_refl _)).1
  rw [hn] at hsuf
  have hd := M.Suf.at (M.Suf.trans (a := r) hsuf (M.Suf.drop s.data.toList fr))
  rw [← Lib.size_eq] at hd
  have hrl : r.length ≤ s.size := by
    have := hsuf.len
    rw [List.length_drop, ← Lib.size_eq] at this
    have h9 : r.length ≤ s.size - fr := this
    omega
  have ff := from_any s fr hk hs xs r hn
  obtain ⟨en, hen⟩ : ∃ en : Nat, en = s.size - r.length := ⟨_, rfl⟩
  rw [← hen] at ff hd
  have HF := Lib.hid ff
  have HD := Lib.hid hd
  have henl : en ≤ s.size := by omega
  clear ff hd hsuf hn hen
  go_enter Tryd.func76, Tryd.ntmps76
  go_wp2_with fail
  refine (HF.out _).mono ?_
  rintro e w1 ⟨v, rfl, hown, b1⟩
  have h1 := h.bel b1
  have c0 := Box.cell h1 0 _ rfl
  have c2 := Box.cell h1 2 _ rfl
  have f2 := Box.frozen h1 2
  go_wp2_with fail
  rw [show min (s.size : Int) ((en : Int) + 1) = ((min s.size (en + 1) : Nat) : Int) by omega]
  go_ret
  exact ⟨v, rfl, OwnA.sl (B := w.heap.size) (hown.keep (fun kk hkk => Below.heap_setCell w1 _ _ kk (by have := (hown.lt kk hkk).1; show kk ≠ g; omega))), ⟨min s.size (en + 1), Nat.min_le_left _ _, h1.move _, by rw [drop_min s en henl, HD.out]⟩, (Bes.of_bel b1).setCell 2 _⟩
end Go.Proofs.YthaoohckgilahaaDoor

/-
  Texts of the proof, laid together: Attr, Attr2, Attr3, Base8, BaseA, Attr4, PlainLabel2, Label2, Label3, Attr5, PlainRune, Scan1. No condition of its own.
-/
import Derived.Test.YteingkjdemlhgaaGreatDoorG2
import Derived.Test.YteingkjdemlhgaaGreatDoorG1
import Derived.Deep.LoopGhost
import Derived.Shelf.Abstract
import Derived.BigRegion
import Derived.Deep.Cut
import Derived.Deep.CutRange
import Derived.Test.YteingkjdemlhgaaGreatDoorShelf
import Derived.Lib.LaidTab
import Derived.Shelf.GgClosure.StringsIndexFunc
import Derived.Lib.SpaceUEq
import Derived.Laws.EntriesVeiled

/-
  Package attr: the reader: here, pass, one.
-/
namespace Go.Proofs.YteingkjdemlhgaaGreatDoor
open Go.RowKit
set_option maxRecDepth 1000000
/-- Of all that lay there only block g may have changed. -/
structure Bes (g : Nat) (w w' : World) : Prop where
  os : w'.os = w.os
  tape : w'.tape = w.tape
  output : w'.output = w.output
  size : w.heap.size ≤ w'.heap.size
  block : ∀ k, k < w.heap.size → k ≠ g → w'.heap[k]? = w.heap[k]?
theorem Bes.refl (g : Nat) (w : World) : Bes g w w := ⟨rfl, rfl, rfl, Nat.le_refl _, fun _ _ _ => rfl⟩
theorem Bes.trans {g : Nat} {a b c : World} (h : Bes g a b) (k : Bes g b c) : Bes g a c :=
  ⟨k.os.trans h.os, k.tape.trans h.tape, k.output.trans h.output, Nat.le_trans h.size k.size, fun j hj hg => (k.block j (Nat.lt_of_lt_of_le hj h.size) hg).trans (h.block j hj hg)⟩
theorem Bes.of_bel {g : Nat} {a b : World} (h : Bel a b) : Bes g a b := ⟨h.os, h.tape, h.output, h.size, fun j hj _ => h.block j hj⟩
theorem Bes.bel {g : Nat} {a b c : World} (h : Bel a b) (k : Bes g b c) (hg : a.heap.size ≤ g) : Bel a c :=
  ⟨k.os.trans h.os, k.tape.trans h.tape, k.output.trans h.output, Nat.le_trans h.size k.size, fun j hj => (k.block j (Nat.lt_of_lt_of_le hj h.size) (by omega)).trans (h.block j hj)⟩
theorem Bes.setCell {g : Nat} {a b : World} (h : Bes g a b) (o : Nat) (u : Value) : Bes g a (b.setCell ⟨g, o, none⟩ u) := by
  refine ⟨h.os, h.tape, h.output, ?_, fun k hk hg => ?_⟩
  · rw [World.size_setCell]; exact h.size
  · exact (Below.heap_setCell b _ u k hg).trans (h.block k hk hg)
theorem Bes.setNew {g : Nat} {a b : World} (h : Bes g a b) {p : Addr} (hp : a.heap.size ≤ p.block) (u : Value) : Bes g a (b.setCell p u) := by
  refine ⟨h.os, h.tape, h.output, ?_, fun k hk hg => ?_⟩
  · rw [World.size_setCell]; exact h.size
  · exact (Below.heap_setCell b _ u k (by omega)).trans (h.block k hk hg)
theorem Bes.box {g j : Nat} {a b : World} {t : TypeId} {cs : List Value} (h : Bes g a b) (hb : Box a j t cs) (hj : j ≠ g) : Box b j t cs := (h.block j hb.lt hj).trans hb
/-- A reader at g: it holds a text and a place in it. -/
def Rd (w : World) (g : Nat) (s : ByteArray) (k : Nat) : Prop := Box w g 114 [.string s, .int .i64 (k : Int)]
theorem Rd.bel {w w' : World} {g : Nat} {s : ByteArray} {k : Nat} (h : Rd w g s k) (hb : Bel w w') : Rd w' g s k := Box.bel h hb
theorem Rd.move {w : World} {g : Nat} {s : ByteArray} {k : Nat} (h : Rd w g s k) (j : Nat) : Rd (w.setCell ⟨g, 1, none⟩ (.int .i64 (j : Int))) g s j := Box.set h 1 _
/-- What is asked of a predicate on bytes that may look at the reader's place. -/
def Says (gf : Nat) (lb : Array Value) (g : Nat) (s : ByteArray) (w : World) (p : Nat → UInt8 → Bool) : Prop :=
  ∀ (W : World) (k : Nat) (c : UInt8), Bes g w W → Rd W g s k → Calls Tryz.prog gf (#[.int .u8 (c.toNat : Int)] ++ lb) W fun e w' => e = .returned (.bool (p k c)) ∧ ∃ m, w' = W.drewN m
theorem Says.bes {gf : Nat} {lb : Array Value} {g : Nat} {s : ByteArray} {w w' : World} {p : Nat → UInt8 → Bool} (h : Says gf lb g s w p) (hb : Bes g w w') : Says gf lb g s w' p :=
  fun W k c hB hR => h W k c (hb.trans hB) hR
def hereP (l : List UInt8) (p : Nat → UInt8 → Bool) (k : Nat) : Bool := match l[k]? with | some c => p k c | none => false
theorem here_any (g : Nat) (s : ByteArray) (k : Nat) (gf : Nat) (lb : Array Value) (p : Nat → UInt8 → Bool) (w : World) (hr : Rd w g s k) (hk : k ≤ s.size) (eg : ∀ args w, (callFunc gf args).run Tryz.prog w = .ok (.enter gf args) w)
    (hp : Says gf lb g s w p) : Calls Tryz.prog 107 #[.pointer (some ⟨g, 0, none⟩), .func (.func gf) #[] lb] w fun e w' => e = .returned (.bool (hereP s.data.toList p k)) ∧ ∃ m, w' = w.drewN m := by
  have c0 := Box.cell hr 0 _ rfl
  have c1 := Box.cell hr 1 _ rfl
  by_cases hlt : k < s.size
  · have hcall := fun n => hp (w.drewN n) k s[k] (Bes.of_bel ((Bel.refl w).drewN n)) (Box.drewN hr n)
    have HP := Lib.hid (show hereP s.data.toList p k = p k s[k] by rw [hereP, byte_at s k hlt])
    generalize p k s[k] = q at hcall HP
    have HC := Lib.hid hcall
    clear hp hr hcall
    have hi : decide ((k : Int) < (s.size : Int)) = true := by simpa using hlt
    go_enter Tryz.func107, Tryz.ntmps107
    go_wp2_with fail
    go_quiet (first | (go_at_fn gf; exact Calls.quiet_of (HC.out _)))
    go_wp2
    go_ret
    exact ⟨by rw [HP.out]; rfl, _, rfl⟩
  · have HP := Lib.hid (show hereP s.data.toList p k = false by rw [hereP, List.getElem?_eq_none (by rw [← Lib.size_eq]; omega)])
    clear hp hr
    have hi : decide ((k : Int) < (s.size : Int)) = false := by simpa using hlt
    go_enter Tryz.func107, Tryz.ntmps107
    go_wp2_with fail
    go_quiet (fail)
    go_wp2
    go_ret
    exact ⟨by rw [HP.out]; rfl, _, rfl⟩
/-- How many bytes are passed. -/
def passN (p : Nat → UInt8 → Bool) : Nat → List UInt8 → Nat
  | _, [] => 0
  | k, c :: t => if p k c = true then passN p (k + 1) t + 1 else 0
theorem passN_step (p : Nat → UInt8 → Bool) (l : List UInt8) (k : Nat) (h : hereP l p k = true) : passN p k (l.drop k) = passN p (k + 1) (l.drop (k + 1)) + 1 := by
  unfold hereP at h
  cases hc : l[k]? with
  | none => rw [hc] at h; cases h
  | some c =>
    rw [hc] at h
    have hk := (List.getElem?_eq_some_iff.1 hc).1
    have e : l.drop k = c :: l.drop (k + 1) := by
      rw [List.drop_eq_getElem_cons hk, (List.getElem?_eq_some_iff.1 hc).2]
    rw [e, passN, if_pos h]
theorem passN_stop (p : Nat → UInt8 → Bool) (l : List UInt8) (k : Nat) (h : hereP l p k = false) : passN p k (l.drop k) = 0 := by
  unfold hereP at h
  cases hc : l[k]? with
  | none => rw [List.drop_eq_nil_of_le (List.getElem?_eq_none_iff.1 hc)]; rfl
  | some c =>
    rw [hc] at h
    have hk := (List.getElem?_eq_some_iff.1 hc).1
    have e : l.drop k = c :: l.drop (k + 1) := by
      rw [List.drop_eq_getElem_cons hk, (List.getElem?_eq_some_iff.1 hc).2]
    rw [e, passN, if_neg (by show ¬ p k c = true; rw [show p k c = false from h]; decide)]
theorem here_lt (l : List UInt8) (p : Nat → UInt8 → Bool) (k : Nat) (h : hereP l p k = true) : k < l.length := by
  unfold hereP at h
  cases hc : l[k]? with
  | none => rw [hc] at h; cases h
  | some c => exact (List.getElem?_eq_some_iff.1 hc).1
theorem cut_str (s : ByteArray) (k n : Nat) : (s.extract k (k + n)) = ⟨((s.data.toList.drop k).take n).toArray⟩ := by
  have h : (s.extract k (k + n)).data.toList = (s.data.toList.drop k).take n := by
    rw [Lib.extract_data, show k + n - k = n by omega]
  rw [← h, str_eq]
theorem pass_any (g : Nat) (s : ByteArray) (k : Nat) (gf : Nat) (lb : Array Value) (p : Nat → UInt8 → Bool) (w : World) (hr : Rd w g s k) (hk : k ≤ s.size) (hs : s.size ≤ 68719476735) (eg : ∀ args w, (callFunc gf args).run Tryz.prog w = .ok (.enter gf args) w)
    (hp : Says gf lb g s w p) : Calls Tryz.prog 104 #[.pointer (some ⟨g, 0, none⟩), .func (.func gf) #[] lb] w fun e w' => e = .returned (.string ⟨((s.data.toList.drop k).take (passN p k (s.data.toList.drop k))).toArray⟩) ∧ Rd w' g s (k + passN p k (s.data.toList.drop k)) ∧ Bes g w w' := by
  have hc1 := Box.cell hr 1 _ rfl
  have HS := Lib.hid (Lib.size_eq s)
  have HC := Lib.hid (cut_str s k)
  obtain ⟨n, hn⟩ : ∃ n, passN p k (s.data.toList.drop k) = n := ⟨_, rfl⟩
  rw [hn]
  have HN := Lib.hid hn
  clear hn
  go_enter Tryz.func104, Tryz.ntmps104
  go_wp2_with fail
  clear hc1
  go_loopg [12] (s.size + 1) (fun gg _ wr => ∃ j : Nat, k + j ≤ s.size ∧ s.size - (k + j) ≤ gg ∧ Rd wr g s (k + j) ∧ Bes g w wr ∧ Hid (n = j + passN p (k + j) (s.data.toList.drop (k + j))))
  case atStart => exact ⟨0, by omega, by omega, hr, Bes.refl _ _, Lib.hid (by rw [← HN.out]; simp)⟩
  case round =>
    clear hr hk
    obtain ⟨j, hk, hg, hr, hb, HJ⟩ := hrel
    cases hh : hereP s.data.toList p (k + j) with
    | true =>
      have HH := Lib.hid hh
      have hlt : k + j < s.size := by rw [Lib.size_eq]; exact here_lt _ _ _ hh
      have HJ2 := Lib.hid (show n = (j + 1) + passN p (k + (j + 1)) (s.data.toList.drop (k + (j + 1))) by
        have := HJ.out
        rw [passN_step p _ _ hh] at this
        rw [this, show k + (j + 1) = k + j + 1 by omega]; omega)
      clear hh
      go_wp2_with fail
      refine (here_any g s (k + j) gf lb p wr hr hk eg (hp.bes hb)).mono ?_
      rintro e w1 ⟨rfl, m, rfl⟩
      rw [HH.out]
      have hr1 : Rd (wr.drewN m) g s (k + j) := Box.drewN hr m
      have hb1 : Bes g w (wr.drewN m) := hb.trans (Bes.of_bel ((Bel.refl wr).drewN m))
      generalize wr.drewN m = W at *
      clear hr hb hp
      have c1 := Box.cell hr1 1 _ rfl
      have f1 := Box.frozen hr1 1
      go_wp2_with fail
      go_roundg (s.size - (k + (j + 1)))
      case measure => omega
      case rel =>
        refine ⟨j + 1, by omega, by omega, ?_, ?_, HJ2⟩
        · have h := hr1.move (k + (j + 1))
          have e : ((k + (j + 1) : Nat) : Int) = (k : Int) + (j : Int) + 1 := by omega
          rw [e] at h
          exact h
        · exact hb1.setCell 1 _
    | false =>
      have HH := Lib.hid hh
      have HJ2 := Lib.hid (show n = j by
        have := HJ.out
        rw [passN_stop p _ _ hh] at this; omega)
      clear hh
      go_wp2_with fail
      refine (here_any g s (k + j) gf lb p wr hr hk eg (hp.bes hb)).mono ?_
      rintro e w1 ⟨rfl, m, rfl⟩
      rw [HH.out]
      have hr1 : Rd (wr.drewN m) g s (k + j) := Box.drewN hr m
      have hb1 : Bes g w (wr.drewN m) := hb.trans (Bes.of_bel ((Bel.refl wr).drewN m))
      generalize wr.drewN m = W at *
      clear hr hb hp
      have c0 := Box.cell hr1 0 _ rfl
      have c1 := Box.cell hr1 1 _ rfl
      have hbd : (0 : Int) ≤ (k : Int) ∧ (k : Int) ≤ (k : Int) + (j : Int) ∧ (k : Int) + (j : Int) ≤ (s.size : Int) := by omega
      go_wp2_with fail
      go_quiet (fail)
      go_wp2
      go_ret
      rw [HJ2.out]
      exact ⟨by rw [← HC.out]; rfl, Box.drewN hr1 _, hb1.trans (Bes.of_bel ((Bel.refl W).drewN _))⟩
/-! ## The predicates -/
theorem says_white (g : Nat) (s : ByteArray) (w : World) : Says 106 #[] g s w (fun _ c => M.white c) :=
  fun W _ c _ _ => (white_any c W).mono fun _ _ ⟨h1, h2⟩ => ⟨h1, 0, h2.symm⟩
theorem byte_eq (c d : UInt8) : ((c.toNat : Int) == (d.toNat : Int)) = (c == d) := by
  rw [Bool.eq_iff_iff]
  simp only [beq_iff_eq]
  constructor
  · intro h; exact UInt8.toNat_inj.1 (by omega)
  · intro h; rw [h]
theorem skip_int (c : UInt8) : M.skipB c = (M.white c || ((c.toNat : Int) == 47)) := by
  rw [M.skipB]; congr 1; rw [Bool.eq_iff_iff]; simp only [decide_eq_true_eq, beq_iff_eq, ← UInt8.toNat_inj]; have e47 : UInt8.toNat 47 = 47 := rfl
  constructor <;> (intro h; omega)
theorem end_int (c : UInt8) : (c != 62) = ((c.toNat : Int) != 62) := by
  have e62 : UInt8.toNat 62 = 62 := rfl
  rw [Bool.eq_iff_iff]; simp only [bne_iff_ne, ne_eq, ← UInt8.toNat_inj]; constructor <;> (intro h h2; apply h; omega)
theorem val_int (c : UInt8) : M.valB c = (!M.white c && ((c.toNat : Int) != 62)) := by
  rw [M.valB, ← end_int]; congr 1; rw [Bool.eq_iff_iff]; simp
theorem lab_int (c : UInt8) : M.labB c = (!M.white c && ((c.toNat : Int) != 59)) := by
  rw [M.labB]; congr 1; rw [Bool.eq_iff_iff]; simp only [decide_eq_true_eq, bne_iff_ne, ne_eq, ← UInt8.toNat_inj]
  have e59 : UInt8.toNat 59 = 59 := rfl
  constructor <;> (intro h h2; apply h; omega)
theorem says_skip (g : Nat) (s : ByteArray) (w : World) : Says 105 #[] g s w (fun _ c => M.skipB c) := fun W _ c _ _ => by
  have H := Lib.hid (skip_int c)
  show Calls Tryz.prog 105 #[.int .u8 (c.toNat : Int)] W _
  cases hw : M.white c
  all_goals
    have HW := Lib.hid hw
    clear hw
    go_enter Tryz.func105, Tryz.ntmps105
    go_wp2_with (go_at_call 106; refine (white_any c _).mono ?_; rintro e w' ⟨rfl, rfl⟩; rw [HW.out])
    go_ret
    exact ⟨by rw [H.out, HW.out]; rfl, 0, rfl⟩
theorem says_end (g : Nat) (s : ByteArray) (w : World) : Says 108 #[] g s w (fun _ c => c != 62) := fun W _ c _ _ => by
  have H := Lib.hid (end_int c)
  show Calls Tryz.prog 108 #[.int .u8 (c.toNat : Int)] W _
  go_enter Tryz.func108, Tryz.ntmps108
  go_wp2_with fail
  go_ret
  exact ⟨by rw [H.out]; rfl, 0, rfl⟩
theorem says_val (g : Nat) (s : ByteArray) (w : World) : Says 146 #[] g s w (fun _ c => M.valB c) := fun W _ c _ _ => by
  have H := Lib.hid (val_int c)
  show Calls Tryz.prog 146 #[.int .u8 (c.toNat : Int)] W _
  cases hw : M.white c
  all_goals
    have HW := Lib.hid hw
    clear hw
    go_enter Tryz.func146, Tryz.ntmps146
    go_wp2_with (go_at_call 106; refine (white_any c _).mono ?_; rintro e w' ⟨rfl, rfl⟩; rw [HW.out])
    go_ret
    exact ⟨by rw [H.out, HW.out]; rfl, 0, rfl⟩
theorem says_lab (g : Nat) (s : ByteArray) (w : World) : Says 148 #[] g s w (fun _ c => M.labB c) := fun W _ c _ _ => by
  have H := Lib.hid (lab_int c)
  show Calls Tryz.prog 148 #[.int .u8 (c.toNat : Int)] W _
  cases hw : M.white c
  all_goals
    have HW := Lib.hid hw
    clear hw
    go_enter Tryz.func148, Tryz.ntmps148
    go_wp2_with (go_at_call 106; refine (white_any c _).mono ?_; rintro e w' ⟨rfl, rfl⟩; rw [HW.out])
    go_ret
    exact ⟨by rw [H.out, HW.out]; rfl, 0, rfl⟩
end Go.Proofs.YteingkjdemlhgaaGreatDoor

/-
  Package attr: predicates that hold variables; quoted, value.
-/
namespace Go.Proofs.YteingkjdemlhgaaGreatDoor
open Go.RowKit
set_option maxRecDepth 1000000
theorem passN_const (p : UInt8 → Bool) : ∀ (k : Nat) (l : List UInt8), passN (fun _ => p) k l = (l.takeWhile p).length
  | _, [] => rfl
  | k, c :: t => by
    rw [passN, List.takeWhile_cons]
    split
    · rw [passN_const p (k + 1) t]; rfl
    · rfl
theorem take_while (p : UInt8 → Bool) (l : List UInt8) : l.take (l.takeWhile p).length = l.takeWhile p := by
  conv => lhs; rw [← List.takeWhile_append_dropWhile (p := p) (l := l)]
  rw [List.takeWhile_append_dropWhile]
  have h := List.takeWhile_append_dropWhile (p := p) (l := l)
  conv => lhs; arg 2; rw [← h]
  rw [List.take_left]
theorem drop_while (p : UInt8 → Bool) (l : List UInt8) : l.drop (l.takeWhile p).length = l.dropWhile p := by
  have h := List.takeWhile_append_dropWhile (p := p) (l := l)
  conv => lhs; arg 2; rw [← h]
  rw [List.drop_left]
theorem pass_to (g : Nat) (s : ByteArray) (k : Nat) (gf : Nat) (lb : Array Value) (p : UInt8 → Bool) (l : List UInt8) (w : World) (hr : Rd w g s k) (hk : k ≤ s.size) (hl : s.data.toList.drop k = l) (hs : s.size ≤ 68719476735) (eg : ∀ args w, (callFunc gf args).run Tryz.prog w = .ok (.enter gf args) w)
    (hp : Says gf lb g s w (fun _ c => p c)) : Calls Tryz.prog 104 #[.pointer (some ⟨g, 0, none⟩), .func (.func gf) #[] lb] w fun e w' => e = .returned (.string ⟨(l.takeWhile p).toArray⟩) ∧ ∃ k', k' ≤ s.size ∧ Rd w' g s k' ∧ s.data.toList.drop k' = l.dropWhile p ∧ Bes g w w' := by
  refine (pass_any g s k gf lb (fun _ c => p c) w hr hk hs eg hp).mono ?_
  rintro e w' ⟨rfl, hr', hb⟩
  rw [hl, passN_const] at hr'
  rw [hl, passN_const, take_while]
  refine ⟨rfl, _, ?_, hr', ?_, hb⟩
  · have h1 : (l.takeWhile (fun c => p c)).length ≤ l.length := (List.takeWhile_prefix p).length_le
    have h2 : l.length = s.size - k := by rw [← hl, List.length_drop, ← Lib.size_eq]
    omega
  · rw [← drop_while p l, ← hl, List.drop_drop]
def headP (p : UInt8 → Bool) : List UInt8 → Bool | c :: _ => p c | [] => false
theorem hereP_drop (l : List UInt8) (p : UInt8 → Bool) (k : Nat) (r : List UInt8) (h : l.drop k = r) : hereP l (fun _ => p) k = headP p r := by
  unfold hereP
  rw [← List.head?_drop, h]
  cases r <;> rfl
theorem here_to (g : Nat) (s : ByteArray) (k : Nat) (gf : Nat) (lb : Array Value) (p : UInt8 → Bool) (l : List UInt8) (b : Bool) (w : World) (hr : Rd w g s k) (hk : k ≤ s.size) (hl : s.data.toList.drop k = l) (hb : headP p l = b) (eg : ∀ args w, (callFunc gf args).run Tryz.prog w = .ok (.enter gf args) w)
    (hp : Says gf lb g s w (fun _ c => p c)) : Calls Tryz.prog 107 #[.pointer (some ⟨g, 0, none⟩), .func (.func gf) #[] lb] w fun e w' => e = .returned (.bool b) ∧ Rd w' g s k ∧ Bel w w' := by
  refine (here_any g s k gf lb (fun _ c => p c) w hr hk eg hp).mono ?_
  rintro e w' ⟨rfl, m, rfl⟩
  rw [hereP_drop _ _ _ l hl, ← hb]
  exact ⟨rfl, Box.drewN hr m, (Bel.refl w).drewN m⟩
theorem one_any (l : ByteArray) (w : World) : Calls Tryz.prog 110 #[.string l] w fun e w' => e = .returned (.func (.func 143) #[] #[.pointer (some ⟨w.heap.size, 0, none⟩)]) ∧ w.alloc (.cells #[.string l] 9) = w' := by
  go_enter Tryz.func110, Tryz.ntmps110
  go_wp2_with fail
  go_ret
  exact ⟨rfl, rfl⟩
theorem says_one (g : Nat) (s : ByteArray) (w : World) (b : Nat) (l : ByteArray) (hb : b ≠ g) (hbox : Box w b 9 [.string l]) (p : UInt8 → Bool) (hp : ∀ c : UInt8, decide (0 ≤ Lib.indexByte l.data.toList c) = p c) : Says 143 #[.pointer (some ⟨b, 0, none⟩)] g s w (fun _ c => p c) := fun W _ c hB _ => by
  have hc := (hB.box hbox hb).cell 0 _ rfl
  have H := Lib.hid (hp c)
  show Calls Tryz.prog 143 #[.int .u8 (c.toNat : Int), .pointer (some ⟨b, 0, none⟩)] W _
  have he : ((c.toNat : Int)).toNat.toUInt8 = c := by rw [Int.toNat_natCast]; exact UInt8.ofNat_toNat
  have hcall := Tryz.strings_IndexByte l (c.toNat : Int) W
  rw [he] at hcall
  clear he hbox hB
  go_enter Tryz.func143, Tryz.ntmps143
  go_wp2_with (go_at_call 144; refine (hcall).mono ?_; rintro e w' ⟨rfl, rfl⟩)
  go_ret
  exact ⟨by rw [← H.out]; exact ret_bool (by simp), 0, rfl⟩
theorem says_not (g : Nat) (s : ByteArray) (w : World) (b : Nat) (q : UInt8) (hb : b ≠ g) (hbox : Box w b 5 [.int .u8 (q.toNat : Int)]) : Says 173 #[.pointer (some ⟨b, 0, none⟩)] g s w (fun _ c => c != q) := fun W _ c hB _ => by
  have hc := (hB.box hbox hb).cell 0 _ rfl
  have H := Lib.hid (show (c != q) = ((c.toNat : Int) != (q.toNat : Int)) by rw [bne, bne, byte_eq])
  show Calls Tryz.prog 173 #[.int .u8 (c.toNat : Int), .pointer (some ⟨b, 0, none⟩)] W _
  clear hbox hB
  go_enter Tryz.func173, Tryz.ntmps173
  go_wp2_with fail
  go_ret
  exact ⟨by rw [H.out]; rfl, 0, rfl⟩
theorem isQuote (c : UInt8) : decide (0 ≤ Lib.indexByte [34, 39] c) = (c == 34 || c == 39) := by
  have e1 : ((34 : UInt8) == c) = (c == 34) := by rw [Bool.eq_iff_iff, beq_iff_eq, beq_iff_eq]; exact ⟨Eq.symm, Eq.symm⟩
  have e2 : ((39 : UInt8) == c) = (c == 39) := by rw [Bool.eq_iff_iff, beq_iff_eq, beq_iff_eq]; exact ⟨Eq.symm, Eq.symm⟩
  simp only [Lib.indexByte, e1, e2]
  cases (c == 34) <;> cases (c == 39) <;> rfl
theorem isEq (c : UInt8) : decide (0 ≤ Lib.indexByte [61] c) = (c == 61) := by
  have e1 : ((61 : UInt8) == c) = (c == 61) := by rw [Bool.eq_iff_iff, beq_iff_eq, beq_iff_eq]; exact ⟨Eq.symm, Eq.symm⟩
  simp only [Lib.indexByte, e1]
  cases (c == 61) <;> rfl
theorem quoted_any (g : Nat) (s : ByteArray) (k : Nat) (q : UInt8) (l : List UInt8) (w : World) (hr : Rd w g s k) (hk : k ≤ s.size) (hl : s.data.toList.drop k = q :: l) (hs : s.size ≤ 68719476735) :
    Calls Tryz.prog 145 #[.pointer (some ⟨g, 0, none⟩)] w fun e w' => e = .returned (.tuple #[.string ⟨((M.quotedA q l).1.getD []).toArray⟩, .bool (M.quotedA q l).1.isSome]) ∧ ∃ k', k' ≤ s.size ∧ Rd w' g s k' ∧ s.data.toList.drop k' = (M.quotedA q l).2 ∧ Bes g w w' := by
  have hlen : s.size - k = l.length + 1 := by rw [Lib.size_eq, ← List.length_drop, hl]; rfl
  have hlt : k < s.size := by omega
  have hgl : g < w.heap.size := Box.lt hr
  have hgn : g ≠ w.heap.size := by omega
  have c0 := Box.cell hr 0 _ rfl
  have c1 := Box.cell hr 1 _ rfl
  have hq : s[k] = q := by
    have h1 := byte_at s k hlt
    rw [← List.head?_drop, hl] at h1
    injection h1 with h1
    exact h1.symm
  have hbd : (0 : Int) ≤ (k : Int) ∧ (k : Int) < (s.size : Int) := by omega
  go_enter Tryz.func145, Tryz.ntmps145
  go_wp2_with fail
  go_region
  have hbox : Box (w.alloc (.cells #[.int .u8 (q.toNat : Int)] 5)).drew w.heap.size 5 [.int .u8 (q.toNat : Int)] := Box.new w 5 [.int .u8 (q.toNat : Int)]
  have hb1 : Bel w (w.alloc (.cells #[.int .u8 (q.toNat : Int)] 5)).drew := ((Bel.refl w).alloc _).drew
  generalize (w.alloc (.cells #[.int .u8 (q.toNat : Int)] 5)).drew = W at *
  have hr1 := hr.bel hb1
  clear c0 c1 hr hgl
  have c1 := Box.cell hr1 1 _ rfl
  have f1 := Box.frozen hr1 1
  go_wp2_with fail
  have hr2 : Rd (W.setCell ⟨g, 1, none⟩ (.int .i64 ((k : Int) + 1))) g s (k + 1) := hr1.move (k + 1)
  have hB2 : Bes g w (W.setCell ⟨g, 1, none⟩ (.int .i64 ((k : Int) + 1))) := (Bes.of_bel hb1).setCell 1 _
  have hbox2 : Box (W.setCell ⟨g, 1, none⟩ (.int .i64 ((k : Int) + 1))) w.heap.size 5 [.int .u8 (q.toNat : Int)] := hbox.far (p := ⟨g, 1, none⟩) (fun h => hgn h.symm) _
  generalize W.setCell ⟨g, 1, none⟩ (.int .i64 ((k : Int) + 1)) = W2 at *
  have hl2 : s.data.toList.drop (k + 1) = l := by rw [← List.drop_drop, hl]; rfl
  refine (pass_to g s (k + 1) 173 #[.pointer (some ⟨w.heap.size, 0, none⟩)] (fun c => c != q) l W2 hr2 (by omega) hl2 hs (enters_of Tryz.func173 (by kernel_rfl) rfl) (says_not g s W2 _ q (fun h => hgn h.symm) hbox2)).mono ?_
  rintro e W3 ⟨rfl, k', hk', hr3, hl3, hB3⟩
  have hB := hB2.trans hB3
  have c0 := Box.cell hr3 0 _ rfl
  have c3 := Box.cell hr3 1 _ rfl
  clear hr1 hr2 c1 f1 hbox hbox2 hb1 hB2 hB3
  have hlen3 : s.size - k' = (l.dropWhile (fun c => c != q)).length := by rw [Lib.size_eq, ← List.length_drop, hl3]
  go_wp2_with fail
  go_quiet (fail)
  cases hd : l.dropWhile (fun c => c != q) with
  | nil =>
    have HQ := Lib.hid (show M.quotedA q l = (none, []) by rw [M.quotedA, hd])
    rw [hd, List.length_nil] at hlen3
    obtain rfl : k' = s.size := by omega
    clear hd
    go_wp2_with fail
    go_ret2
    rw [HQ.out]
    refine ⟨rfl, s.size, Nat.le_refl _, Box.drewN hr3 _, ?_, hB.trans (Bes.of_bel ((Bel.refl W3).drewN _))⟩
    rw [List.drop_eq_nil_of_le (by rw [← Lib.size_eq]; exact Nat.le_refl _)]
  | cons x u =>
    have HQ := Lib.hid (show M.quotedA q l = (some (l.takeWhile (fun c => c != q)), u) by rw [M.quotedA, hd])
    rw [hd, List.length_cons] at hlen3
    rw [hd] at hl3
    have hne : ((k' : Int) == (s.size : Int)) = false := by simp; omega
    clear hd
    have hr4 : Rd (W3.drewN nq) g s k' := Box.drewN hr3 _
    have hB4 : Bes g w (W3.drewN nq) := hB.trans (Bes.of_bel ((Bel.refl W3).drewN _))
    generalize W3.drewN nq = W4 at *
    clear c0 c3 hr3 hB
    have c3 := Box.cell hr4 1 _ rfl
    have f3 := Box.frozen hr4 1
    go_wp2_with fail
    go_ret2
    rw [HQ.out]
    refine ⟨rfl, k' + 1, by omega, hr4.move (k' + 1), ?_, hB4.setCell 1 _⟩
    rw [← List.drop_drop, hl3]; rfl
def attrOne (c : UInt8) : Bool := c == 34 || c == 39
theorem value_any (g : Nat) (s : ByteArray) (k : Nat) (l : List UInt8) (w : World) (hr : Rd w g s k) (hk : k ≤ s.size) (hl : s.data.toList.drop k = l) (hs : s.size ≤ 68719476735) :
    Calls Tryz.prog 112 #[.pointer (some ⟨g, 0, none⟩)] w fun e w' => e = .returned (.tuple #[.string ⟨((M.valueA l).1.getD []).toArray⟩, .bool (M.valueA l).1.isSome]) ∧ ∃ k', k' ≤ s.size ∧ Rd w' g s k' ∧ s.data.toList.drop k' = (M.valueA l).2 ∧ Bes g w w' := by
  have hgl : g < w.heap.size := Box.lt hr
  go_enter Tryz.func112, Tryz.ntmps112
  go_wp2_with fail
  refine (pass_to g s k 106 #[] M.white l w hr hk hl hs (enters_of Tryz.func106 (by kernel_rfl) rfl) (says_white g s w)).mono ?_
  rintro e W1 ⟨rfl, k1, hk1, hr1, hl1, hB1⟩
  go_wp2_with fail
  refine (one_any _ _).mono ?_
  rintro e W2 ⟨rfl, rfl⟩
  have hbq := Box.new W1 9 [.string ⟨#[34, 39]⟩]
  have hbb : Bel W1 (W1.alloc (.cells #[.string ⟨#[34, 39]⟩] 9)) := (Bel.refl W1).alloc _
  have hne : W1.heap.size ≠ g := by have := hB1.size; omega
  have hr2 := hr1.bel hbb
  have hB2 := hB1.trans (Bes.of_bel hbb)
  generalize (W1.alloc (.cells #[.string ⟨#[34, 39]⟩] 9)) = W2 at *
  have hq0 : ∃ b, headP attrOne (l.dropWhile M.white) = b := ⟨_, rfl⟩
  obtain ⟨b, hq0⟩ := hq0
  go_wp2_with fail
  refine (here_to g s k1 143 #[.pointer (some ⟨W1.heap.size, 0, none⟩)] attrOne _ b W2 hr2 hk1 hl1 hq0 (enters_of Tryz.func143 (by kernel_rfl) rfl) (says_one g s W2 _ ⟨#[34, 39]⟩ hne hbq attrOne isQuote)).mono ?_
  rintro e W3 ⟨rfl, hr3, hb3⟩
  have hB3 := hB2.trans (Bes.of_bel hb3)
  clear hr hr1 hr2 hB1 hB2 hb3 hbq hbb
  cases b with
  | true =>
    cases hd : l.dropWhile M.white with
    | nil => rw [hd] at hq0; cases hq0
    | cons q t =>
      rw [hd] at hl1 hq0
      have hq1 : q = 34 ∨ q = 39 := by simpa [headP, attrOne] using hq0
      have HV := Lib.hid (show M.valueA l = M.quotedA q t by rw [M.valueA, hd]; simp only; rw [if_pos hq1])
      clear hd
      go_wp2_with fail
      refine (quoted_any g s k1 q t W3 hr3 hk1 hl1 hs).mono ?_
      rintro e W4 ⟨rfl, k4, hk4, hr4, hl4, hB4⟩
      go_wp2_with fail
      go_ret2
      rw [HV.out]
      exact ⟨rfl, k4, hk4, hr4, hl4, hB3.trans hB4⟩
  | false =>
    have HV := Lib.hid (show M.valueA l = (some ((l.dropWhile M.white).takeWhile M.valB), (l.dropWhile M.white).dropWhile M.valB) by
      unfold M.valueA
      cases hd : l.dropWhile M.white with
      | nil => rfl
      | cons q t =>
        rw [hd] at hq0
        have hq1 : ¬ (q = 34 ∨ q = 39) := by simpa [headP, attrOne] using hq0
        simp only
        rw [if_neg hq1])
    go_wp2_with fail
    refine (pass_to g s k1 146 #[] M.valB _ W3 hr3 hk1 hl1 hs (enters_of Tryz.func146 (by kernel_rfl) rfl) (says_val g s W3)).mono ?_
    rintro e W4 ⟨rfl, k4, hk4, hr4, hl4, hB4⟩
    go_wp2_with fail
    go_ret2
    rw [HV.out]
    exact ⟨rfl, k4, hk4, hr4, hl4, hB3.trans hB4⟩
end Go.Proofs.YteingkjdemlhgaaGreatDoor

/-
  Package attr: next.
-/
namespace Go.Proofs.YteingkjdemlhgaaGreatDoor
open Go.RowKit
set_option maxRecDepth 1000000
theorem white_to (c : UInt8) (b : Bool) (h : M.white c = b) (w : World) : Calls Tryz.prog 106 #[.int .u8 (c.toNat : Int)] w fun e w' => e = .returned (.bool b) ∧ w' = w :=
  (white_any c w).mono fun _ _ ⟨h1, h2⟩ => ⟨by rw [h1, h], h2.symm⟩
/-- A byte of a name, the first of which may be a =. -/
def nameP (from_ : Nat) (k : Nat) (c : UInt8) : Bool := !M.white c && ((c.toNat : Int) != 47) && ((c.toNat : Int) != 62) && (((c.toNat : Int) != 61) || ((k : Int) == (from_ : Int)))
theorem says_name (g : Nat) (s : ByteArray) (w : World) (b1 b4 : Nat) (from_ : Nat) (h1 : b1 ≠ g) (h4 : b4 ≠ g) (hx1 : Box w b1 112 [.pointer (some ⟨g, 0, none⟩)]) (hx4 : Box w b4 3 [.int .i64 (from_ : Int)]) :
    Says 109 #[.pointer (some ⟨b1, 0, none⟩), .pointer (some ⟨b4, 0, none⟩)] g s w (nameP from_) := fun W k c hB hR => by
  have c1 := (hB.box hx1 h1).cell 0 _ rfl
  have c4 := (hB.box hx4 h4).cell 0 _ rfl
  have cr := Box.cell hR 1 _ rfl
  show Calls Tryz.prog 109 #[.int .u8 (c.toNat : Int), .pointer (some ⟨b1, 0, none⟩), .pointer (some ⟨b4, 0, none⟩)] W _
  clear hx1 hx4 hB hR
  have H := Lib.hid (show nameP from_ k c = (!M.white c && ((c.toNat : Int) != 47) && ((c.toNat : Int) != 62) && (((c.toNat : Int) != 61) || ((k : Int) == (from_ : Int)))) from rfl)
  cases hw : M.white c with
  | true =>
    have HW := Lib.hid hw
    clear hw
    go_enter Tryz.func109, Tryz.ntmps109
    go_wp2_with fail
    go_quiet (first | (go_at_call 106; exact Calls.quiet_of_same (white_to c _ HW.out _)))
    go_wp2
    go_ret
    exact ⟨by rw [H.out, HW.out]; exact ret_bool (by simp [*]), _, rfl⟩
  | false =>
    have HW := Lib.hid hw
    clear hw
    cases h47 : ((c.toNat : Int) != 47) with
    | false =>
      go_enter Tryz.func109, Tryz.ntmps109
      go_wp2_with fail
      go_quiet (first | (go_at_call 106; exact Calls.quiet_of_same (white_to c _ HW.out _)))
      go_wp2
      go_ret
      exact ⟨by rw [H.out, HW.out]; exact ret_bool (by simp [*]), _, rfl⟩
    | true =>
      cases h62 : ((c.toNat : Int) != 62) with
      | false =>
        go_enter Tryz.func109, Tryz.ntmps109
        go_wp2_with fail
        go_quiet (first | (go_at_call 106; exact Calls.quiet_of_same (white_to c _ HW.out _)))
        go_wp2
        go_ret
        exact ⟨by rw [H.out, HW.out]; exact ret_bool (by simp [*]), _, rfl⟩
      | true =>
        cases h61 : ((c.toNat : Int) != 61) with
        | false =>
          go_enter Tryz.func109, Tryz.ntmps109
          go_wp2_with fail
          go_quiet (first | (go_at_call 106; exact Calls.quiet_of_same (white_to c _ HW.out _)))
          go_wp2
          go_ret
          exact ⟨by rw [H.out, HW.out]; exact ret_bool (by simp [*]), _, rfl⟩
        | true =>
          go_enter Tryz.func109, Tryz.ntmps109
          go_wp2_with fail
          go_quiet (first | (go_at_call 106; exact Calls.quiet_of_same (white_to c _ HW.out _)))
          go_wp2
          go_ret
          exact ⟨by rw [H.out, HW.out]; exact ret_bool (by simp [*]), _, rfl⟩
theorem name_rest (f : Nat) : ∀ (k : Nat) (t : List UInt8), f < k → passN (nameP f) k t = (t.takeWhile M.nameB).length
  | _, [], _ => rfl
  | k, c :: t, h => by
    have e : nameP f k c = M.nameB c := by
      have hkf : ((k : Int) == (f : Int)) = false := by simp; omega
      rw [nameP, hkf, Bool.or_false, M.nameB, Bool.and_assoc, Bool.and_assoc]
      congr 1
      rw [Bool.eq_iff_iff]
      have e47 : UInt8.toNat 47 = 47 := rfl
      have e62 : UInt8.toNat 62 = 62 := rfl
      have e61 : UInt8.toNat 61 = 61 := rfl
      simp only [Bool.and_eq_true, bne_iff_ne, ne_eq, decide_eq_true_eq, ← UInt8.toNat_inj]
      constructor <;> (intro ⟨h1, h2, h3⟩; refine ⟨?_, ?_, ?_⟩ <;> omega)
    rw [passN, List.takeWhile_cons, e]
    split
    · rw [name_rest f (k + 1) t (by omega)]; rfl
    · rfl
theorem name_first (k : Nat) (c : UInt8) (t : List UInt8) (h1 : M.skipB c = false) (h2 : c ≠ 62) : passN (nameP k) k (c :: t) = (t.takeWhile M.nameB).length + 1 := by
  have e : nameP k k c = true := by
    have hkf : ((k : Int) == (k : Int)) = true := by simp
    rw [skip_int, Bool.or_eq_false_iff] at h1
    have h3 : ((c.toNat : Int) != 62) = true := by rw [← end_int]; simpa using h2
    have h4 : ((c.toNat : Int) != 47) = true := by rw [bne, h1.2]; rfl
    rw [nameP, hkf, Bool.or_true, h1.1, h3, h4]; rfl
  rw [passN, if_pos e, name_rest k (k + 1) t (by omega)]
theorem value_len (l : List UInt8) : ((M.valueA l).1.getD []).length ≤ l.length := by
  have h0 := M.dropWhile_le M.white l
  unfold M.valueA
  split
  · exact Nat.zero_le _
  · rename_i q t hq
    rw [hq, List.length_cons] at h0
    split
    · unfold M.quotedA
      have h1 := (List.takeWhile_prefix (fun c => c != q) (l := t)).length_le
      split
      · exact Nat.zero_le _
      · show (t.takeWhile (fun c => c != q)).length ≤ _; omega
    · have h1 := (List.takeWhile_prefix M.valB (l := q :: t)).length_le
      show ((q :: t).takeWhile M.valB).length ≤ _
      rw [List.length_cons] at h1; omega
def agA (o : Option (List UInt8 × List UInt8)) : Value := .agg #[.string ⟨(o.getD ([], [])).1.toArray⟩, .string ⟨(o.getD ([], [])).2.toArray⟩]
set_option maxHeartbeats 4000000 in
theorem next_any (g : Nat) (s : ByteArray) (k : Nat) (l : List UInt8) (w : World) (hr : Rd w g s k) (hk : k ≤ s.size) (hl : s.data.toList.drop k = l) (hs : s.size ≤ 68719476735) :
    Calls Tryz.prog 74 #[.pointer (some ⟨g, 0, none⟩)] w fun e w' => e = .returned (.tuple #[agA (M.nextA l).1, .bool (M.nextA l).1.isSome]) ∧ ∃ k', k' ≤ s.size ∧ Rd w' g s k' ∧ s.data.toList.drop k' = (M.nextA l).2 ∧ Bes g w w' := by
  have hgl : g < w.heap.size := Box.lt hr
  have ne1 : w.heap.size ≠ g := by omega
  have ne2 : w.heap.size + 1 ≠ g := by omega
  have hx : Box ((w.alloc (.cells #[.pointer (some ⟨g, 0, none⟩)] 112)).alloc (.cells #[.string ⟨#[]⟩, .string ⟨#[]⟩] 56)) w.heap.size 112 [.pointer (some ⟨g, 0, none⟩)] := (Box.new w 112 [.pointer (some ⟨g, 0, none⟩)]).bel ((Bel.refl _).alloc _)
  have hy : Box ((w.alloc (.cells #[.pointer (some ⟨g, 0, none⟩)] 112)).alloc (.cells #[.string ⟨#[]⟩, .string ⟨#[]⟩] 56)) (w.heap.size + 1) 56 [.string ⟨#[]⟩, .string ⟨#[]⟩] := by
    have := Box.new (w.alloc (.cells #[.pointer (some ⟨g, 0, none⟩)] 112)) 56 [.string ⟨#[]⟩, .string ⟨#[]⟩]
    rwa [World.size_alloc] at this
  have hb0 : Bel w ((w.alloc (.cells #[.pointer (some ⟨g, 0, none⟩)] 112)).alloc (.cells #[.string ⟨#[]⟩, .string ⟨#[]⟩] 56)) := ((Bel.refl w).alloc _).alloc _
  go_enter Tryz.func74, Tryz.ntmps74
  go_wp2_with fail
  generalize ((w.alloc (.cells #[.pointer (some ⟨g, 0, none⟩)] 112)).alloc (.cells #[.string ⟨#[]⟩, .string ⟨#[]⟩] 56)) = W0 at *
  have hr0 := hr.bel hb0
  have hB := Bes.of_bel (g := g) hb0
  clear hr hb0
  refine (pass_to g s k 105 #[] M.skipB l W0 hr0 hk hl hs (enters_of Tryz.func105 (by kernel_rfl) rfl) (says_skip g s W0)).mono ?_
  rintro e W1 ⟨rfl, k1, hk1, hr1, hl1, hB1⟩
  have hx := hB1.box hx ne1
  have hy := hB1.box hy ne2
  have hB := hB.trans hB1
  have cx := hx.cell 0 _ rfl
  obtain ⟨b, hq0⟩ : ∃ b, headP (fun c => c != 62) (l.dropWhile M.skipB) = b := ⟨_, rfl⟩
  go_wp2_with fail
  refine (here_to g s k1 108 #[] (fun c => c != 62) _ b W1 hr1 hk1 hl1 hq0 (enters_of Tryz.func108 (by kernel_rfl) rfl) (says_end g s W1)).mono ?_
  rintro e W2 ⟨rfl, hr2, hb1⟩
  have hx := hx.bel hb1
  have hy := hy.bel hb1
  have hB := hB.trans (Bes.of_bel hb1)
  have cx := hx.cell 0 _ rfl
  clear hr0 hr1 hB1 hb1
  cases b with
  | false =>
    have HN := Lib.hid (show M.nextA l = (none, l.dropWhile M.skipB) by
      unfold M.nextA
      cases hd : l.dropWhile M.skipB with
      | nil => rfl
      | cons c t =>
        rw [hd] at hq0
        have hc : c = 62 := by simpa [headP] using hq0
        simp only
        rw [if_pos hc])
    have cy0 := hy.cell 0 _ rfl
    have cy1 := hy.cell 1 _ rfl
    have fy0 := hy.frozen 0
    have fy1 := hy.frozen 1
    go_wp2_with fail
    have hz := (hy.set 0 (.string ⟨#[]⟩)).set 1 (.string ⟨#[]⟩)
    have d0 := hz.cell 0 _ rfl
    have d1 := hz.cell 1 _ rfl
    refine bodyPost_ret (v := .tuple #[.agg #[.string ⟨#[]⟩, .string ⟨#[]⟩], .bool false]) (by simp [results, Tryz.results74, go_sem, d0, d1]) rfl ?_
    rw [HN.out]
    refine ⟨rfl, k1, hk1, ?_, hl1, ?_⟩
    · exact Box.far (Box.far hr2 (p := ⟨w.heap.size + 1, 0, none⟩) (fun h => ne2 h.symm) _) (p := ⟨w.heap.size + 1, 1, none⟩) (fun h => ne2 h.symm) _
    · exact (hB.setNew (p := ⟨w.heap.size + 1, 0, none⟩) (Nat.le_succ _) _).setNew (p := ⟨w.heap.size + 1, 1, none⟩) (Nat.le_succ _) _
  | true =>
    cases hd : l.dropWhile M.skipB with
    | nil => rw [hd] at hq0; cases hq0
    | cons c t =>
      rw [hd] at hq0 hl1
      have hc62 : c ≠ 62 := by simpa [headP] using hq0
      have hcs : M.skipB c = false := M.dropWhile_head M.skipB l c (by rw [hd]; rfl)
      have HA := Lib.hid (show M.nextA l = M.afterA (c :: t.takeWhile M.nameB) ((t.dropWhile M.nameB).dropWhile M.white) by
        rw [M.nextA, hd]; simp only; rw [if_neg hc62])
      have hpn := name_first k1 c t hcs hc62
      clear hd hq0 hl
      have c1 := Box.cell hr2 1 _ rfl
      have lx := hx.lt
      have ly := hy.lt
      have lg := Box.lt hr2
      go_wp2_with fail
      have hb1 : Bel W2 (W2.alloc (.cells #[.int .i64 (k1 : Int)] 3)) := (Bel.refl W2).alloc _
      have hx4 := Box.new W2 3 [.int .i64 (k1 : Int)]
      have ne4 : W2.heap.size ≠ g := by omega
      have hr3 := hr2.bel hb1
      have hx := hx.bel hb1
      have hy := hy.bel hb1
      have hB := hB.trans (Bes.of_bel hb1)
      have cx := hx.cell 0 _ rfl
      generalize (W2.alloc (.cells #[.int .i64 (k1 : Int)] 3)) = W3 at *
      have hx4 : Box W3 W2.heap.size 3 [.int .i64 (k1 : Int)] := hx4
      clear hr2 hb1 c1 lx ly lg
      refine (pass_any g s k1 109 #[.pointer (some ⟨w.heap.size, 0, none⟩), .pointer (some ⟨W2.heap.size, 0, none⟩)] (nameP k1) W3 hr3 hk1 hs (enters_of Tryz.func109 (by kernel_rfl) rfl) (says_name g s W3 w.heap.size W2.heap.size k1 ne1 ne4 hx hx4)).mono ?_
      rw [hl1, hpn, List.take_succ_cons, take_while]
      rintro e W4 ⟨rfl, hr4, hB1⟩
      have hx := hB1.box hx ne1
      have hy := hB1.box hy ne2
      have hB := hB.trans hB1
      have cx := hx.cell 0 _ rfl
      have hlen := congrArg List.length hl1
      rw [List.length_drop, ← Lib.size_eq, List.length_cons] at hlen
      have htw := (List.takeWhile_prefix M.nameB (l := t)).length_le
      have hk4 : k1 + ((t.takeWhile M.nameB).length + 1) ≤ s.size := by omega
      have hl4 : s.data.toList.drop (k1 + ((t.takeWhile M.nameB).length + 1)) = t.dropWhile M.nameB := by
        rw [← List.drop_drop, hl1, List.drop_succ_cons, drop_while]
      have hnl : (c :: t.takeWhile M.nameB).length ≤ 68719476735 := by rw [List.length_cons]; omega
      generalize k1 + ((t.takeWhile M.nameB).length + 1) = k4 at *
      clear hr3 hB1 hpn hlen htw hx4
      go_wp2_with fail
      refine (pass_to g s k4 106 #[] M.white _ W4 hr4 hk4 hl4 hs (enters_of Tryz.func106 (by kernel_rfl) rfl) (says_white g s W4)).mono ?_
      rintro e W5 ⟨rfl, k5, hk5, hr5, hl5, hB1⟩
      have hx := hB1.box hx ne1
      have hy := hB1.box hy ne2
      have hB := hB.trans hB1
      have cx := hx.cell 0 _ rfl
      clear hr4 hB1 hl4
      generalize (t.dropWhile M.nameB).dropWhile M.white = l5 at *
      generalize c :: t.takeWhile M.nameB = nm at *
      have lx := hx.lt
      have ly := hy.lt
      have lg := Box.lt hr5
      obtain ⟨b, hq0⟩ : ∃ b, headP (fun c => c == 61) l5 = b := ⟨_, rfl⟩
      have hx4 := Box.new W5 9 [.string ⟨#[61]⟩]
      have ne5 : W5.heap.size ≠ g := by omega
      go_wp2_with fail
      go_cut [26] from 23 to 26 (fun v wx => v = .bool (!b) ∧ Bel W5 wx)
      case first =>
        go_region_with ((first | (go_at_call 110; refine (one_any _ _).mono ?_; rintro e W6 ⟨rfl, rfl⟩) | (go_at_call 107; refine (here_to g s k5 143 #[.pointer (some ⟨W5.heap.size, 0, none⟩)] (fun c => c == 61) l5 b _ (hr5.bel (by repeat (first | exact Bel.refl _ | refine Bel.drewN ?_ _ | refine Bel.drew ?_ | refine Bel.alloc ?_ _ | refine Bel.trans ?_ (by assumption) | refine Bel.setCell ?_ (by simp; omega) _))) hk5 hl5 hq0 (enters_of Tryz.func143 (by kernel_rfl) rfl) (says_one g s _ _ ⟨#[61]⟩ ne5 (Box.bel hx4 (by repeat (first | exact Bel.refl _ | refine Bel.drewN ?_ _ | refine Bel.drew ?_ | refine Bel.alloc ?_ _ | refine Bel.trans ?_ (by assumption) | refine Bel.setCell ?_ (by simp; omega) _))) (fun c => c == 61) isEq)).mono ?_; rintro e W7 ⟨rfl, hr7, hb7⟩)))
        all_goals
          try go_wp2_with fail
          go_meet
          exact ⟨rfl, Bel.trans (by repeat (first | exact Bel.refl _ | refine Bel.drew ?_ | refine Bel.alloc ?_ _)) hb7⟩
      case rest =>
      obtain ⟨rfl, hb1⟩ := hcut
      rename World => W7
      have hr7 := hr5.bel hb1
      have hx := hx.bel hb1
      have hy := hy.bel hb1
      have hB := hB.trans (Bes.of_bel hb1)
      have cx := hx.cell 0 _ rfl
      clear hr5 hb1 hx4 lx ly lg
      cases b with
      | false =>
        have HN := Lib.hid (show M.nextA l = (some (M.fold nm, []), l5) by
          rw [HA.out]
          cases l5 with
          | nil => rfl
          | cons e t =>
            have he : e ≠ 61 := by simpa [headP] using hq0
            rw [M.afterA, if_neg he])
        go_wp2_with fail
        refine (folded_any ⟨nm.toArray⟩ W7 (by rw [size_str]; exact hnl)).mono ?_
        rintro e W8 ⟨rfl, hb1⟩
        have hr8 := hr7.bel hb1
        have hx := hx.bel hb1
        have hy := hy.bel hb1
        have hB := hB.trans (Bes.of_bel hb1)
        have cx := hx.cell 0 _ rfl
        clear hr7 hb1
        have cy0 := hy.cell 0 _ rfl
        have cy1 := hy.cell 1 _ rfl
        have fy0 := hy.frozen 0
        have fy1 := hy.frozen 1
        go_wp2_with fail
        have hz := (hy.set 0 (.string ⟨(M.fold nm).toArray⟩)).set 1 (.string ⟨#[]⟩)
        have d0 := hz.cell 0 _ rfl
        have d1 := hz.cell 1 _ rfl
        refine bodyPost_ret (v := .tuple #[.agg #[.string ⟨(M.fold nm).toArray⟩, .string ⟨#[]⟩], .bool true]) (by simp [results, Tryz.results74, go_sem, d0, d1]) rfl ?_
        rw [HN.out]
        refine ⟨rfl, k5, hk5, ?_, hl5, ?_⟩
        · exact Box.far (Box.far hr8 (p := ⟨w.heap.size + 1, 0, none⟩) (fun h => ne2 h.symm) _) (p := ⟨w.heap.size + 1, 1, none⟩) (fun h => ne2 h.symm) _
        · exact (hB.setNew (p := ⟨w.heap.size + 1, 0, none⟩) (Nat.le_succ _) _).setNew (p := ⟨w.heap.size + 1, 1, none⟩) (Nat.le_succ _) _
      | true =>
        cases l5 with
        | nil => cases hq0
        | cons e5 t5 =>
          have he : e5 = 61 := by simpa [headP] using hq0
          have hlen := congrArg List.length hl5
          rw [List.length_drop, ← Lib.size_eq, List.length_cons] at hlen
          have HV0 := Lib.hid (show M.nextA l = ((M.valueA t5).1.map (fun v => (M.fold nm, M.fold v)), (M.valueA t5).2) by
            rw [HA.out, M.afterA, if_pos he])
          have c1 := Box.cell hr7 1 _ rfl
          have f1 := Box.frozen hr7 1
          clear hq0
          go_wp2_with fail
          have hr8 : Rd (W7.setCell ⟨g, 1, none⟩ (.int .i64 ((k5 : Int) + 1))) g s (k5 + 1) := hr7.move (k5 + 1)
          have hx := Box.far hx (p := ⟨g, 1, none⟩) ne1 (.int .i64 ((k5 : Int) + 1))
          have hy := Box.far hy (p := ⟨g, 1, none⟩) ne2 (.int .i64 ((k5 : Int) + 1))
          have hB := hB.setCell 1 (.int .i64 ((k5 : Int) + 1))
          generalize W7.setCell ⟨g, 1, none⟩ (.int .i64 ((k5 : Int) + 1)) = W8 at *
          have hl8 : s.data.toList.drop (k5 + 1) = t5 := by rw [← List.drop_drop, hl5]; rfl
          clear c1 f1 hr7
          refine (value_any g s (k5 + 1) t5 W8 hr8 (by omega) hl8 hs).mono ?_
          rintro e W9 ⟨rfl, k9, hk9, hr9, hl9, hB1⟩
          have hx := hB1.box hx ne1
          have hy := hB1.box hy ne2
          have hB := hB.trans hB1
          have cx := hx.cell 0 _ rfl
          have hvl := value_len t5
          clear hr8 hB1 hl8 hl5
          cases hv : (M.valueA t5).1 with
          | none =>
            have HN := Lib.hid (show M.nextA l = (none, (M.valueA t5).2) by rw [HV0.out, hv]; rfl)
            clear hv hvl
            have cy0 := hy.cell 0 _ rfl
            have cy1 := hy.cell 1 _ rfl
            have fy0 := hy.frozen 0
            have fy1 := hy.frozen 1
            go_wp2_with fail
            have hz := (hy.set 0 (.string ⟨#[]⟩)).set 1 (.string ⟨#[]⟩)
            have d0 := hz.cell 0 _ rfl
            have d1 := hz.cell 1 _ rfl
            refine bodyPost_ret (v := .tuple #[.agg #[.string ⟨#[]⟩, .string ⟨#[]⟩], .bool false]) (by simp [results, Tryz.results74, go_sem, d0, d1]) rfl ?_
            rw [HN.out]
            refine ⟨rfl, k9, hk9, ?_, hl9, ?_⟩
            · exact Box.far (Box.far hr9 (p := ⟨w.heap.size + 1, 0, none⟩) (fun h => ne2 h.symm) _) (p := ⟨w.heap.size + 1, 1, none⟩) (fun h => ne2 h.symm) _
            · exact (hB.setNew (p := ⟨w.heap.size + 1, 0, none⟩) (Nat.le_succ _) _).setNew (p := ⟨w.heap.size + 1, 1, none⟩) (Nat.le_succ _) _
          | some vv =>
            have HN := Lib.hid (show M.nextA l = (some (M.fold nm, M.fold vv), (M.valueA t5).2) by rw [HV0.out, hv]; rfl)
            rw [hv] at hvl
            have hvl2 : vv.length ≤ t5.length := hvl
            clear hv hvl
            go_wp2_with fail
            refine (folded_any ⟨nm.toArray⟩ W9 (by rw [size_str]; exact hnl)).mono ?_
            rintro e W10 ⟨rfl, hb1⟩
            have hr10 := hr9.bel hb1
            have hx := hx.bel hb1
            have hy := hy.bel hb1
            have hB := hB.trans (Bes.of_bel hb1)
            have cx := hx.cell 0 _ rfl
            clear hr9 hb1
            go_wp2_with fail
            refine (folded_any ⟨vv.toArray⟩ W10 (by rw [size_str]; omega)).mono ?_
            rintro e W11 ⟨rfl, hb1⟩
            have hr11 := hr10.bel hb1
            have hx := hx.bel hb1
            have hy := hy.bel hb1
            have hB := hB.trans (Bes.of_bel hb1)
            have cx := hx.cell 0 _ rfl
            clear hr10 hb1
            have cy0 := hy.cell 0 _ rfl
            have cy1 := hy.cell 1 _ rfl
            have fy0 := hy.frozen 0
            have fy1 := hy.frozen 1
            go_wp2_with fail
            have hz := (hy.set 0 (.string ⟨(M.fold nm).toArray⟩)).set 1 (.string ⟨(M.fold vv).toArray⟩)
            have d0 := hz.cell 0 _ rfl
            have d1 := hz.cell 1 _ rfl
            refine bodyPost_ret (v := .tuple #[.agg #[.string ⟨(M.fold nm).toArray⟩, .string ⟨(M.fold vv).toArray⟩], .bool true]) (by simp [results, Tryz.results74, go_sem, d0, d1]) rfl ?_
            rw [HN.out]
            refine ⟨rfl, k9, hk9, ?_, hl9, ?_⟩
            · exact Box.far (Box.far hr11 (p := ⟨w.heap.size + 1, 0, none⟩) (fun h => ne2 h.symm) _) (p := ⟨w.heap.size + 1, 1, none⟩) (fun h => ne2 h.symm) _
            · exact (hB.setNew (p := ⟨w.heap.size + 1, 0, none⟩) (Nat.le_succ _) _).setNew (p := ⟨w.heap.size + 1, 1, none⟩) (Nat.le_succ _) _
end Go.Proofs.YteingkjdemlhgaaGreatDoor

/-
  Append of one number, and where the new slice lies; a table of the library that stays; numbers in letters.
-/
namespace Go.Proofs.YteingkjdemlhgaaGreatDoor
open Go.RowKit
theorem wpList_appM {P : Program} {w0 : World} {ops : Array Oper} {rest : List Oper} {o : Oper} {a : Act} {Q : Exit → Act → World → Prop} (s x : Operand) (t : TypeId)
    (ho : o.op = .call { callee := .builtin .append, args := #[s, x], argTypes := #[t, t] }) {e : TypeId} {bytes : Nat} (he : Elem P t e bytes) (hby : bytes ≤ 1024)
    (B : Nat) (v : Value) (xs : List Value) (u : Value) (hown : Own B e w0 v xs) (h1 : u.oneCell' = true) (hlen : xs.length < 68719476736) (hB : B ≤ w0.heap.size)
    (hs : a.eval s = v) (hx : a.eval x = .slice (some ⟨w0.heap.size, 0, none⟩) 1 1) (hw : Region.wanted o (yielded ops a.tmps) = true)
    (h : ∀ v' w', Own B e w' v' (xs ++ [u]) → Below B w0 w' → (∀ k, v.ownBlock ≠ some k → k < w0.heap.size → w'.heap[k]? = w0.heap[k]?) → (∀ k, v'.ownBlock = some k → v.ownBlock = some k ∨ w0.heap.size ≤ k) → wpList P ops Q rest (a.put o.dst v') w') : wpList P ops Q (o :: rest) a (w0.alloc (.cells #[u] e)) := by
  refine wpList_wanted hw fun K hK => ?_
  obtain ⟨ht, z, hi, hz⟩ := he
  obtain ⟨i, hi, hz0, hz1, hz2⟩ := info_parts hi
  refine wp_append_lies _ s x t ho B e i z 1 bytes ht hi hz0 hz1 hz2 hz (by decide) v xs.length xs hs (hown.alloc _) ⟨w0.heap.size, 0, none⟩ 1 1 [u] hx (by simp) ?_ (by simpa using h1) (by decide) (by simp only [maxLen]; omega) ?_ (by simp; omega) (w0.alloc (.cells #[u] e)).heap.size rfl ?_
  · intro j u' hj
    rw [add_zero, World.cell?_alloc_new]
    simpa using hj
  · have : (xs.length + 1) * bytes ≤ 68719476736 * 1024 := Nat.mul_le_mul (by omega) hby
    omega
  · intro g cap w' ho' hg' hat _
    refine hK _ _ (h _ w' ?_ ?_ ?_ ?_)
    · show w'.ownsRow B e 1 _ (xs ++ [u]).length (xs ++ [u])
      rw [List.length_append]
      exact ho'
    · exact ((Below.refl B w0).alloc hB _).trans ((Below.refl B _).grown hg' (by simp; omega) (fun k hk => (hown.lt k hk).1))
    · intro k hne hk
      exact (hg'.block k (by simp; omega) (fun e => hne e.symm)).trans (((Bel.refl w0).alloc _).block k hk)
    · intro k hk
      have hgk : g = k := by simpa [Value.ownBlock] using hk
      subst hgk
      rcases hat with h9 | h9
      · exact .inl h9
      · right; rw [h9]; simp
/-- The powers of ten lie where the program's text lays them. -/
def Tab (w : World) : Prop := Lib.TabIs Tryz.prog w "internal/strconv.uint64pow10" .u64 Lib.pow10Tab
theorem gTab : Tryz.prog.globalNamed "internal/strconv.uint64pow10" = some 1 := by kernel_rfl
theorem Tab.bel {w w' : World} (h : Tab w) (hb : Bel w w') : Tab w' := by
  unfold Tab Lib.TabIs World.var? at h ⊢
  rw [gTab] at h ⊢
  simp only [Option.bind_some] at h ⊢
  have hlt : 1 < w.heap.size := by
    by_cases hh : 1 < w.heap.size
    · exact hh
    · rw [Array.getElem?_eq_none (by omega)] at h; cases h
  rw [hb.block _ hlt]
  exact h
theorem dec_len (k : Nat) : ∀ u : Nat, u < 10 ^ (k + 1) → (Lib.decDigits u).length ≤ k + 1 := by
  induction k with
  | zero => intro u hu; rw [Lib.decDigits, dif_pos (by omega)]; exact Nat.le_refl _
  | succ k ih =>
    intro u hu
    rw [Lib.decDigits]
    split
    · simp
    · rw [List.length_append, List.length_singleton]
      have := ih (u / 10) (by rw [Nat.pow_succ] at hu; omega)
      omega
theorem itoa_len (n : Int) (h0 : 0 ≤ n) (h1 : n ≤ 1114111) : (Lib.itoa n).length ≤ 7 := by
  rw [Lib.itoa, if_neg (by omega)]
  exact dec_len 6 _ (by omega)
theorem numE_len (n : Int) (h0 : 0 ≤ n) (h1 : n ≤ 1114111) : (M.numE n).length ≤ 10 := by
  have := itoa_len n h0 h1
  unfold M.numE
  simp only [List.length_append, List.length_cons, List.length_nil]
  omega
theorem itoa_bel (n : Int) (h0 : -9223372036854775808 ≤ n) (h1 : n ≤ 9223372036854775807) (w : World) (h : Tab w) : Calls Tryz.prog 88 #[.int .i64 n] w fun e w' => e = .returned (.string ⟨(Lib.itoa n).toArray⟩) ∧ Bel w w' := by
  refine (Tryz.strconv_Itoa n h0 h1 w h).mono ?_
  rintro e w' ⟨rfl, k, os, rfl⟩
  exact ⟨rfl, rfl, rfl, rfl, by show w.heap.size ≤ (w.heap ++ os).size; rw [Array.size_append]; omega, fun j hj => by show (w.heap ++ os)[j]? = _; rw [Array.getElem?_append_left hj]⟩
end Go.Proofs.YteingkjdemlhgaaGreatDoor

/-
  Lists of attributes: structs of two texts.
-/
namespace Go.Proofs.YteingkjdemlhgaaGreatDoor
open Go.RowKit
def agS (p : List UInt8 × List UInt8) : List Value := [.string ⟨p.1.toArray⟩, .string ⟨p.2.toArray⟩]
def attrCells (xs : List (List UInt8 × List UInt8)) : List Value := xs.flatMap agS
theorem attrCells_at : ∀ (xs : List (List UInt8 × List UInt8)) (k : Nat) (p : List UInt8 × List UInt8), xs[k]? = some p → (attrCells xs)[k * 2]? = some (.string ⟨p.1.toArray⟩) ∧ (attrCells xs)[k * 2 + 1]? = some (.string ⟨p.2.toArray⟩)
  | [], k, p, h => by cases h
  | x :: l, 0, p, h => by injection h with h; subst h; exact ⟨rfl, rfl⟩
  | x :: l, k + 1, p, h => by
    have := attrCells_at l k p h
    rw [show (k + 1) * 2 = k * 2 + 2 by omega, show k * 2 + 2 + 1 = (k * 2 + 1) + 2 by omega]
    exact this
/-- A list of attributes that is the call's own, in a block from B on. -/
def OwnA (B : Nat) (w : World) (v : Value) (xs : List (List UInt8 × List UInt8)) : Prop := w.ownsRow B 56 2 v xs.length (attrCells xs)
theorem OwnA.nil (B : Nat) (w : World) : OwnA B w (.slice none 0 0) [] := World.ownsRow_nil _ _ _ _
theorem OwnA.lt {B : Nat} {w : World} {v : Value} {xs : List (List UInt8 × List UInt8)} (h : OwnA B w v xs) : ∀ k, v.ownBlock = some k → B ≤ k ∧ k < w.heap.size := World.ownsRow.lt h
theorem OwnA.keep {B : Nat} {w w' : World} {v : Value} {xs : List (List UInt8 × List UInt8)} (h : OwnA B w v xs) (hk : ∀ k, v.ownBlock = some k → w'.heap[k]? = w.heap[k]?) : OwnA B w' v xs := by
  refine ⟨h.1, ?_⟩
  rcases h.2 with h2 | ⟨k, cap, cur, r0, r1, r2, r3⟩
  · exact .inl h2
  · exact .inr ⟨k, cap, cur, r0, r1, (hk k (by subst r0; rfl)).trans r2, r3⟩
theorem OwnA.bel {B : Nat} {w w' : World} {v : Value} {xs : List (List UInt8 × List UInt8)} (h : OwnA B w v xs) (hb : Bel w w') : OwnA B w' v xs :=
  h.keep (fun k hk => hb.block k (h.lt k hk).2)
theorem OwnA.mono {B C : Nat} {w : World} {v : Value} {xs : List (List UInt8 × List UInt8)} (h : OwnA B w v xs) (hC : C ≤ B) : OwnA C w v xs := by
  refine ⟨h.1, ?_⟩
  rcases h.2 with h2 | ⟨k, cap, cur, r0, r1, r2⟩
  · exact .inl h2
  · exact .inr ⟨k, cap, cur, r0, Nat.le_trans hC r1, r2⟩
/-- A list of attributes that is read. -/
def AttrSl (w : World) (v : Value) (xs : List (List UInt8 × List UInt8)) : Prop :=
  ∃ a c, v = .slice a xs.length c ∧ xs.length ≤ c ∧ c ≤ maxLen ∧ (a = none → xs = []) ∧ (∀ x, a = some x → xs ≠ [] → ∃ g o, x = ⟨g, o, none⟩ ∧ ∀ i p, xs[i]? = some p → w.cell? ⟨g, o + i * 2, none⟩ = some (.string ⟨p.1.toArray⟩) ∧ w.cell? ⟨g, o + i * 2 + 1, none⟩ = some (.string ⟨p.2.toArray⟩))
theorem AttrSl.bel {w w' : World} {v : Value} {xs : List (List UInt8 × List UInt8)} (h : AttrSl w v xs) (hb : Bel w w') : AttrSl w' v xs := by
  obtain ⟨a, c, h1, h2, h3, h4, h5⟩ := h
  refine ⟨a, c, h1, h2, h3, h4, fun x hx hne => ?_⟩
  obtain ⟨g, o, e, h6⟩ := h5 x hx hne
  refine ⟨g, o, e, fun i p hp => ?_⟩
  obtain ⟨g1, g2⟩ := h6 i p hp
  exact ⟨(hb.cell (World.block_lt_of_cell? w _ g1)).trans g1, (hb.cell (World.block_lt_of_cell? w _ g2)).trans g2⟩
theorem OwnA.sl {B : Nat} {w : World} {v : Value} {xs : List (List UInt8 × List UInt8)} (h : OwnA B w v xs) : AttrSl w v xs := by
  rcases h.2 with ⟨rfl, hn⟩ | ⟨g, cap, cur, rfl, r1, r2, r3, r4, r5, r6⟩
  · have hx : xs = [] := List.eq_nil_of_length_eq_zero hn
    subst hx
    exact ⟨none, 0, rfl, Nat.le_refl _, Nat.zero_le _, fun _ => rfl, fun _ hh _ => by cases hh⟩
  · refine ⟨some ⟨g, 0, none⟩, cap, rfl, r3, r4, (fun hh => by cases hh), fun x hx _ => ⟨g, 0, by injection hx with hx; exact hx.symm, fun i p hp => ?_⟩⟩
    obtain ⟨g1, g2⟩ := attrCells_at xs i p hp
    have k1 := World.ownsRow.cells h (g := g) rfl _ _ g1
    have k2 := World.ownsRow.cells h (g := g) rfl _ _ g2
    rw [add_zero] at k1 k2
    rw [Nat.zero_add]
    exact ⟨k1, k2⟩
theorem attrInfo : ∃ z, (Tryz.prog.info? 56).map (fun i => (i.zero, i.size, i.bytes)) = some (some z, 2, 32) ∧ z.cells.size = 2 := ⟨.agg #[.string ⟨#[]⟩, .string ⟨#[]⟩], by kernel_rfl, rfl⟩
/-- 'out = append(out, a)': the two cells have just been laid. -/
theorem wpList_appA {w0 : World} {ops : Array Oper} {rest : List Oper} {o : Oper} {a : Act} {Q : Exit → Act → World → Prop} (s x : Operand)
    (ho : o.op = .call { callee := .builtin .append, args := #[s, x], argTypes := #[49, 49] })
    (B : Nat) (v : Value) (xs : List (List UInt8 × List UInt8)) (p : List UInt8 × List UInt8) (hown : OwnA B w0 v xs) (hlen : xs.length < 68719476736) (hB : B ≤ w0.heap.size)
    (hs : a.eval s = v) (hx : a.eval x = .slice (some ⟨w0.heap.size, 0, none⟩) 1 1) (hw : Region.wanted o (yielded ops a.tmps) = true)
    (h : ∀ v' w', OwnA B w' v' (xs ++ [p]) → Below B w0 w' → (∀ k, v.ownBlock ≠ some k → k < w0.heap.size → w'.heap[k]? = w0.heap[k]?) → wpList Tryz.prog ops Q rest (a.put o.dst v') w') : wpList Tryz.prog ops Q (o :: rest) a (w0.alloc (.cells #[.string ⟨p.1.toArray⟩, .string ⟨p.2.toArray⟩] 56)) := by
  refine wpList_wanted hw fun K hK => ?_
  obtain ⟨z, hi, hz⟩ := attrInfo
  obtain ⟨i, hi, hz0, hz1, hz2⟩ := info_parts hi
  refine wp_append_own _ s x 49 ho B 56 i z 2 32 Tryz.underlying49 hi hz0 hz1 hz2 hz (by decide) v xs.length (attrCells xs) hs (hown.bel ((Bel.refl w0).alloc _)) ⟨w0.heap.size, 0, none⟩ 1 1 (agS p) hx rfl ?_ ?_ (by simp only [maxLen]; omega) ?_ (by simp; omega) ?_
  · intro j u hj
    rw [add_zero, World.cell?_alloc_new]
    show (agS p).toArray[j]? = _
    rw [List.getElem?_toArray]
    exact hj
  · intro u hu
    simp only [agS, List.mem_cons, List.not_mem_nil, or_false] at hu
    rcases hu with rfl | rfl <;> rfl
  · omega
  · intro v' w' ho' hg' _
    refine hK _ _ (h v' w' ?_ ?_ ?_)
    · show w'.ownsRow B 56 2 v' (xs ++ [p]).length (attrCells (xs ++ [p]))
      rw [List.length_append, show attrCells (xs ++ [p]) = attrCells xs ++ agS p by unfold attrCells; rw [List.flatMap_append]; simp]
      exact ho'
    · exact ((Below.refl B w0).alloc hB _).trans ((Below.refl B _).grown hg' (by simp; omega) (fun k hk => (hown.lt k hk).1))
    · intro k hne hk
      exact (hg'.block k (by simp; omega) (fun e => hne e.symm)).trans (((Bel.refl w0).alloc _).block k hk)
/-- The length of what a machine bears is laid: some number. -/
def Len (w : World) : Prop := ∃ m : Int, w.cell? ⟨0, 0, none⟩ = some (.int .i64 m)
theorem Len.bel {w w' : World} (h : Len w) (hb : Bel w w') : Len w' := by
  obtain ⟨m, hm⟩ := h
  exact ⟨m, (hb.cell (World.block_lt_of_cell? w _ hm)).trans hm⟩
theorem len_of {w : World} (h : w.ShapedOpen Tryz.prog) : Len w := Tryz.laysM143.s1_3 w h
end Go.Proofs.YteingkjdemlhgaaGreatDoor

/-
  Package attr: ready, Next, From, All.
-/
namespace Go.Proofs.YteingkjdemlhgaaGreatDoor
open Go.RowKit
set_option maxRecDepth 1000000
def readyA (s : List UInt8) (at_ : Int) : Int := if 3000 < s.length then 2 else if at_ < 0 ∨ (s.length : Int) < at_ then 3 else 0
theorem readyA_cases (s : ByteArray) (at_ : Int) : (readyA s.data.toList at_ = 2 ∧ 3000 < s.size) ∨ (readyA s.data.toList at_ = 3 ∧ s.size ≤ 3000 ∧ (at_ < 0 ∨ (s.size : Int) < at_)) ∨ (readyA s.data.toList at_ = 0 ∧ s.size ≤ 3000 ∧ ∃ k : Nat, at_ = (k : Int) ∧ k ≤ s.size) := by
  unfold readyA
  rw [← Lib.size_eq]
  by_cases h : 3000 < s.size
  · exact .inl ⟨by rw [if_pos h], h⟩
  · rw [if_neg h]
    by_cases h2 : at_ < 0 ∨ (s.size : Int) < at_
    · exact .inr (.inl ⟨by rw [if_pos h2], by omega, h2⟩)
    · exact .inr (.inr ⟨by rw [if_neg h2], by omega, at_.toNat, by omega, by omega⟩)
theorem ready_any (s : ByteArray) (at_ : Int) (w : World) : Calls Tryz.prog 62 #[.string s, .int .i64 at_] w fun e w' => e = .returned (.int .i64 (readyA s.data.toList at_)) ∧ w = w' := by
  rcases readyA_cases s at_ with ⟨h1, h2⟩ | ⟨h1, h2, h3⟩ | ⟨h1, h2, k, rfl, h3⟩
  · have H := Lib.hid h1
    clear h1
    go_enter Tryz.func62, Tryz.ntmps62
    go_wp2_with fail
    go_ret
    exact ⟨by rw [H.out]; rfl, rfl⟩
  · have H := Lib.hid h1
    clear h1
    by_cases h4 : at_ < 0
    · clear h3
      go_enter Tryz.func62, Tryz.ntmps62
      go_wp2_with fail
      go_ret
      exact ⟨by rw [H.out]; rfl, rfl⟩
    · have h5 : (s.size : Int) < at_ := by omega
      clear h3
      go_enter Tryz.func62, Tryz.ntmps62
      go_wp2_with fail
      go_ret
      exact ⟨by rw [H.out]; rfl, rfl⟩
  · have H := Lib.hid h1
    clear h1
    go_enter Tryz.func62, Tryz.ntmps62
    go_wp2_with fail
    go_ret
    exact ⟨by rw [H.out]; rfl, rfl⟩
theorem at_of (s : ByteArray) (k : Nat) (hk : k ≤ s.size) (r : List UInt8) (h : s.data.toList.drop k = r) : k = s.size - r.length := by
  have := congrArg List.length h
  rw [List.length_drop, ← Lib.size_eq] at this
  omega
theorem nextOk_any (s : ByteArray) (k : Nat) (hk : k ≤ s.size) (hs : s.size ≤ 3000) (o : Option (List UInt8 × List UInt8)) (r : List UInt8) (hn : M.nextA (s.data.toList.drop k) = (o, r)) (h : readyA s.data.toList (k : Int) = 0) (w : World) : Calls Tryz.prog 43 #[.string s, .int .i64 (k : Int)] w fun e w' => e = .returned (.tuple #[agA o, .int .i64 ((s.size - r.length : Nat) : Int), .bool o.isSome, .int .i64 0]) ∧ Bel w w' := by
  have H := Lib.hid h
  have HN := Lib.hid hn
  clear h hn
  have hy : Box ((w.alloc (.cells #[.string ⟨#[]⟩, .string ⟨#[]⟩] 56)).alloc (.cells #[.string s, .int .i64 (k : Int)] 114)) w.heap.size 56 [.string ⟨#[]⟩, .string ⟨#[]⟩] := (Box.new w 56 [.string ⟨#[]⟩, .string ⟨#[]⟩]).bel ((Bel.refl _).alloc _)
  have hr : Rd ((w.alloc (.cells #[.string ⟨#[]⟩, .string ⟨#[]⟩] 56)).alloc (.cells #[.string s, .int .i64 (k : Int)] 114)) (w.heap.size + 1) s k := by
    have := Box.new (w.alloc (.cells #[.string ⟨#[]⟩, .string ⟨#[]⟩] 56)) 114 [.string s, .int .i64 (k : Int)]
    rwa [World.size_alloc] at this
  have hb0 : Bel w ((w.alloc (.cells #[.string ⟨#[]⟩, .string ⟨#[]⟩] 56)).alloc (.cells #[.string s, .int .i64 (k : Int)] 114)) := ((Bel.refl w).alloc _).alloc _
  go_enter Tryz.func43, Tryz.ntmps43
  go_wp2_with (go_at_call 62; refine (ready_any s k _).mono ?_; rintro e w' ⟨rfl, rfl⟩; rw [H.out])
  generalize ((w.alloc (.cells #[.string ⟨#[]⟩, .string ⟨#[]⟩] 56)).alloc (.cells #[.string s, .int .i64 (k : Int)] 114)) = W0 at *
  have nx := next_any (w.heap.size + 1) s k _ W0 hr hk rfl (by omega)
  rw [HN.out] at nx
  refine nx.mono ?_
  rintro e W1 ⟨rfl, k1, hk1, hr1, hl1, hB1⟩
  have hy1 := hB1.box hy (by omega)
  have hb1 : Bel w W1 := hB1.bel hb0 (by omega)
  have hk2 := at_of s k1 hk1 r hl1
  clear hy hr hb0 hB1 nx
  obtain ⟨a1, ha1⟩ : ∃ a1 : ByteArray, a1 = ⟨(o.getD ([], [])).1.toArray⟩ := ⟨_, rfl⟩
  obtain ⟨a2, ha2⟩ : ∃ a2 : ByteArray, a2 = ⟨(o.getD ([], [])).2.toArray⟩ := ⟨_, rfl⟩
  have hag : agA o = .agg #[.string a1, .string a2] := by rw [ha1, ha2]; rfl
  rw [hag]
  obtain ⟨b, hb⟩ : ∃ b, o.isSome = b := ⟨_, rfl⟩
  rw [hb]
  have HAG := Lib.hid hag
  have HB := Lib.hid hb
  have HK := Lib.hid hk2
  clear ha1 ha2 hag hb hk2
  go_wp2_with fail
  have hz : Box (W1.alloc (.cells #[.string a1, .string a2] 56)) W1.heap.size 56 [.string a1, .string a2] := Box.new W1 56 [.string a1, .string a2]
  have hbb : Bel W1 (W1.alloc (.cells #[.string a1, .string a2] 56)) := (Bel.refl W1).alloc _
  have hy2 := hy1.bel hbb
  have hr2 := hr1.bel hbb
  have hb2 := hb1.trans hbb
  have hne1 : W1.heap.size ≠ w.heap.size := by have := hy1.lt; omega
  have hne2 : W1.heap.size ≠ w.heap.size + 1 := by have := Box.lt hr1; omega
  have hne3 : w.heap.size ≠ w.heap.size + 1 := by omega
  clear hy1 hr1 hb1 hbb
  generalize (W1.alloc (.cells #[.string a1, .string a2] 56)) = W2 at *
  generalize W1.heap.size = G at *
  have z0 := hz.cell 0 _ rfl
  have z1 := hz.cell 1 _ rfl
  have r1 := Box.cell hr2 1 _ rfl
  have y0 := hy2.cell 0 _ rfl
  have y1 := hy2.cell 1 _ rfl
  have f0 := hy2.frozen 0
  have f1 := hy2.frozen 1
  go_region
  have hy3 := (hy2.set 0 (.string a1)).set 1 (.string a2)
  have d0 := hy3.cell 0 _ rfl
  have d1 := hy3.cell 1 _ rfl
  go_wp2_with fail
  refine bodyPost_ret (v := .tuple #[.agg #[.string a1, .string a2], .int .i64 (k1 : Int), .bool b, .int .i64 0]) (by simp [results, Tryz.results43, go_sem, d0, d1]) rfl ?_
  rw [HAG.out, HB.out, ← HK.out]
  exact ⟨rfl, ((hb2.setCell (p := ⟨w.heap.size, 0, none⟩) (Nat.le_refl _) _).setCell (p := ⟨w.heap.size, 1, none⟩) (Nat.le_refl _) _).drew⟩
theorem from_any (s : ByteArray) (k : Nat) (hk : k ≤ s.size) (hs : s.size ≤ 3000) (xs : List (List UInt8 × List UInt8)) (r : List UInt8) (hn : M.attrsA (s.data.toList.drop k) = (xs, r)) (w : World) : Calls Tryz.prog 63 #[.string s, .int .i64 (k : Int)] w fun e w' => ∃ v, e = .returned (.tuple #[v, .int .i64 ((s.size - r.length : Nat) : Int)]) ∧ OwnA w.heap.size w' v xs ∧ Bel w w' := by
  have HN := Lib.hid hn
  have hr0 : Rd (w.alloc (.cells #[.string s, .int .i64 (k : Int)] 114)) w.heap.size s k := Box.new w 114 [.string s, .int .i64 (k : Int)]
  have hb0 : Bel w (w.alloc (.cells #[.string s, .int .i64 (k : Int)] 114)) := (Bel.refl w).alloc _
  clear hn
  go_enter Tryz.func63, Tryz.ntmps63
  go_wp2_with fail
  go_loopg [7] (s.size + 1) (fun gg v wr => ∃ (j : Nat) (ys : List (List UInt8 × List UInt8)), j ≤ s.size ∧ s.size - j ≤ gg ∧ Rd wr w.heap.size s j ∧ OwnA (w.heap.size + 1) wr v ys ∧ ys.length + (s.size - j) ≤ s.size ∧ Bel w wr ∧ Hid ((xs, r) = (ys ++ (M.attrsA (s.data.toList.drop j)).1, (M.attrsA (s.data.toList.drop j)).2)))
  case atStart => exact ⟨k, [], hk, by omega, hr0, OwnA.nil _ _, by simp, hb0, Lib.hid (by rw [HN.out]; rfl)⟩
  case round =>
    clear hr0 hb0 hk
    obtain ⟨j, ys, hj, hg, hr, hown, hyl, hb, HJ⟩ := hrel
    have hrl := Box.lt hr
    cases hn : M.nextA (s.data.toList.drop j) with
    | mk o r2 =>
      have nx := next_any w.heap.size s j _ wr hr hj rfl (by omega)
      rw [hn] at nx
      cases o with
      | none =>
        have HA := Lib.hid (M.attrsA_none _ _ hn)
        clear hn
        go_wp2_with fail
        refine nx.mono ?_
        rintro e W1 ⟨rfl, k1, hk1, hr1, hl1, hB1⟩
        have hk2 := at_of s k1 hk1 r2 hl1
        have hlt := Box.lt hr1
        have c1 := Box.cell hr1 1 _ rfl
        have HR := Lib.hid (show (xs, r) = (ys, r2) by have := HJ.out; rw [HA.out] at this; simpa using this)
        have hown1 : OwnA w.heap.size W1 u7 ys := (hown.keep (fun kk hkk => hB1.block kk (hown.lt kk hkk).2 (by have := (hown.lt kk hkk).1; omega))).mono (by omega)
        have hb1 : Bel w W1 := hB1.bel hb (Nat.le_refl _)
        clear nx hr hown hB1 hl1 hr1
        rw [show agA none = .agg #[.string ⟨#[]⟩, .string ⟨#[]⟩] from rfl, show (none : Option (List UInt8 × List UInt8)).isSome = false from rfl]
        go_wp2_with fail
        have c2 : (W1.alloc (.cells #[.string ⟨#[]⟩, .string ⟨#[]⟩] 56)).cell? ⟨w.heap.size, 1, none⟩ = some (.int .i64 (k1 : Int)) := (((Bel.refl W1).alloc _).cell (p := ⟨w.heap.size, 1, none⟩) hlt).trans c1
        have hbb : Bel W1 (W1.alloc (.cells #[.string ⟨#[]⟩, .string ⟨#[]⟩] 56)) := (Bel.refl W1).alloc _
        have hown2 := hown1.bel hbb
        have hb2 := hb1.trans hbb
        clear hown1 hb1 hbb c1
        generalize (W1.alloc (.cells #[.string ⟨#[]⟩, .string ⟨#[]⟩] 56)) = W2 at *
        generalize W1.heap.size = G at *
        go_quiet (fail)
        go_wp2_with fail
        go_ret2
        have h3 := HR.out
        injection h3 with h3 h4
        subst h3; subst h4
        rw [← hk2]
        exact ⟨_, rfl, hown2.bel ((Bel.refl W2).drewN _), hb2.drewN _⟩
      | some p =>
        have HA := Lib.hid (M.attrsA_some _ _ _ hn)
        have hless := M.nextA_less _ _ (by rw [hn])
        rw [hn] at hless
        have hless2 : r2.length < (s.data.toList.drop j).length := hless
        rw [List.length_drop, ← Lib.size_eq] at hless2
        clear hn hless
        go_wp2_with fail
        refine nx.mono ?_
        rintro e W1 ⟨rfl, k1, hk1, hr1, hl1, hB1⟩
        have hl1 : s.data.toList.drop k1 = r2 := hl1
        have hk2 := at_of s k1 hk1 r2 hl1
        have hlt := Box.lt hr1
        have HR := Lib.hid (show (xs, r) = (ys ++ [p] ++ (M.attrsA (s.data.toList.drop k1)).1, (M.attrsA (s.data.toList.drop k1)).2) by
          have := HJ.out
          rw [HA.out] at this
          rw [hl1, this]; simp)
        have hown1 : OwnA (w.heap.size + 1) W1 u7 ys := hown.keep (fun kk hkk => hB1.block kk (hown.lt kk hkk).2 (by have := (hown.lt kk hkk).1; omega))
        have hb1 : Bel w W1 := hB1.bel hb (Nat.le_refl _)
        clear nx hr hown hB1 HJ
        rw [show agA (some p) = .agg #[.string ⟨p.1.toArray⟩, .string ⟨p.2.toArray⟩] from rfl, show (some p).isSome = true from rfl]
        have hbb : Bel W1 (W1.alloc (.cells #[.string ⟨p.1.toArray⟩, .string ⟨p.2.toArray⟩] 56)) := (Bel.refl W1).alloc _
        have hsz : (W1.alloc (.cells #[.string ⟨p.1.toArray⟩, .string ⟨p.2.toArray⟩] 56)).heap.size = W1.heap.size + 1 := World.size_alloc _ _
        have hown2 := hown1.bel hbb
        go_wp2_with (at_builtin; refine wpList_appA (.tmp 26) (.tmp 28) rfl (w.heap.size + 1) u7 ys p hown2 (by omega) (by rw [hsz]; omega) rfl (by rw [hsz]; rfl) rfl ?_; intro v' w5 hown5 hb5 hk5)
        have hr5 : Rd w5 w.heap.size s k1 := Box.upto (hr1.bel hbb) hb5 (by omega)
        have hb6 : Bel w w5 := Bel.upto (hb1.trans hbb) hb5 (by omega)
        go_roundg (s.size - k1)
        case measure => omega
        case rel => exact ⟨k1, ys ++ [p], hk1, Nat.le_refl _, hr5, hown5, by rw [List.length_append, List.length_singleton]; omega, hb6, HR⟩
end Go.Proofs.YteingkjdemlhgaaGreatDoor

/-
  Labels: the table by places.
-/
namespace Go.Proofs.YteingkjdemlhgaaGreatDoor.M
open Go
def labelAt (j : Nat) : Bs × Int := labels.getD j ([], 0)
theorem labels_len : labels.length = 22 := rfl
theorem labelAt_eq (j : Nat) (h : j < labels.length) : labels[j] = labelAt j := by
  unfold labelAt; rw [List.getD_eq_getElem?_getD, List.getElem?_eq_getElem h]; rfl
theorem find_first (name : Bs) (k : Nat) (hk : k < 22) (h : ((labelAt k).1 == name) = true) (hno : ∀ j, j < k → ((labelAt j).1 == name) = false) : find0 name = (labelAt k).2 := by
  have e : labels.find? (fun x => x.1 == name) = some (labelAt k) := by
    rw [List.find?_eq_some_iff_getElem]
    refine ⟨h, k, labels_len ▸ hk, labelAt_eq k _, fun j hj => ?_⟩
    rw [labelAt_eq j, hno j hj]; rfl
  rw [find0, e]
theorem find_none (name : Bs) (hno : ∀ j, j < 22 → ((labelAt j).1 == name) = false) : find0 name = 0 := by
  have e : labels.find? (fun x => x.1 == name) = none := by
    rw [List.find?_eq_none]
    intro x hx
    obtain ⟨j, hj, rfl⟩ := List.getElem_of_mem hx
    rw [labelAt_eq j hj, hno j (labels_len ▸ hj)]; decide
  rw [find0, e]
end Go.Proofs.YteingkjdemlhgaaGreatDoor.M

/-
  Package label: Labels, Of, Trim, Fold, Find, Name.
-/
namespace Go.Proofs.YteingkjdemlhgaaGreatDoor
open Go.RowKit
set_option maxRecDepth 1000000
def labelCells : List Value := M.labels.flatMap (fun x => [.string ⟨x.1.toArray⟩, .int .i64 x.2])
theorem labelCells_at : ∀ (l : List (List UInt8 × Int)) (j : Nat), j < l.length → (l.flatMap (fun x => [Value.string ⟨x.1.toArray⟩, .int .i64 x.2]))[0 + j * 2]? = some (.string ⟨(l.getD j ([], 0)).1.toArray⟩) ∧ (l.flatMap (fun x => [Value.string ⟨x.1.toArray⟩, .int .i64 x.2]))[0 + j * 2 + 1]? = some (.int .i64 (l.getD j ([], 0)).2)
  | [], j, h => by simp at h
  | x :: l, 0, h => ⟨rfl, rfl⟩
  | x :: l, j + 1, h => by
    have := labelCells_at l j (by simpa using h)
    rw [show 0 + (j + 1) * 2 = (0 + j * 2) + 2 by omega, show (0 + j * 2) + 2 + 1 = (0 + j * 2 + 1) + 2 by omega]
    exact this
set_option maxHeartbeats 2000000 in
theorem labels_run (w : World) : Calls Tryz.prog 120 #[] w fun e w' => e = .returned (.slice (some ⟨w.heap.size, 0, none⟩) 22 22) ∧ w.alloc (.cells labelCells.toArray 146) = w' := by
  go_enter Tryz.func120, Tryz.ntmps120
  go_wp2
  go_ret
  exact ⟨rfl, rfl⟩
theorem labels_any (w : World) : Calls Tryz.prog 120 #[] w fun e w' => e = .returned (.slice (some ⟨w.heap.size, 0, none⟩) 22 22) ∧ (∀ j, j < 22 → w'.cell? ⟨w.heap.size, 0 + j * 2, none⟩ = some (.string ⟨(M.labelAt j).1.toArray⟩) ∧ w'.cell? ⟨w.heap.size, 0 + j * 2 + 1, none⟩ = some (.int .i64 (M.labelAt j).2)) ∧ Bel w w' ∧ w.heap.size < w'.heap.size := by
  refine (labels_run w).mono ?_
  rintro e w' ⟨rfl, rfl⟩
  refine ⟨rfl, fun j hj => ?_, (by repeat (first | exact Bel.refl _ | refine Bel.drewN ?_ _ | refine Bel.drew ?_ | refine Bel.alloc ?_ _ | refine Bel.trans ?_ (by assumption) | refine Bel.setCell ?_ (by simp; omega) _)), by simp⟩
  obtain ⟨h1, h2⟩ := labelCells_at M.labels j hj
  rw [World.cell?_alloc_new, World.cell?_alloc_new, List.getElem?_toArray, List.getElem?_toArray]
  exact ⟨h1, h2⟩
end Go.Proofs.YteingkjdemlhgaaGreatDoor

/-
  Package label: Of, Trim, Fold, Find, Name.
-/
namespace Go.Proofs.YteingkjdemlhgaaGreatDoor
open Go.RowKit
set_option maxRecDepth 1000000
theorem of1_any (nm a : ByteArray) (n : Int) (g : Nat) (w : World) (hc : w.cell? ⟨g, 0, none⟩ = some (.string nm)) (hg : g < w.heap.size) : Calls Tryz.prog 141 #[.agg #[.string a, .int .i64 n], .pointer (some ⟨g, 0, none⟩)] w fun e w' => e = .returned (.bool (a.toList == nm.toList)) ∧ Bel w w' := by
  go_enter Tryz.func141, Tryz.ntmps141
  have hne : g ≠ w.heap.size := by omega
  go_wp2
  all_goals (go_ret; exact ⟨by simp_all, (by repeat (first | exact Bel.refl _ | refine Bel.drewN ?_ _ | refine Bel.drew ?_ | refine Bel.alloc ?_ _ | refine Bel.trans ?_ (by assumption) | refine Bel.setCell ?_ (by simp; omega) _))⟩)
theorem of_any (s : ByteArray) (w : World) (hs : s.size ≤ 68719476735) : Calls Tryz.prog 102 #[.string s] w fun e w' => e = .returned (.int .i64 (M.find s.data.toList)) ∧ Bel w w' := by
  have HF := Lib.hid (M.find_first (M.fold (M.trim s.data.toList)))
  have HN := Lib.hid (M.find_none (M.fold (M.trim s.data.toList)))
  have HL := Lib.hid (M.trim_len s.data.toList)
  have HS := Lib.hid (Lib.size_eq s)
  go_enter Tryz.func102, Tryz.ntmps102
  go_wp2_with (first | (go_at_call 120; refine (labels_any _).mono ?_; rintro e w' ⟨rfl, hc, b1, hg1⟩) | (go_at_call 139; refine (trimmed_any s _ (by omega)).mono ?_; rintro e w' ⟨rfl, b2⟩) | (go_at_call 111; refine (folded_any _ _ (by rw [size_str]; have := HL.out; rw [← HS.out] at this; omega)).mono ?_; rintro e w' ⟨rfl, b3⟩))
  have bA := b2.trans b3
  have h22 : (22 : Nat) ≤ 9223372036854775807 := by decide
  refine (ixLabel w.heap.size 0 22 22 (fun j => (.string ⟨(M.labelAt j).1.toArray⟩, .int .i64 (M.labelAt j).2)) (fun j => (M.labelAt j).1 == M.fold (M.trim s.data.toList)) 141 #[.pointer (some ⟨w'.heap.size, 0, none⟩)] (enters_of Tryz.func141 (by kernel_rfl) rfl) _ ?_ h22 ?_ ?_).mono ?_
  · intro W j hj hB
    rw [World.size_alloc] at hB
    refine (of1_any ⟨(M.fold (M.trim s.data.toList)).toArray⟩ ⟨(M.labelAt j).1.toArray⟩ (M.labelAt j).2 w'.heap.size W ?_ ?_).mono ?_
    · rw [hB.cell (p := ⟨w'.heap.size, 0, none⟩) (by simp), cell_new]
    · have := hB.size; simp at this; omega
    · rintro e w3 ⟨rfl, b4⟩
      refine ⟨?_, by rw [World.size_alloc]; exact hB.trans (b4.mono (by have := hB.size; simp at this; omega))⟩
      rw [Lib.toList_data, Lib.toList_data]
  · have := bA.size; simp; omega
  · intro j hj
    obtain ⟨c1, c2⟩ := hc j hj
    have bB := bA.alloc (.cells #[.string ⟨(M.fold (M.trim s.data.toList)).toArray⟩] 9)
    exact ⟨(bB.cell (p := ⟨w.heap.size, 0 + j * 2, none⟩) hg1).trans c1, (bB.cell (p := ⟨w.heap.size, 0 + j * 2 + 1, none⟩) hg1).trans c2⟩
  rintro e w4 ⟨⟨r, rfl, hr⟩, b4⟩
  have bB := (bA.alloc (.cells #[.string ⟨(M.fold (M.trim s.data.toList)).toArray⟩] 9)).trans b4
  rcases hr with ⟨rfl, hno⟩ | ⟨k, hk, rfl, hyes, hno⟩
  · have HE := Lib.hid (HN.out hno)
    clear hc hno
    go_wp2
    go_ret
    exact ⟨by rw [M.find, HE.out]; rfl, b1.trans bB⟩
  · have HE := Lib.hid (HF.out k hk hyes hno)
    have hcell : w4.cell? ⟨w.heap.size, k * 2 + 1, none⟩ = some (.int .i64 (M.labelAt k).2) := by
      have := (bB.cell (p := ⟨w.heap.size, 0 + k * 2 + 1, none⟩) hg1).trans (hc k hk).2
      rwa [Nat.zero_add] at this
    clear hc hno hyes
    go_wp2
    go_ret
    exact ⟨by rw [M.find, HE.out]; rfl, b1.trans bB⟩
end Go.Proofs.YteingkjdemlhgaaGreatDoor

/-
  Package attr: All, charset, Told, Charset.
-/
namespace Go.Proofs.YteingkjdemlhgaaGreatDoor
open Go.RowKit
set_option maxRecDepth 1000000
theorem allBad_any (s : ByteArray) (at_ : Int) (x : Int) (hx : (x != 0) = true) (h : readyA s.data.toList at_ = x) (w : World) : Calls Tryz.prog 27 #[.string s, .int .i64 at_] w fun e w' => e = .returned (.tuple #[.slice none 0 0, .int .i64 0, .int .i64 x]) ∧ Bel w w' := by
  have H := Lib.hid h
  clear h
  go_enter Tryz.func27, Tryz.ntmps27
  go_wp2_with (go_at_call 62; refine (ready_any s at_ _).mono ?_; rintro e w' ⟨rfl, rfl⟩; rw [H.out])
  exact bodyPost_ret (v := .tuple #[.slice none 0 0, .int .i64 0, .int .i64 x]) (by simp [results, Tryz.results27, go_sem]) rfl ⟨rfl, Bel.refl w⟩
theorem allOk_any (s : ByteArray) (k : Nat) (hk : k ≤ s.size) (hs : s.size ≤ 3000) (xs : List (List UInt8 × List UInt8)) (r : List UInt8) (hn : M.attrsA (s.data.toList.drop k) = (xs, r)) (h : readyA s.data.toList (k : Int) = 0) (w : World) : Calls Tryz.prog 27 #[.string s, .int .i64 (k : Int)] w fun e w' => ∃ v, e = .returned (.tuple #[v, .int .i64 ((s.size - r.length : Nat) : Int), .int .i64 0]) ∧ OwnA w.heap.size w' v xs ∧ Bel w w' := by
  have H := Lib.hid h
  have HN := Lib.hid hn
  clear h hn
  go_enter Tryz.func27, Tryz.ntmps27
  go_wp2_with (first | (go_at_call 62; refine (ready_any s k _).mono ?_; rintro e w' ⟨rfl, rfl⟩; rw [H.out]) | (go_at_call 63; refine (from_any s k hk hs xs r HN.out _).mono ?_; rintro e w' ⟨v, rfl, hown, hb⟩))
  exact bodyPost_ret (v := .tuple #[v, .int .i64 ((s.size - r.length : Nat) : Int), .int .i64 0]) (by simp [results, Tryz.results27, go_sem]) rfl ⟨v, rfl, hown, hb⟩
theorem charset_any (g : Nat) (s : ByteArray) (k : Nat) (l : List UInt8) (w : World) (hr : Rd w g s k) (hk : k ≤ s.size) (hl : s.data.toList.drop k = l) (hs : s.size ≤ 68719476735) :
    Calls Tryz.prog 114 #[.pointer (some ⟨g, 0, none⟩)] w fun e w' => e = .returned (.int .i64 (M.charOf l)) ∧ Bes g w w' := by
  have hgl : g < w.heap.size := Box.lt hr
  have hll : l.length ≤ s.size := by rw [← hl, List.length_drop, ← Lib.size_eq]; omega
  go_enter Tryz.func114, Tryz.ntmps114
  go_wp2_with fail
  refine (pass_to g s k 106 #[] M.white l w hr hk hl hs (enters_of Tryz.func106 (by kernel_rfl) rfl) (says_white g s w)).mono ?_
  rintro e W1 ⟨rfl, k1, hk1, hr1, hl1, hB1⟩
  go_wp2_with fail
  refine (one_any _ _).mono ?_
  rintro e W2 ⟨rfl, rfl⟩
  have hbq := Box.new W1 9 [.string ⟨#[34, 39]⟩]
  have hbb : Bel W1 (W1.alloc (.cells #[.string ⟨#[34, 39]⟩] 9)) := (Bel.refl W1).alloc _
  have hne : W1.heap.size ≠ g := by have := hB1.size; omega
  have hr2 := hr1.bel hbb
  have hB2 := hB1.trans (Bes.of_bel hbb)
  generalize (W1.alloc (.cells #[.string ⟨#[34, 39]⟩] 9)) = W2 at *
  have hq0 : ∃ b, headP attrOne (l.dropWhile M.white) = b := ⟨_, rfl⟩
  obtain ⟨b, hq0⟩ := hq0
  go_wp2_with fail
  refine (here_to g s k1 143 #[.pointer (some ⟨W1.heap.size, 0, none⟩)] attrOne _ b W2 hr2 hk1 hl1 hq0 (enters_of Tryz.func143 (by kernel_rfl) rfl) (says_one g s W2 _ ⟨#[34, 39]⟩ hne hbq attrOne isQuote)).mono ?_
  rintro e W3 ⟨rfl, hr3, hb3⟩
  have hB3 := hB2.trans (Bes.of_bel hb3)
  have hdl := M.dropWhile_le M.white l
  clear hr hr1 hr2 hB1 hB2 hb3 hbq hbb
  cases b with
  | true =>
    cases hd : l.dropWhile M.white with
    | nil => rw [hd] at hq0; cases hq0
    | cons q t =>
      rw [hd] at hl1 hq0 hdl
      rw [List.length_cons] at hdl
      have hq1 : q = 34 ∨ q = 39 := by simpa [headP, attrOne] using hq0
      have hvl : ((M.quotedA q t).1.getD []).length ≤ t.length := by
        unfold M.quotedA
        have h1 := (List.takeWhile_prefix (fun c => c != q) (l := t)).length_le
        split
        · exact Nat.zero_le _
        · exact h1
      have qq := quoted_any g s k1 q t W3 hr3 hk1 hl1 hs
      cases ho : (M.quotedA q t).1 with
      | none =>
        have HV := Lib.hid (show M.charOf l = 0 by rw [M.charOf, hd]; simp only; rw [if_pos hq1, ho])
        rw [ho] at qq
        clear hvl ho hd
        go_wp2_with fail
        refine qq.mono ?_
        rintro e W4 ⟨rfl, k4, hk4, hr4, hl4, hB4⟩
        go_wp2_with fail
        go_ret
        rw [HV.out]
        exact ⟨rfl, hB3.trans hB4⟩
      | some v =>
        have HV := Lib.hid (show M.charOf l = M.find v by rw [M.charOf, hd]; simp only; rw [if_pos hq1, ho])
        rw [ho] at qq hvl
        have hvl2 : v.length ≤ t.length := hvl
        clear hvl ho hd
        go_wp2_with fail
        refine qq.mono ?_
        rintro e W4 ⟨rfl, k4, hk4, hr4, hl4, hB4⟩
        go_wp2_with fail
        refine (of_any ⟨v.toArray⟩ W4 (by rw [size_str]; omega)).mono ?_
        rintro e W5 ⟨rfl, hb5⟩
        go_wp2_with fail
        go_ret
        rw [HV.out]
        exact ⟨rfl, (hB3.trans hB4).trans (Bes.of_bel hb5)⟩
  | false =>
    have HV := Lib.hid (show M.charOf l = M.find ((l.dropWhile M.white).takeWhile M.labB) by
      unfold M.charOf
      cases hd : l.dropWhile M.white with
      | nil => rfl
      | cons q t =>
        rw [hd] at hq0
        have hq1 : ¬ (q = 34 ∨ q = 39) := by simpa [headP, attrOne] using hq0
        simp only
        rw [if_neg hq1])
    have htl := (List.takeWhile_prefix M.labB (l := l.dropWhile M.white)).length_le
    go_wp2_with fail
    refine (pass_to g s k1 148 #[] M.labB _ W3 hr3 hk1 hl1 hs (enters_of Tryz.func148 (by kernel_rfl) rfl) (says_lab g s W3)).mono ?_
    rintro e W4 ⟨rfl, k4, hk4, hr4, hl4, hB4⟩
    go_wp2_with fail
    refine (of_any _ W4 (by rw [size_str]; omega)).mono ?_
    rintro e W5 ⟨rfl, hb5⟩
    go_wp2_with fail
    go_ret
    rw [HV.out]
    exact ⟨rfl, (hB3.trans hB4).trans (Bes.of_bel hb5)⟩
theorem index_cases (s sub : List UInt8) (hsub : sub ≠ []) : (Lib.index s sub = -1 ∧ ∀ j, Lib.hasPrefix (s.drop j) sub = false) ∨ ∃ i : Nat, i + sub.length ≤ s.length ∧ Lib.index s sub = (i : Int) ∧ Lib.hasPrefix (s.drop i) sub = true ∧ ∀ j, j < i → Lib.hasPrefix (s.drop j) sub = false := by
  have key : ∀ n : Nat, (∀ j, j < n → Lib.occAt s sub j = false) ∨ ∃ i, Lib.occAt s sub i = true ∧ ∀ j, j < i → Lib.occAt s sub j = false := by
    intro n
    induction n with
    | zero => exact .inl (fun j hj => absurd hj (Nat.not_lt_zero _))
    | succ n ih =>
      rcases ih with ih | ih
      · cases ho : Lib.occAt s sub n with
        | true => exact .inr ⟨n, ho, ih⟩
        | false =>
          refine .inl (fun j hj => ?_)
          by_cases e : j = n
          · subst e; exact ho
          · exact ih j (by omega)
      · exact .inr ih
  rcases key (s.length + 1) with h | ⟨i, h1, h2⟩
  · left
    refine ⟨Lib.index_none (fun j hj => h j (by omega)), fun j => ?_⟩
    by_cases hj : j ≤ s.length
    · exact h j (by omega)
    · cases ho : Lib.occAt s sub j with
      | false => exact ho
      | true =>
        rcases Lib.occAt_room ho with h3 | h3
        · omega
        · exact absurd h3 hsub
  · right
    rcases Lib.occAt_room h1 with h3 | h3
    · exact ⟨i, h3, Lib.index_first (by omega) h1 h2, h1, h2⟩
    · exact absurd h3 hsub
theorem fold_drop (l : List UInt8) (k : Nat) : (M.fold l).drop k = M.fold (l.drop k) := by unfold M.fold; rw [List.map_drop]
theorem told_any2 (s : ByteArray) (hs : s.size ≤ 3000) (w : World) (hL : Len w) : Calls Tryz.prog 75 #[.string s] w fun e w' => e = .returned (.int .i64 (M.charA s.data.toList)) ∧ Bel w w' := by
  have hr0 : Rd (w.alloc (.cells #[.string s, .int .i64 0] 114)) w.heap.size s 0 := Box.new w 114 [.string s, .int .i64 0]
  have hb0 : Bel w (w.alloc (.cells #[.string s, .int .i64 0] 114)) := (Bel.refl w).alloc _
  go_enter Tryz.func75, Tryz.ntmps75
  go_wp2_with fail
  generalize (w.alloc (.cells #[.string s, .int .i64 0] 114)) = W0 at *
  refine (folded_any s W0 (by omega)).mono ?_
  rintro e W1 ⟨rfl, hb1⟩
  have hr1 := hr0.bel hb1
  have hb2 := hb0.trans hb1
  clear hr0 hb0 hb1
  obtain ⟨low, hlow⟩ : ∃ low : ByteArray, low = ⟨(M.fold s.data.toList).toArray⟩ := ⟨_, rfl⟩
  have HLW := Lib.hid (show low.data.toList = M.fold s.data.toList by rw [hlow])
  have hls : low.size = s.size := by rw [Lib.size_eq, HLW.out, M.fold_len, ← Lib.size_eq]
  rw [← hlow]
  clear hlow
  go_wp2_with fail
  go_loopg [5] (s.size + 1) (fun gg _ wr => ∃ (j : Nat), j ≤ s.size ∧ s.size - j ≤ gg ∧ Rd wr w.heap.size s j ∧ Bel w wr ∧ Hid (M.charA s.data.toList = M.charA (s.data.toList.drop j)))
  case atStart => exact ⟨0, by omega, by omega, hr1, hb2, Lib.hid rfl⟩
  case round =>
    clear hr1 hb2
    obtain ⟨j, hj, hg, hr, hb, HJ⟩ := hrel
    have hrl := Box.lt hr
    have c1 := Box.cell hr 1 _ rfl
    have hbd : (0 : Int) ≤ (j : Int) ∧ (j : Int) ≤ (low.size : Int) := by omega
    obtain ⟨m, hm⟩ := hL.bel hb
    have HD := Lib.hid (show (low.extract j low.size).data.toList = M.fold (s.data.toList.drop j) by rw [drop_str, HLW.out, fold_drop])
    have hds : (low.extract j low.size).size = s.size - j := by rw [drop_size, hls]
    have hix := Tryz.strings_Index (low.extract j low.size) ⟨#[99, 104, 97, 114, 115, 101, 116]⟩ m wr (by omega) hm
    rw [HD.out, hls] at hix
    go_wp2_with fail
    rcases index_cases (M.fold (s.data.toList.drop j)) [99, 104, 97, 114, 115, 101, 116] (by decide) with ⟨hi, hno⟩ | ⟨i, hil, hi, hyes, hno⟩
    · rw [hi] at hix
      have HR := Lib.hid (show M.charA s.data.toList = 0 by
        rw [HJ.out, M.charA_skip (s.data.toList.drop j).length _ (fun q _ => by have := hno q; rw [fold_drop] at this; exact this), List.drop_length]; rfl)
      clear hno hi
      refine hix.mono ?_
      rintro e W2 ⟨rfl, rfl⟩
      go_wp2_with fail
      go_ret
      rw [HR.out]
      exact ⟨rfl, hb⟩
    · rw [hi] at hix
      rw [M.fold_len, List.length_drop, ← Lib.size_eq] at hil
      have hil2 : i + 7 ≤ s.size - j := hil
      have HR := Lib.hid (show M.charA s.data.toList = M.charA (s.data.toList.drop (j + i)) by
        rw [HJ.out, M.charA_skip i _ (fun q hq => by have := hno q hq; rw [fold_drop] at this; exact this), List.drop_drop])
      have hpre : Lib.hasPrefix (M.fold (s.data.toList.drop (j + i))) M.charset7 = true := by
        have := hyes
        rw [fold_drop, List.drop_drop] at this
        exact this
      obtain ⟨c0, t0, hct⟩ : ∃ c t, s.data.toList.drop (j + i) = c :: t := by
        cases hd : s.data.toList.drop (j + i) with
        | nil =>
          have := congrArg List.length hd
          rw [List.length_drop, ← Lib.size_eq, List.length_nil] at this
          omega
        | cons c t => exact ⟨c, t, rfl⟩
      rw [hct] at HR hpre
      have h7 : s.data.toList.drop (j + (i + 7)) = (c0 :: t0).drop 7 := by rw [← hct, List.drop_drop, Nat.add_assoc]
      have f1 := Box.frozen hr 1
      have HP := Lib.hid hpre
      clear hno hi hyes hil hct hpre
      refine hix.mono ?_
      rintro e W2 ⟨rfl, rfl⟩
      go_wp2_with fail
      have hr3 : Rd (W2.setCell ⟨w.heap.size, 1, none⟩ (.int .i64 ((j : Int) + ((i : Int) + 7)))) w.heap.size s (j + (i + 7)) := hr.move (j + (i + 7))
      have hb3 : Bel w (W2.setCell ⟨w.heap.size, 1, none⟩ (.int .i64 ((j : Int) + ((i : Int) + 7)))) := hb.setCell (p := ⟨w.heap.size, 1, none⟩) (Nat.le_refl _) _
      generalize (W2.setCell ⟨w.heap.size, 1, none⟩ (.int .i64 ((j : Int) + ((i : Int) + 7)))) = W3 at *
      clear hr hb c1 hm hix f1
      refine (pass_to w.heap.size s (j + (i + 7)) 106 #[] M.white _ W3 hr3 (by omega) h7 (by omega) (enters_of Tryz.func106 (by kernel_rfl) rfl) (says_white w.heap.size s W3)).mono ?_
      rintro e W4 ⟨rfl, k4, hk4, hr4, hl4, hB4⟩
      have hb4 : Bel w W4 := hB4.bel hb3 (Nat.le_refl _)
      have hlen4 := at_of s k4 hk4 _ hl4
      have hdl := M.dropWhile_le M.white ((c0 :: t0).drop 7)
      have hl7 := congrArg List.length h7
      rw [List.length_drop, ← Lib.size_eq] at hl7
      have hk47 : j + 7 ≤ k4 := by omega
      have HK4 := Lib.hid hlen4
      clear hlen4 hdl hl7
      clear hr3 hb3 hB4
      go_wp2_with fail
      refine (one_any _ _).mono ?_
      rintro e W5 ⟨rfl, rfl⟩
      have hbq := Box.new W4 9 [.string ⟨#[61]⟩]
      have hbb : Bel W4 (W4.alloc (.cells #[.string ⟨#[61]⟩] 9)) := (Bel.refl W4).alloc _
      have hne : W4.heap.size ≠ w.heap.size := by have := Box.lt hr4; omega
      have hr5 := hr4.bel hbb
      have hb5 := hb4.trans hbb
      generalize (W4.alloc (.cells #[.string ⟨#[61]⟩] 9)) = W5 at *
      have hq0 : ∃ b, headP (fun c => c == 61) (((c0 :: t0).drop 7).dropWhile M.white) = b := ⟨_, rfl⟩
      obtain ⟨b, hq0⟩ := hq0
      go_wp2_with fail
      refine (here_to w.heap.size s k4 143 #[.pointer (some ⟨W4.heap.size, 0, none⟩)] (fun c => c == 61) _ b W5 hr5 hk4 hl4 hq0 (enters_of Tryz.func143 (by kernel_rfl) rfl) (says_one w.heap.size s W5 _ ⟨#[61]⟩ hne hbq (fun c => c == 61) isEq)).mono ?_
      rintro e W6 ⟨rfl, hr6, hb6⟩
      have hbw := hb5.trans hb6
      clear hr4 hb4 hr5 hb5 hb6 hbq hbb
      cases b with
      | true =>
        cases hd : ((c0 :: t0).drop 7).dropWhile M.white with
        | nil => rw [hd] at hq0; cases hq0
        | cons e5 u5 =>
          rw [hd] at hq0 hl4 HK4
          have he : e5 = 61 := by simpa [headP] using hq0
          have HC := Lib.hid (show M.charA s.data.toList = M.charOf u5 by
            rw [HR.out]
            exact M.charA_eq c0 t0 u5 HP.out (by rw [hd, M.behindEq, if_pos he]))
          have hdl := M.dropWhile_le M.white ((c0 :: t0).drop 7)
          rw [hd, List.length_cons] at hdl
          have hl7 := congrArg List.length h7
          rw [List.length_drop, ← Lib.size_eq] at hl7
          have hk41 : k4 + 1 ≤ s.size := by have := HK4.out; rw [List.length_cons] at this; omega
          clear hdl hl7
          have c1 := Box.cell hr6 1 _ rfl
          have f1 := Box.frozen hr6 1
          clear hd hq0
          go_wp2_with fail
          have hr7 : Rd (W6.setCell ⟨w.heap.size, 1, none⟩ (.int .i64 ((k4 : Int) + 1))) w.heap.size s (k4 + 1) := hr6.move (k4 + 1)
          have hb7 : Bel w (W6.setCell ⟨w.heap.size, 1, none⟩ (.int .i64 ((k4 : Int) + 1))) := hbw.setCell (p := ⟨w.heap.size, 1, none⟩) (Nat.le_refl _) _
          generalize (W6.setCell ⟨w.heap.size, 1, none⟩ (.int .i64 ((k4 : Int) + 1))) = W7 at *
          have hl8 : s.data.toList.drop (k4 + 1) = u5 := by rw [← List.drop_drop, hl4]; rfl
          refine (charset_any w.heap.size s (k4 + 1) u5 W7 hr7 (by omega) hl8 (by omega)).mono ?_
          rintro e W8 ⟨rfl, hB8⟩
          go_wp2_with fail
          go_ret
          rw [HC.out]
          exact ⟨rfl, hB8.bel hb7 (Nat.le_refl _)⟩
      | false =>
        have HC := Lib.hid (show M.charA s.data.toList = M.charA (s.data.toList.drop k4) by
          rw [HR.out, hl4]
          refine M.charA_no c0 t0 HP.out ?_
          cases hd : ((c0 :: t0).drop 7).dropWhile M.white with
          | nil => rfl
          | cons e5 u5 =>
            rw [hd] at hq0
            have he : ¬ e5 = 61 := by simpa [headP] using hq0
            rw [M.behindEq, if_neg he])
        go_wp2_with fail
        go_roundg (s.size - k4)
        case measure => omega
        case rel => exact ⟨k4, hk4, Nat.le_refl _, hr6, hbw, HC⟩
theorem charset_to (s : ByteArray) (n x : Int) (h : M.charE s.data.toList = (n, x)) (w : World) (hL : Len w) : Calls Tryz.prog 44 #[.string s] w fun e w' => e = .returned (.tuple #[.int .i64 n, .int .i64 x]) ∧ Bel w w' := by
  by_cases hl : 3000 < s.size
  · rw [M.charE, if_pos (by rw [← Lib.size_eq]; exact hl)] at h
    injection h with h1 h2
    subst h1; subst h2
    go_enter Tryz.func44, Tryz.ntmps44
    go_wp2
    go_ret2
    exact ⟨rfl, Bel.refl _⟩
  · rw [M.charE, if_neg (by rw [← Lib.size_eq]; exact hl)] at h
    injection h with h1 h2
    subst h2
    have H1 := Lib.hid h1
    clear h1
    go_enter Tryz.func44, Tryz.ntmps44
    go_wp2_with (go_at_call 75; refine (told_any2 s (by omega) _ hL).mono ?_; rintro e w' ⟨rfl, hb⟩; rw [H1.out])
    go_ret2
    exact ⟨rfl, hb⟩
end Go.Proofs.YteingkjdemlhgaaGreatDoor

/-
  The first rune that is some byte below 128: the first such byte.
-/
namespace Go.Proofs.YteingkjdemlhgaaGreatDoor.M
open Go
theorem get_cons (s : ByteArray) (i : Nat) (h : i < s.size) : s.data.toList.drop i = s.get! i :: s.data.toList.drop (i + 1) := by
  have hk : i < s.data.toList.length := by rw [← Lib.size_eq]; exact h
  rw [List.drop_eq_getElem_cons hk]
  congr 1
  show _ = s.data[i]!
  have h2 : i < s.data.size := by simpa using hk
  rw [getElem!_pos s.data i h2, Array.getElem_toList]
theorem dec_low (s : ByteArray) (i : Nat) (h : (s.get! i).toNat < 128) : Utf8.decode s i = ((s.get! i).toNat, 1) := by
  rw [Lib.decode_at, Lib.decodeN_ascii _ _ _ _ _ h]
theorem dec_high (n b0 b1 b2 b3 : Nat) (h : 128 ≤ b0) : 128 ≤ (Lib.decodeN n b0 b1 b2 b3).1 ∧ 1 ≤ (Lib.decodeN n b0 b1 b2 b3).2 := by
  unfold Lib.decodeN
  repeat' split
  all_goals (simp only; omega)
/-- The first place at which q holds, from k on; -1: none. -/
def firstB (q : UInt8 → Bool) (k : Nat) (l : Bs) : Int := if l.dropWhile (fun c => !q c) = [] then -1 else ((k + (l.takeWhile (fun c => !q c)).length : Nat) : Int)
theorem firstB_no (q : UInt8 → Bool) (k : Nat) (c : UInt8) (t : Bs) (h : q c = false) : firstB q k (c :: t) = firstB q (k + 1) t := by
  have hn : (!q c) = true := by rw [h]; rfl
  unfold firstB
  rw [List.dropWhile_cons_of_pos (p := fun c => !q c) hn, List.takeWhile_cons_of_pos (p := fun c => !q c) hn, List.length_cons]
  congr 2
  omega
theorem firstB_yes (q : UInt8 → Bool) (k : Nat) (c : UInt8) (t : Bs) (h : q c = true) : firstB q k (c :: t) = k := by
  have hn : ¬ (!q c) = true := by rw [h]; decide
  unfold firstB
  rw [List.dropWhile_cons_of_neg (p := fun c => !q c) hn, List.takeWhile_cons_of_neg (p := fun c => !q c) hn, if_neg (by simp)]
  rfl
theorem firstB_skip (q : UInt8 → Bool) (s : ByteArray) (pos : Nat) : ∀ (n : Nat), pos + n ≤ s.size → (∀ j, j < n → q (s.get! (pos + j)) = false) → firstB q pos (s.data.toList.drop pos) = firstB q (pos + n) (s.data.toList.drop (pos + n))
  | 0, _, _ => rfl
  | n + 1, h, hq => by
    rw [firstB_skip q s pos n (by omega) (fun j hj => hq j (by omega)), get_cons s (pos + n) (by omega), firstB_no q _ _ _ (hq n (by omega))]
    rfl
theorem idx_byte (p : Nat → Bool) (q : UInt8 → Bool) (hp : ∀ b : UInt8, b.toNat < 128 → p b.toNat = q b) (hh : ∀ r, 128 ≤ r → p r = false) (hq : ∀ b : UInt8, 128 ≤ b.toNat → q b = false) (s : ByteArray) : ∀ (f pos : Nat), pos ≤ s.size → s.size - pos ≤ f → Lib.idxFuncFrom p true s f pos = firstB q pos (s.data.toList.drop pos)
  | 0, pos, h1, h2 => by
    obtain rfl : pos = s.size := by omega
    rw [List.drop_eq_nil_of_le (by rw [← Lib.size_eq]; exact Nat.le_refl _)]
    rfl
  | f + 1, pos, h1, h2 => by
    rw [Lib.idxFuncFrom]
    by_cases hlt : pos < s.size
    · rw [if_pos hlt]
      by_cases hb : (s.get! pos).toNat < 128
      · rw [dec_low s pos hb, get_cons s pos hlt]
        simp only
        rw [hp _ hb]
        cases hc : q (s.get! pos) with
        | true => rw [if_pos rfl, firstB_yes q _ _ _ hc]
        | false =>
          rw [if_neg (by decide), firstB_no q _ _ _ hc]
          exact idx_byte p q hp hh hq s f (pos + 1) (by omega) (by omega)
      · have d1 := dec_high (s.size - pos) (s.get! pos).toNat (s.get! (pos + 1)).toNat (s.get! (pos + 2)).toNat (s.get! (pos + 3)).toNat (by omega)
        have d2 := Lib.decodeN_conts (s.size - pos) (s.get! pos).toNat (s.get! (pos + 1)).toNat (s.get! (pos + 2)).toNat (s.get! (pos + 3)).toNat
        rw [← Lib.decode_at] at d1 d2
        rw [hh _ d1.1, if_neg (by decide)]
        generalize (Utf8.decode s pos).2 = n at *
        obtain ⟨c2, c3, c4, c5⟩ := d2
        rw [firstB_skip q s pos n (by omega) ?_]
        · exact idx_byte p q hp hh hq s f (pos + n) (by omega) (by omega)
        · intro j hj
          apply hq
          rcases j with _ | _ | _ | _ | j
          · show 128 ≤ (s.get! pos).toNat; omega
          · show 128 ≤ (s.get! (pos + 1)).toNat; omega
          · show 128 ≤ (s.get! (pos + 2)).toNat; omega
          · show 128 ≤ (s.get! (pos + 3)).toNat; omega
          · omega
    · obtain rfl : pos = s.size := by omega
      rw [if_neg hlt, List.drop_eq_nil_of_le (by rw [← Lib.size_eq]; exact Nat.le_refl _)]
      rfl
end Go.Proofs.YteingkjdemlhgaaGreatDoor.M

/-
  Package scan: value, told, meta, Meta.
-/
namespace Go.Proofs.YteingkjdemlhgaaGreatDoor
open Go.RowKit
set_option maxRecDepth 1000000
theorem ixAttr (b off n c : Nat) (zs : Nat → Value × Value) (p : Nat → Bool) (g : Nat) (lb : Array Value) (eg : ∀ args w, (callFunc g args).run Tryz.prog w = .ok (.enter g args) w) (w : World)
    (hp : ∀ (W : World) (j : Nat), j < n → Below w.heap.size w W → Calls Tryz.prog g (#[.agg #[(zs j).1, (zs j).2]] ++ lb) W fun e w' => e = .returned (.bool (p j)) ∧ Below w.heap.size w w')
    (hbig : n ≤ 9223372036854775807) (hb : b < w.heap.size) (hc : ∀ j, j < n → w.cell? ⟨b, off + j * 2, none⟩ = some (zs j).1 ∧ w.cell? ⟨b, off + j * 2 + 1, none⟩ = some (zs j).2) :
    Calls Tryz.prog 213 #[.slice (some ⟨b, off, none⟩) n c, .func (.func g) #[] lb] w fun e w' => (∃ r : Int, e = .returned (.int .i64 r) ∧ FirstAt n p r) ∧ Below w.heap.size w w' := by
  have hrow : ∀ (W : World), Below w.heap.size w W → ∀ j, j < n → W.cell? ⟨b, off + j * 2, none⟩ = some (zs j).1 ∧ W.cell? ⟨b, off + j * 2 + 1, none⟩ = some (zs j).2 := fun W hW j hj => by
    have h1 := hc j hj
    exact ⟨(hW.cell (p := ⟨b, off + j * 2, none⟩) hb).trans h1.1, (hW.cell (p := ⟨b, off + j * 2 + 1, none⟩) hb).trans h1.2⟩
  clear hc
  go_enter Tryz.func213, Tryz.ntmps213
  go_wp2
  go_loopg [5, 8] n (fun gg _ s8 wr => ∃ kk : Nat, kk ≤ n ∧ n - kk ≤ gg ∧ s8 = .int .i64 kk ∧ Aside (Below w.heap.size w wr) ∧ Aside (∀ j, j < kk → p j = false))
  case atStart => exact ⟨0, Nat.zero_le _, by omega, rfl, Below.refl _ w, fun j hj => absurd hj (Nat.not_lt_zero _)⟩
  case round =>
    obtain ⟨kk, hkk, hg, rfl, BW, A⟩ := hrel
    by_cases hlt : kk < n
    · have hltz : (kk : Int) < (n : Int) := by omega
      obtain ⟨l1, l2⟩ := hrow wr BW.out kk (by omega)
      have hcall := hp wr kk hlt BW.out
      clear hrow hp
      generalize (zs kk) = y at l1 l2 hcall
      obtain ⟨y1, y2⟩ := y
      simp only at l1 l2 hcall
      cases hq : p kk with
      | true =>
        rw [hq] at hcall
        have HQ := Lib.hid hq
        clear hq
        go_wp2_with (go_at_fn g; refine hcall.mono ?_; rintro e w' ⟨rfl, hb'⟩)
        go_ret
        exact ⟨⟨kk, rfl, .inr ⟨kk, hlt, rfl, HQ.out, A.out⟩⟩, hb'⟩
      | false =>
        rw [hq] at hcall
        have HQ := Lib.hid hq
        clear hq
        go_wp2_with (go_at_fn g; refine hcall.mono ?_; rintro e w' ⟨rfl, hb'⟩)
        go_roundg (n - (kk + 1))
        case measure => omega
        case rel =>
          refine ⟨kk + 1, by omega, by omega, by go_num, hb', (show Aside _ from fun j hj => ?_)⟩
          by_cases e : j = kk
          · subst e
            exact HQ.out
          · exact A.out j (by omega)
    · have hltz : ¬ (kk : Int) < (n : Int) := by omega
      have : kk = n := by omega
      subst this
      go_wp2
      go_ret
      exact ⟨⟨-1, rfl, .inl ⟨rfl, A.out⟩⟩, BW.out⟩
theorem ixAttr_nil (a : Option Addr) (f : Value) (c : Nat) (w : World) : Calls Tryz.prog 213 #[.slice a 0 c, f] w fun e w' => e = .returned (.int .i64 (-1)) ∧ Bel w w' := by
  go_enter Tryz.func213, Tryz.ntmps213
  go_wp2
  go_loop [8] (fun v => v = .int .i64 0) (fun _ => 0)
  case atStart => rfl
  case round =>
    subst hrel
    go_wp2
    go_ret
    exact ⟨rfl, Bel.refl _⟩
/-- The first that has it; -1: none has. -/
def FindAt (xs : List (List UInt8 × List UInt8)) (p : List UInt8 × List UInt8 → Bool) (r : Int) : Prop := (r = -1 ∧ xs.find? p = none) ∨ ∃ (k : Nat) (q : List UInt8 × List UInt8), r = k ∧ xs[k]? = some q ∧ xs.find? p = some q
theorem find_at (xs : List (List UInt8 × List UInt8)) (p : List UInt8 × List UInt8 → Bool) (r : Int) (h : FirstAt xs.length (fun j => p (xs.getD j ([], []))) r) : FindAt xs p r := by
  rcases h with ⟨rfl, h⟩ | ⟨k, hk, rfl, hy, hno⟩
  · refine .inl ⟨rfl, List.find?_eq_none.2 fun x hx => ?_⟩
    obtain ⟨j, hj, rfl⟩ := List.getElem_of_mem hx
    have := h j hj
    simp only [List.getD_eq_getElem?_getD, List.getElem?_eq_getElem hj, Option.getD_some] at this
    rw [this]; decide
  · refine .inr ⟨k, xs[k], rfl, List.getElem?_eq_getElem hk, List.find?_eq_some_iff_getElem.2 ⟨?_, k, hk, rfl, fun j hj => ?_⟩⟩
    · simpa only [List.getD_eq_getElem?_getD, List.getElem?_eq_getElem hk, Option.getD_some] using hy
    · have := hno j hj
      simp only [List.getD_eq_getElem?_getD, List.getElem?_eq_getElem (Nat.lt_trans hj hk), Option.getD_some] at this
      rw [this]; rfl
theorem ixSl (v : Value) (xs : List (List UInt8 × List UInt8)) (p : List UInt8 × List UInt8 → Bool) (g : Nat) (lb : Array Value) (eg : ∀ args w, (callFunc g args).run Tryz.prog w = .ok (.enter g args) w) (w : World) (h : AttrSl w v xs)
    (hp : ∀ (W : World) (q : List UInt8 × List UInt8), Below w.heap.size w W → q ∈ xs → Calls Tryz.prog g (#[.agg #[.string ⟨q.1.toArray⟩, .string ⟨q.2.toArray⟩]] ++ lb) W fun e w' => e = .returned (.bool (p q)) ∧ Below w.heap.size w w') :
    Calls Tryz.prog 213 #[v, .func (.func g) #[] lb] w fun e w' => (∃ r : Int, e = .returned (.int .i64 r) ∧ FindAt xs p r) ∧ Below w.heap.size w w' := by
  obtain ⟨a, c, rfl, hc1, hc2, hn, hx⟩ := h
  by_cases h0 : xs = []
  · subst h0
    refine (ixAttr_nil a _ c w).mono ?_
    rintro e w' ⟨rfl, hb⟩
    exact ⟨⟨-1, rfl, .inl ⟨rfl, rfl⟩⟩, hb⟩
  · cases a with
    | none => exact absurd (hn rfl) h0
    | some x =>
      obtain ⟨g1, o, rfl, hy⟩ := hx x rfl h0
      have hat : ∀ j, (hj : j < xs.length) → xs.getD j ([], []) = xs[j] := fun j hj => by simp [hj]
      have hpos : 0 < xs.length := List.length_pos_iff.2 h0
      have hl := (hy 0 xs[0] (List.getElem?_eq_getElem hpos)).1
      have hlt := World.block_lt_of_cell? _ _ hl
      refine (ixAttr g1 o xs.length c (fun j => (.string ⟨(xs.getD j ([], [])).1.toArray⟩, .string ⟨(xs.getD j ([], [])).2.toArray⟩)) (fun j => p (xs.getD j ([], []))) g lb eg w ?_ ?_ hlt ?_).mono ?_
      · intro W j hj hW
        exact hp W _ hW (by rw [hat j hj]; exact List.getElem_mem hj)
      · unfold maxLen at hc2; omega
      · intro j hj
        obtain ⟨c1, c2⟩ := hy j _ (List.getElem?_eq_getElem hj)
        rw [hat j hj]
        exact ⟨c1, c2⟩
      · rintro e w' ⟨⟨r, rfl, hr⟩, hb⟩
        exact ⟨⟨r, rfl, find_at xs p r hr⟩, hb⟩
theorem val1_any (nm a b : ByteArray) (g : Nat) (w : World) (hc : w.cell? ⟨g, 0, none⟩ = some (.string nm)) (hg : g < w.heap.size) : Calls Tryz.prog 214 #[.agg #[.string a, .string b], .pointer (some ⟨g, 0, none⟩)] w fun e w' => e = .returned (.bool (a.toList == nm.toList)) ∧ Bel w w' := by
  go_enter Tryz.func214, Tryz.ntmps214
  have hne : g ≠ w.heap.size := by omega
  go_wp2
  all_goals (go_ret; exact ⟨by simp_all, (by repeat (first | exact Bel.refl _ | refine Bel.drewN ?_ _ | refine Bel.drew ?_ | refine Bel.alloc ?_ _ | refine Bel.trans ?_ (by assumption) | refine Bel.setCell ?_ (by simp; omega) _))⟩)
theorem valOf_some (xs : List (List UInt8 × List UInt8)) (nm : List UInt8) (q : List UInt8 × List UInt8) (h : xs.find? (fun a => a.1 == nm) = some q) : M.valOf xs nm = some q.2 := by rw [M.valOf, h]; rfl
theorem valOf_none (xs : List (List UInt8 × List UInt8)) (nm : List UInt8) (h : xs.find? (fun a => a.1 == nm) = none) : M.valOf xs nm = none := by rw [M.valOf, h]; rfl
theorem valOf_any (v : Value) (xs : List (List UInt8 × List UInt8)) (nm : ByteArray) (w : World) (h : AttrSl w v xs) : Calls Tryz.prog 207 #[v, .string nm] w fun e w' => e = .returned (.tuple #[.string ⟨((M.valOf xs nm.data.toList).getD []).toArray⟩, .bool (M.valOf xs nm.data.toList).isSome]) ∧ Bel w w' := by
  have HS := Lib.hid h
  obtain ⟨a, c, rfl, hc1, hc2, hn, hx⟩ := h
  unfold maxLen at hc2
  have HX := Lib.hid hx
  have HN := Lib.hid hn
  clear hx hn
  go_enter Tryz.func207, Tryz.ntmps207
  go_wp2_with fail
  refine (ixSl _ xs (fun q => q.1 == nm.data.toList) 214 #[.pointer (some ⟨w.heap.size, 0, none⟩)] (enters_of Tryz.func214 (by kernel_rfl) rfl) _ (HS.out.bel ((Bel.refl w).alloc _)) ?_).mono ?_
  · intro W q hW _
    refine (val1_any nm ⟨q.1.toArray⟩ ⟨q.2.toArray⟩ w.heap.size W ?_ ?_).mono ?_
    · rw [hW.cell (p := ⟨w.heap.size, 0, none⟩) (by simp), cell_new]
    · have := hW.size; simp at this; omega
    · rintro e w3 ⟨rfl, b4⟩
      refine ⟨?_, hW.trans (b4.mono hW.size)⟩
      rw [Lib.toList_data, Lib.toList_data]
  rintro e w4 ⟨⟨r, rfl, hr⟩, b4⟩
  have bB := ((Bel.refl w).alloc (.cells #[.string nm] 9)).trans b4
  rcases hr with ⟨rfl, hno⟩ | ⟨k, q, rfl, hk, hyes⟩
  · have HE := Lib.hid (valOf_none _ _ hno)
    clear hno
    go_wp2
    go_ret2
    exact ⟨by rw [HE.out]; rfl, bB⟩
  · have HE := Lib.hid (valOf_some _ _ _ hyes)
    have hkl := (List.getElem?_eq_some_iff.1 hk).1
    cases a with
    | none => exfalso; have h3 := hkl; rw [HN.out rfl] at h3; exact absurd h3 (Nat.not_lt_zero _)
    | some x =>
      obtain ⟨g, o, rfl, hx'⟩ := HX.out x rfl (List.ne_nil_of_length_pos (by omega))
      have c2 := (hx' k q hk).2
      have c2 := (bB.cell (World.block_lt_of_cell? _ _ c2)).trans c2
      clear hyes hk hx'
      go_wp2
      go_ret2
      exact ⟨by rw [HE.out]; rfl, bB⟩
/-- All values are short. -/
def ShortV (xs : List (List UInt8 × List UInt8)) : Prop := ∀ p ∈ xs, p.2.length ≤ 3000
theorem valOf_short (xs : List (List UInt8 × List UInt8)) (nm : List UInt8) (h : ShortV xs) : ((M.valOf xs nm).getD []).length ≤ 3000 := by
  rw [M.valOf]
  cases hf : xs.find? (fun a => a.1 == nm) with
  | none => exact Nat.zero_le _
  | some q => exact h q (List.mem_of_find?_eq_some hf)
theorem toldS_any (v : Value) (xs : List (List UInt8 × List UInt8)) (w : World) (h : AttrSl w v xs) (hs : ShortV xs) (hL : Len w) : Calls Tryz.prog 194 #[v] w fun e w' => e = .returned (.int .i64 (M.toldA xs)) ∧ Bel w w' := by
  have r1 := fun w h => valOf_any v xs ⟨#[99, 104, 97, 114, 115, 101, 116]⟩ w h
  have r2 := fun w h => valOf_any v xs ⟨#[104, 116, 116, 112, 45, 101, 113, 117, 105, 118]⟩ w h
  have r3 := fun w h => valOf_any v xs ⟨#[99, 111, 110, 116, 101, 110, 116]⟩ w h
  have s1 := valOf_short xs M.charset7 hs
  have s3 := valOf_short xs M.contentB hs
  rw [show (⟨#[99, 104, 97, 114, 115, 101, 116]⟩ : ByteArray).data.toList = M.charset7 from rfl] at r1
  rw [show (⟨#[104, 116, 116, 112, 45, 101, 113, 117, 105, 118]⟩ : ByteArray).data.toList = M.httpEquiv from rfl] at r2
  rw [show (⟨#[99, 111, 110, 116, 101, 110, 116]⟩ : ByteArray).data.toList = M.contentB from rfl] at r3
  cases h1 : M.valOf xs M.charset7 with
  | some u =>
    rw [h1] at r1 s1
    have HT := Lib.hid (show M.toldA xs = M.find u by rw [M.toldA, h1])
    have R1 := Lib.hid r1
    clear r1 r2 r3 h1
    go_enter Tryz.func194, Tryz.ntmps194
    go_wp2_with fail
    refine (R1.out w h).mono ?_
    rintro e w1 ⟨rfl, b1⟩
    rw [show (some u).getD [] = u from rfl, show (some u).isSome = true from rfl]
    have s1 : u.length ≤ 3000 := s1
    go_wp2_with fail
    refine (of_any ⟨u.toArray⟩ _ (by rw [size_str]; omega)).mono ?_
    rintro e w2 ⟨rfl, b2⟩
    go_wp2_with fail
    go_ret
    exact ⟨by rw [HT.out]; rfl, b1.trans b2⟩
  | none =>
    rw [h1] at r1
    have R1 := Lib.hid r1
    have R2 := Lib.hid r2
    have R3 := Lib.hid r3
    have hk : ((M.valOf xs M.httpEquiv).getD [] == [99, 111, 110, 116, 101, 110, 116, 45, 116, 121, 112, 101]) = true ↔ M.valOf xs M.httpEquiv = some M.contentType := by
      cases M.valOf xs M.httpEquiv with
      | none => exact ⟨(fun h => by cases h), (fun h => by cases h)⟩
      | some u => simp [M.contentType]
    cases hc : ((M.valOf xs M.httpEquiv).getD [] == [99, 111, 110, 116, 101, 110, 116, 45, 116, 121, 112, 101]) with
    | true =>
      have HT := Lib.hid (show M.toldA xs = M.charA ((M.valOf xs M.contentB).getD []) by rw [M.toldA, h1]; simp only; rw [if_pos (hk.1 hc)])
      clear r1 r2 r3 hk h1
      go_enter Tryz.func194, Tryz.ntmps194
      go_wp2_with fail
      refine (R1.out w h).mono ?_
      rintro e w1 ⟨rfl, b1⟩
      rw [show (none : Option (List UInt8)).getD [] = [] from rfl, show (none : Option (List UInt8)).isSome = false from rfl]
      go_wp2_with fail
      refine (R2.out _ (h.bel b1)).mono ?_
      rintro e w2 ⟨rfl, b2⟩
      have b2 := b1.trans b2
      go_wp2_with fail
      refine (R3.out _ (h.bel b2)).mono ?_
      rintro e w3 ⟨rfl, b3⟩
      have b3 := b2.trans b3
      go_wp2_with fail
      refine (told_any2 ⟨((M.valOf xs M.contentB).getD []).toArray⟩ (by rw [size_str]; exact s3) _ (hL.bel b3)).mono ?_
      rintro e w4 ⟨rfl, b4⟩
      go_wp2_with fail
      go_ret
      exact ⟨by rw [HT.out]; rfl, b3.trans b4⟩
    | false =>
      have HT := Lib.hid (show M.toldA xs = 0 by rw [M.toldA, h1]; simp only; rw [if_neg (fun h9 => by rw [hk.2 h9] at hc; cases hc)])
      clear r1 r2 r3 hk h1
      go_enter Tryz.func194, Tryz.ntmps194
      go_wp2_with fail
      refine (R1.out w h).mono ?_
      rintro e w1 ⟨rfl, b1⟩
      rw [show (none : Option (List UInt8)).getD [] = [] from rfl, show (none : Option (List UInt8)).isSome = false from rfl]
      go_wp2_with fail
      refine (R2.out _ (h.bel b1)).mono ?_
      rintro e w2 ⟨rfl, b2⟩
      have b2 := b1.trans b2
      go_wp2_with fail
      refine (R3.out _ (h.bel b2)).mono ?_
      rintro e w3 ⟨rfl, b3⟩
      have b3 := b2.trans b3
      go_wp2_with fail
      go_ret
      exact ⟨by rw [HT.out]; rfl, b3⟩
theorem metaS_any (v : Value) (xs : List (List UInt8 × List UInt8)) (w : World) (h : AttrSl w v xs) (hs : ShortV xs) (hL : Len w) : Calls Tryz.prog 170 #[v] w fun e w' => e = .returned (.int .i64 (M.metaA xs)) ∧ Bel w w' := by
  have HT := Lib.hid (show M.metaA xs = M.turnA (M.toldA xs) from rfl)
  obtain ⟨n, hn⟩ : ∃ n, M.toldA xs = n := ⟨_, rfl⟩
  have tt := toldS_any v xs w h hs hL
  rw [hn] at tt HT
  have HH := Lib.hid tt
  clear tt hn
  by_cases h2 : n = 2
  · subst h2
    go_enter Tryz.func170, Tryz.ntmps170
    go_wp2_with fail
    refine HH.out.mono ?_
    rintro e w1 ⟨rfl, b1⟩
    go_wp2_with fail
    go_ret
    exact ⟨by rw [HT.out]; rfl, b1⟩
  · by_cases h3 : n = 3
    · subst h3
      go_enter Tryz.func170, Tryz.ntmps170
      go_wp2_with fail
      refine HH.out.mono ?_
      rintro e w1 ⟨rfl, b1⟩
      go_wp2_with fail
      go_ret
      exact ⟨by rw [HT.out]; rfl, b1⟩
    · by_cases h5 : n = 5
      · subst h5
        go_enter Tryz.func170, Tryz.ntmps170
        go_wp2_with fail
        refine HH.out.mono ?_
        rintro e w1 ⟨rfl, b1⟩
        go_wp2_with fail
        go_ret
        exact ⟨by rw [HT.out]; rfl, b1⟩
      · have HX := Lib.hid (show M.turnA n = n by unfold M.turnA; rw [if_neg (by omega), if_neg h5])
        have e2 : (n == 2) = false := by simp [h2]
        have e3 : (n == 3) = false := by simp [h3]
        have e5 : (n == 5) = false := by simp [h5]
        clear h2 h3 h5
        go_enter Tryz.func170, Tryz.ntmps170
        go_wp2_with fail
        refine HH.out.mono ?_
        rintro e w1 ⟨rfl, b1⟩
        go_wp2_with fail
        go_ret
        exact ⟨by rw [HT.out, HX.out]; rfl, b1⟩
end Go.Proofs.YteingkjdemlhgaaGreatDoor

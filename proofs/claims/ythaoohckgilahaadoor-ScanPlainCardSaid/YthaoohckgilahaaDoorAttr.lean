/-
  Package attr: the reader: here, pass, one.
-/
import Derived.Test.YthaoohckgilahaaDoorBase7
import Derived.Test.YthaoohckgilahaaDoorWhite
import Derived.Test.YthaoohckgilahaaDoorLabel
import Derived.Test.YthaoohckgilahaaDoorPlainAttr
import Derived.Deep.LoopGhost
import Derived.Shelf.Abstract
namespace Go.Proofs.YthaoohckgilahaaDoor
open Go.RowKit
set_option maxRecDepth 1000000

/-- Of all that lay there only block g may have changed. -/
structure Bes (g : Nat) (w w' : World) : Prop where
  os : w'.os = w.os
  tape : w'.tape = w.tape
  output : w'.output = w.output
  size : w.heap.size ≤ w'.heap.size
  block : ∀ k, k < w.heap.size → k ≠ g → w'.heap[k]? = w.heap[k]?
theorem Bes.refl (g : Nat) (w : World) : Bes g w w := ⟨rfl, rfl, rfl, Nat.le_refl _, fun _ _ _ => rfl⟩
theorem Bes.trans {g : Nat} {a b c : World} (h : Bes g a b) (k : Bes g b c) : Bes g a c :=
  ⟨k.os.trans h.os, k.tape.trans h.tape, k.output.trans h.output, Nat.le_trans h.size k.size, fun j hj hg => (k.block j (Nat.lt_of_lt_of_le hj h.size) hg).trans (h.block j hj hg)⟩
theorem Bes.of_bel {g : Nat} {a b : World} (h : Bel a b) : Bes g a b := ⟨h.os, h.tape, h.output, h.size, fun j hj _ => h.block j hj⟩
theorem Bes.bel {g : Nat} {a b c : World} (h : Bel a b) (k : Bes g b c) (hg : a.heap.size ≤ g) : Bel a c :=
  ⟨k.os.trans h.os, k.tape.trans h.tape, k.output.trans h.output, Nat.le_trans h.size k.size, fun j hj => (k.block j (Nat.lt_of_lt_of_le hj h.size) (by omega)).trans (h.block j hj)⟩
theorem Bes.setCell {g : Nat} {a b : World} (h : Bes g a b) (o : Nat) (u : Value) : Bes g a (b.setCell ⟨g, o, none⟩ u) := by
  refine ⟨h.os, h.tape, h.output, ?_, fun k hk hg => ?_⟩
  · rw [World.size_setCell]; exact h.size
  · exact (Below.heap_setCell b _ u k hg).trans (h.block k hk hg)
theorem Bes.setNew {g : Nat} {a b : World} (h : Bes g a b) {p : Addr} (hp : a.heap.size ≤ p.block) (u : Value) : Bes g a (b.setCell p u) := by
  refine ⟨h.os, h.tape, h.output, ?_, fun k hk hg => ?_⟩
  · rw [World.size_setCell]; exact h.size
  · exact (Below.heap_setCell b _ u k (by omega)).trans (h.block k hk hg)
theorem Bes.box {g j : Nat} {a b : World} {t : TypeId} {cs : List Value} (h : Bes g a b) (hb : Box a j t cs) (hj : j ≠ g) : Box b j t cs := (h.block j hb.lt hj).trans hb

/-- A reader at g: it holds a text and a place in it. -/
def Rd (w : World) (g : Nat) (s : ByteArray) (k : Nat) : Prop := Box w g 50 [.string s, .int .i64 (k : Int)]
theorem Rd.bel {w w' : World} {g : Nat} {s : ByteArray} {k : Nat} (h : Rd w g s k) (hb : Bel w w') : Rd w' g s k := Box.bel h hb
theorem Rd.move {w : World} {g : Nat} {s : ByteArray} {k : Nat} (h : Rd w g s k) (j : Nat) : Rd (w.setCell ⟨g, 1, none⟩ (.int .i64 (j : Int))) g s j := Box.set h 1 _

/-- What is asked of a predicate on bytes that may look at the reader's place. -/
def Says (gf : Nat) (lb : Array Value) (g : Nat) (s : ByteArray) (w : World) (p : Nat → UInt8 → Bool) : Prop :=
  ∀ (W : World) (k : Nat) (c : UInt8), Bes g w W → Rd W g s k → Calls Tryd.prog gf (#[.int .u8 (c.toNat : Int)] ++ lb) W fun e w' => e = .returned (.bool (p k c)) ∧ ∃ m, w' = W.drewN m
theorem Says.bes {gf : Nat} {lb : Array Value} {g : Nat} {s : ByteArray} {w w' : World} {p : Nat → UInt8 → Bool} (h : Says gf lb g s w p) (hb : Bes g w w') : Says gf lb g s w' p :=
  fun W k c hB hR => h W k c (hb.trans hB) hR
def hereP (l : List UInt8) (p : Nat → UInt8 → Bool) (k : Nat) : Bool := match l[k]? with | some c => p k c | none => false
theorem here_any (g : Nat) (s : ByteArray) (k : Nat) (gf : Nat) (lb : Array Value) (p : Nat → UInt8 → Bool) (w : World) (hr : Rd w g s k) (hk : k ≤ s.size) (eg : ∀ args w, (callFunc gf args).run Tryd.prog w = .ok (.enter gf args) w)
    (hp : Says gf lb g s w p) : Calls Tryd.prog 46 #[.pointer (some ⟨g, 0, none⟩), .func (.func gf) #[] lb] w fun e w' => e = .returned (.bool (hereP s.data.toList p k)) ∧ ∃ m, w' = w.drewN m := by
  have c0 := Box.cell hr 0 _ rfl
  have c1 := Box.cell hr 1 _ rfl
  by_cases hlt : k < s.size
  · have hcall := fun n => hp (w.drewN n) k s[k] (Bes.of_bel ((Bel.refl w).drewN n)) (Box.drewN hr n)
    have HP := Lib.hid (show hereP s.data.toList p k = p k s[k] by rw [hereP, byte_at s k hlt])
    generalize p k s[k] = q at hcall HP
    have HC := Lib.hid hcall
    clear hp hr hcall
    have hi : decide ((k : Int) < (s.size : Int)) = true := by simpa using hlt
    go_enter Tryd.func46, Tryd.ntmps46
    go_wp2_with fail
    go_quiet (first | (go_at_fn gf; exact Calls.quiet_of (HC.out _)))
    go_wp2
    go_ret
    exact ⟨by rw [HP.out]; rfl, _, rfl⟩
  · have HP := Lib.hid (show hereP s.data.toList p k = false by rw [hereP, List.getElem?_eq_none (by rw [← Lib.size_eq]; omega)])
    clear hp hr
    have hi : decide ((k : Int) < (s.size : Int)) = false := by simpa using hlt
    go_enter Tryd.func46, Tryd.ntmps46
    go_wp2_with fail
    go_quiet (fail)
    go_wp2
    go_ret
    exact ⟨by rw [HP.out]; rfl, _, rfl⟩
/-- How many bytes are passed. -/
def passN (p : Nat → UInt8 → Bool) : Nat → List UInt8 → Nat
  | _, [] => 0
  | k, c :: t => if p k c = true then passN p (k + 1) t + 1 else 0
theorem passN_le (p : Nat → UInt8 → Bool) : ∀ (k : Nat) (l : List UInt8), passN p k l ≤ l.length
  | _, [] => Nat.le_refl _
  | k, c :: t => by
    rw [passN]; split
    · have := passN_le p (k + 1) t; simp only [List.length_cons]; omega
    · exact Nat.zero_le _
theorem passN_step (p : Nat → UInt8 → Bool) (l : List UInt8) (k : Nat) (h : hereP l p k = true) : passN p k (l.drop k) = passN p (k + 1) (l.drop (k + 1)) + 1 := by
  unfold hereP at h
  cases hc : l[k]? with
  | none => rw [hc] at h; cases h
  | some c =>
    rw [hc] at h
    have hk := (List.getElem?_eq_some_iff.1 hc).1
    have e : l.drop k = c :: l.drop (k + 1) := by
      rw [List.drop_eq_getElem_cons hk, (List.getElem?_eq_some_iff.1 hc).2]
    rw [e, passN, if_pos h]
theorem passN_stop (p : Nat → UInt8 → Bool) (l : List UInt8) (k : Nat) (h : hereP l p k = false) : passN p k (l.drop k) = 0 := by
  unfold hereP at h
  cases hc : l[k]? with
  | none => rw [List.drop_eq_nil_of_le (List.getElem?_eq_none_iff.1 hc)]; rfl
  | some c =>
    rw [hc] at h
    have hk := (List.getElem?_eq_some_iff.1 hc).1
    have e : l.drop k = c :: l.drop (k + 1) := by
      rw [List.drop_eq_getElem_cons hk, (List.getElem?_eq_some_iff.1 hc).2]
    rw [e, passN, if_neg (by show ¬ p k c = true; rw [show p k c = false from h]; decide)]
theorem here_lt (l : List UInt8) (p : Nat → UInt8 → Bool) (k : Nat) (h : hereP l p k = true) : k < l.length := by
  unfold hereP at h
  cases hc : l[k]? with
  | none => rw [hc] at h; cases h
  | some c => exact (List.getElem?_eq_some_iff.1 hc).1
theorem cut_str (s : ByteArray) (k n : Nat) : (s.extract k (k + n)) = ⟨((s.data.toList.drop k).take n).toArray⟩ := by
  have h : (s.extract k (k + n)).data.toList = (s.data.toList.drop k).take n := by
    rw [Lib.extract_data, show k + n - k = n by omega]
  rw [← h, str_eq]
theorem pass_any (g : Nat) (s : ByteArray) (k : Nat) (gf : Nat) (lb : Array Value) (p : Nat → UInt8 → Bool) (w : World) (hr : Rd w g s k) (hk : k ≤ s.size) (hs : s.size ≤ 68719476735) (eg : ∀ args w, (callFunc gf args).run Tryd.prog w = .ok (.enter gf args) w)
    (hp : Says gf lb g s w p) : Calls Tryd.prog 43 #[.pointer (some ⟨g, 0, none⟩), .func (.func gf) #[] lb] w fun e w' => e = .returned (.string ⟨((s.data.toList.drop k).take (passN p k (s.data.toList.drop k))).toArray⟩) ∧ Rd w' g s (k + passN p k (s.data.toList.drop k)) ∧ Bes g w w' := by
  have hc1 := Box.cell hr 1 _ rfl
  have HS := Lib.hid (Lib.size_eq s)
  have HC := Lib.hid (cut_str s k)
  obtain ⟨n, hn⟩ : ∃ n, passN p k (s.data.toList.drop k) = n := ⟨_, rfl⟩
  rw [hn]
  have HN := Lib.hid hn
  clear hn
  go_enter Tryd.func43, Tryd.ntmps43
  go_wp2_with fail
  clear hc1
  go_loopg [12] (s.size + 1) (fun gg _ wr => ∃ j : Nat, k + j ≤ s.size ∧ s.size - (k + j) ≤ gg ∧ Rd wr g s (k + j) ∧ Bes g w wr ∧ Hid (n = j + passN p (k + j) (s.data.toList.drop (k + j))))
  case atStart => exact ⟨0, by omega, by omega, hr, Bes.refl _ _, Lib.hid (by rw [← HN.out]; simp)⟩
  case round =>
    clear hr hk
    obtain ⟨j, hk, hg, hr, hb, HJ⟩ := hrel
    cases hh : hereP s.data.toList p (k + j) with
    | true =>
      have HH := Lib.hid hh
      have hlt : k + j < s.size := by rw [Lib.size_eq]; exact here_lt _ _ _ hh
      have HJ2 := Lib.hid (show n = (j + 1) + passN p (k + (j + 1)) (s.data.toList.drop (k + (j + 1))) by
        have := HJ.out
        rw [passN_step p _ _ hh] at this
        rw [this, show k + (j + 1) = k + j + 1 by omega]; omega)
      clear hh
      go_wp2_with fail
      refine (here_any g s (k + j) gf lb p wr hr hk eg (hp.bes hb)).mono ?_
      rintro e w1 ⟨rfl, m, rfl⟩
      rw [HH.out]
      have hr1 : Rd (wr.drewN m) g s (k + j) := Box.drewN hr m
      have hb1 : Bes g w (wr.drewN m) := hb.trans (Bes.of_bel ((Bel.refl wr).drewN m))
      generalize wr.drewN m = W at *
      clear hr hb hp
      have c1 := Box.cell hr1 1 _ rfl
      have f1 := Box.frozen hr1 1
      go_wp2_with fail
      go_roundg (s.size - (k + (j + 1)))
      case measure => omega
      case rel =>
        refine ⟨j + 1, by omega, by omega, ?_, ?_, HJ2⟩
        · have h := hr1.move (k + (j + 1))
          have e : ((k + (j + 1) : Nat) : Int) = (k : Int) + (j : Int) + 1 := by omega
          rw [e] at h
          exact h
        · exact hb1.setCell 1 _
    | false =>
      have HH := Lib.hid hh
      have HJ2 := Lib.hid (show n = j by
        have := HJ.out
        rw [passN_stop p _ _ hh] at this; omega)
      clear hh
      go_wp2_with fail
      refine (here_any g s (k + j) gf lb p wr hr hk eg (hp.bes hb)).mono ?_
      rintro e w1 ⟨rfl, m, rfl⟩
      rw [HH.out]
      have hr1 : Rd (wr.drewN m) g s (k + j) := Box.drewN hr m
      have hb1 : Bes g w (wr.drewN m) := hb.trans (Bes.of_bel ((Bel.refl wr).drewN m))
      generalize wr.drewN m = W at *
      clear hr hb hp
      have c0 := Box.cell hr1 0 _ rfl
      have c1 := Box.cell hr1 1 _ rfl
      have hbd : (0 : Int) ≤ (k : Int) ∧ (k : Int) ≤ (k : Int) + (j : Int) ∧ (k : Int) + (j : Int) ≤ (s.size : Int) := by omega
      go_wp2_with fail
      go_quiet (fail)
      go_wp2
      go_ret
      rw [HJ2.out]
      exact ⟨by rw [← HC.out]; rfl, Box.drewN hr1 _, hb1.trans (Bes.of_bel ((Bel.refl W).drewN _))⟩
/-! ## The predicates -/
theorem says_white (g : Nat) (s : ByteArray) (w : World) : Says 45 #[] g s w (fun _ c => M.white c) :=
  fun W _ c _ _ => (white_any c W).mono fun _ _ ⟨h1, h2⟩ => ⟨h1, 0, h2.symm⟩
theorem byte_eq (c d : UInt8) : ((c.toNat : Int) == (d.toNat : Int)) = (c == d) := by
  rw [Bool.eq_iff_iff]
  simp only [beq_iff_eq]
  constructor
  · intro h; exact UInt8.toNat_inj.1 (by omega)
  · intro h; rw [h]
theorem skip_int (c : UInt8) : M.skipB c = (M.white c || ((c.toNat : Int) == 47)) := by
  rw [M.skipB]; congr 1; rw [Bool.eq_iff_iff]; simp only [decide_eq_true_eq, beq_iff_eq, ← UInt8.toNat_inj]; have e47 : UInt8.toNat 47 = 47 := rfl
  constructor <;> (intro h; omega)
theorem end_int (c : UInt8) : (c != 62) = ((c.toNat : Int) != 62) := by
  have e62 : UInt8.toNat 62 = 62 := rfl
  rw [Bool.eq_iff_iff]; simp only [bne_iff_ne, ne_eq, ← UInt8.toNat_inj]; constructor <;> (intro h h2; apply h; omega)
theorem val_int (c : UInt8) : M.valB c = (!M.white c && ((c.toNat : Int) != 62)) := by
  rw [M.valB, ← end_int]; congr 1; rw [Bool.eq_iff_iff]; simp
theorem lab_int (c : UInt8) : M.labB c = (!M.white c && ((c.toNat : Int) != 59)) := by
  rw [M.labB]; congr 1; rw [Bool.eq_iff_iff]; simp only [decide_eq_true_eq, bne_iff_ne, ne_eq, ← UInt8.toNat_inj]
  have e59 : UInt8.toNat 59 = 59 := rfl
  constructor <;> (intro h h2; apply h; omega)
theorem says_skip (g : Nat) (s : ByteArray) (w : World) : Says 44 #[] g s w (fun _ c => M.skipB c) := fun W _ c _ _ => by
  have H := Lib.hid (skip_int c)
  show Calls Tryd.prog 44 #[.int .u8 (c.toNat : Int)] W _
  cases hw : M.white c
  all_goals
    have HW := Lib.hid hw
    clear hw
    go_enter Tryd.func44, Tryd.ntmps44
    go_wp2_with (go_at_call 45; refine (white_any c _).mono ?_; rintro e w' ⟨rfl, rfl⟩; rw [HW.out])
    go_ret
    exact ⟨by rw [H.out, HW.out]; rfl, 0, rfl⟩
theorem says_end (g : Nat) (s : ByteArray) (w : World) : Says 47 #[] g s w (fun _ c => c != 62) := fun W _ c _ _ => by
  have H := Lib.hid (end_int c)
  show Calls Tryd.prog 47 #[.int .u8 (c.toNat : Int)] W _
  go_enter Tryd.func47, Tryd.ntmps47
  go_wp2_with fail
  go_ret
  exact ⟨by rw [H.out]; rfl, 0, rfl⟩
theorem says_val (g : Nat) (s : ByteArray) (w : World) : Says 68 #[] g s w (fun _ c => M.valB c) := fun W _ c _ _ => by
  have H := Lib.hid (val_int c)
  show Calls Tryd.prog 68 #[.int .u8 (c.toNat : Int)] W _
  cases hw : M.white c
  all_goals
    have HW := Lib.hid hw
    clear hw
    go_enter Tryd.func68, Tryd.ntmps68
    go_wp2_with (go_at_call 45; refine (white_any c _).mono ?_; rintro e w' ⟨rfl, rfl⟩; rw [HW.out])
    go_ret
    exact ⟨by rw [H.out, HW.out]; rfl, 0, rfl⟩
theorem says_lab (g : Nat) (s : ByteArray) (w : World) : Says 70 #[] g s w (fun _ c => M.labB c) := fun W _ c _ _ => by
  have H := Lib.hid (lab_int c)
  show Calls Tryd.prog 70 #[.int .u8 (c.toNat : Int)] W _
  cases hw : M.white c
  all_goals
    have HW := Lib.hid hw
    clear hw
    go_enter Tryd.func70, Tryd.ntmps70
    go_wp2_with (go_at_call 45; refine (white_any c _).mono ?_; rintro e w' ⟨rfl, rfl⟩; rw [HW.out])
    go_ret
    exact ⟨by rw [H.out, HW.out]; rfl, 0, rfl⟩
end Go.Proofs.YthaoohckgilahaaDoor

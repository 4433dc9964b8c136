/-
  Package attr: predicates that hold variables; quoted, value.
-/
import Derived.Test.YthaoohckgilahaaDoorAttr
import Derived.BigRegion
namespace Go.Proofs.YthaoohckgilahaaDoor
open Go.RowKit
set_option maxRecDepth 1000000

theorem passN_const (p : UInt8 → Bool) : ∀ (k : Nat) (l : List UInt8), passN (fun _ => p) k l = (l.takeWhile p).length
  | _, [] => rfl
  | k, c :: t => by
    rw [passN, List.takeWhile_cons]
    split
    · rw [passN_const p (k + 1) t]; rfl
    · rfl
theorem take_while (p : UInt8 → Bool) (l : List UInt8) : l.take (l.takeWhile p).length = l.takeWhile p := by
  conv => lhs; rw [← List.takeWhile_append_dropWhile (p := p) (l := l)]
  rw [List.takeWhile_append_dropWhile]
  have h := List.takeWhile_append_dropWhile (p := p) (l := l)
  conv => lhs; arg 2; rw [← h]
  rw [List.take_left]
theorem drop_while (p : UInt8 → Bool) (l : List UInt8) : l.drop (l.takeWhile p).length = l.dropWhile p := by
  have h := List.takeWhile_append_dropWhile (p := p) (l := l)
  conv => lhs; arg 2; rw [← h]
  rw [List.drop_left]
theorem pass_to (g : Nat) (s : ByteArray) (k : Nat) (gf : Nat) (lb : Array Value) (p : UInt8 → Bool) (l : List UInt8) (w : World) (hr : Rd w g s k) (hk : k ≤ s.size) (hl : s.data.toList.drop k = l) (hs : s.size ≤ 68719476735) (eg : ∀ args w, (callFunc gf args).run Tryd.prog w = .ok (.enter gf args) w)
    (hp : Says gf lb g s w (fun _ c => p c)) : Calls Tryd.prog 43 #[.pointer (some ⟨g, 0, none⟩), .func (.func gf) #[] lb] w fun e w' => e = .returned (.string ⟨(l.takeWhile p).toArray⟩) ∧ ∃ k', k' ≤ s.size ∧ Rd w' g s k' ∧ s.data.toList.drop k' = l.dropWhile p ∧ Bes g w w' := by
  refine (pass_any g s k gf lb (fun _ c => p c) w hr hk hs eg hp).mono ?_
  rintro e w' ⟨rfl, hr', hb⟩
  rw [hl, passN_const] at hr'
  rw [hl, passN_const, take_while]
  refine ⟨rfl, _, ?_, hr', ?_, hb⟩
  · have h1 : (l.takeWhile (fun c => p c)).length ≤ l.length := (List.takeWhile_prefix p).length_le
    have h2 : l.length = s.size - k := by rw [← hl, List.length_drop, ← Lib.size_eq]
    omega
  · rw [← drop_while p l, ← hl, List.drop_drop]
def headP (p : UInt8 → Bool) : List UInt8 → Bool | c :: _ => p c | [] => false
theorem hereP_drop (l : List UInt8) (p : UInt8 → Bool) (k : Nat) (r : List UInt8) (h : l.drop k = r) : hereP l (fun _ => p) k = headP p r := by
  unfold hereP
  rw [← List.head?_drop, h]
  cases r <;> rfl
theorem here_to (g : Nat) (s : ByteArray) (k : Nat) (gf : Nat) (lb : Array Value) (p : UInt8 → Bool) (l : List UInt8) (b : Bool) (w : World) (hr : Rd w g s k) (hk : k ≤ s.size) (hl : s.data.toList.drop k = l) (hb : headP p l = b) (eg : ∀ args w, (callFunc gf args).run Tryd.prog w = .ok (.enter gf args) w)
    (hp : Says gf lb g s w (fun _ c => p c)) : Calls Tryd.prog 46 #[.pointer (some ⟨g, 0, none⟩), .func (.func gf) #[] lb] w fun e w' => e = .returned (.bool b) ∧ Rd w' g s k ∧ Bel w w' := by
  refine (here_any g s k gf lb (fun _ c => p c) w hr hk eg hp).mono ?_
  rintro e w' ⟨rfl, m, rfl⟩
  rw [hereP_drop _ _ _ l hl, ← hb]
  exact ⟨rfl, Box.drewN hr m, (Bel.refl w).drewN m⟩
theorem one_any (l : ByteArray) (w : World) : Calls Tryd.prog 49 #[.string l] w fun e w' => e = .returned (.func (.func 65) #[] #[.pointer (some ⟨w.heap.size, 0, none⟩)]) ∧ w.alloc (.cells #[.string l] 9) = w' := by
  go_enter Tryd.func49, Tryd.ntmps49
  go_wp2_with fail
  go_ret
  exact ⟨rfl, rfl⟩
theorem says_one (g : Nat) (s : ByteArray) (w : World) (b : Nat) (l : ByteArray) (hb : b ≠ g) (hbox : Box w b 9 [.string l]) (p : UInt8 → Bool) (hp : ∀ c : UInt8, decide (0 ≤ Lib.indexByte l.data.toList c) = p c) : Says 65 #[.pointer (some ⟨b, 0, none⟩)] g s w (fun _ c => p c) := fun W _ c hB _ => by
  have hc := (hB.box hbox hb).cell 0 _ rfl
  have H := Lib.hid (hp c)
  show Calls Tryd.prog 65 #[.int .u8 (c.toNat : Int), .pointer (some ⟨b, 0, none⟩)] W _
  have he : ((c.toNat : Int)).toNat.toUInt8 = c := by rw [Int.toNat_natCast]; exact UInt8.ofNat_toNat
  have hcall := Tryd.strings_IndexByte l (c.toNat : Int) W
  rw [he] at hcall
  clear he hbox hB
  go_enter Tryd.func65, Tryd.ntmps65
  go_wp2_with (go_at_call 66; refine (hcall).mono ?_; rintro e w' ⟨rfl, rfl⟩)
  go_ret
  exact ⟨by rw [← H.out]; exact ret_bool (by simp), 0, rfl⟩
theorem says_not (g : Nat) (s : ByteArray) (w : World) (b : Nat) (q : UInt8) (hb : b ≠ g) (hbox : Box w b 5 [.int .u8 (q.toNat : Int)]) : Says 79 #[.pointer (some ⟨b, 0, none⟩)] g s w (fun _ c => c != q) := fun W _ c hB _ => by
  have hc := (hB.box hbox hb).cell 0 _ rfl
  have H := Lib.hid (show (c != q) = ((c.toNat : Int) != (q.toNat : Int)) by rw [bne, bne, byte_eq])
  show Calls Tryd.prog 79 #[.int .u8 (c.toNat : Int), .pointer (some ⟨b, 0, none⟩)] W _
  clear hbox hB
  go_enter Tryd.func79, Tryd.ntmps79
  go_wp2_with fail
  go_ret
  exact ⟨by rw [H.out]; rfl, 0, rfl⟩
theorem isQuote (c : UInt8) : decide (0 ≤ Lib.indexByte [34, 39] c) = (c == 34 || c == 39) := by
  have e1 : ((34 : UInt8) == c) = (c == 34) := by rw [Bool.eq_iff_iff, beq_iff_eq, beq_iff_eq]; exact ⟨Eq.symm, Eq.symm⟩
  have e2 : ((39 : UInt8) == c) = (c == 39) := by rw [Bool.eq_iff_iff, beq_iff_eq, beq_iff_eq]; exact ⟨Eq.symm, Eq.symm⟩
  simp only [Lib.indexByte, e1, e2]
  cases (c == 34) <;> cases (c == 39) <;> rfl
theorem isEq (c : UInt8) : decide (0 ≤ Lib.indexByte [61] c) = (c == 61) := by
  have e1 : ((61 : UInt8) == c) = (c == 61) := by rw [Bool.eq_iff_iff, beq_iff_eq, beq_iff_eq]; exact ⟨Eq.symm, Eq.symm⟩
  simp only [Lib.indexByte, e1]
  cases (c == 61) <;> rfl
theorem quoted_any (g : Nat) (s : ByteArray) (k : Nat) (q : UInt8) (l : List UInt8) (w : World) (hr : Rd w g s k) (hk : k ≤ s.size) (hl : s.data.toList.drop k = q :: l) (hs : s.size ≤ 68719476735) :
    Calls Tryd.prog 67 #[.pointer (some ⟨g, 0, none⟩)] w fun e w' => e = .returned (.tuple #[.string ⟨((M.quotedA q l).1.getD []).toArray⟩, .bool (M.quotedA q l).1.isSome]) ∧ ∃ k', k' ≤ s.size ∧ Rd w' g s k' ∧ s.data.toList.drop k' = (M.quotedA q l).2 ∧ Bes g w w' := by
  have hlen : s.size - k = l.length + 1 := by rw [Lib.size_eq, ← List.length_drop, hl]; rfl
  have hlt : k < s.size := by omega
  have hgl : g < w.heap.size := Box.lt hr
  have hgn : g ≠ w.heap.size := by omega
  have c0 := Box.cell hr 0 _ rfl
  have c1 := Box.cell hr 1 _ rfl
  have hq : s[k] = q := by
    have h1 := byte_at s k hlt
    rw [← List.head?_drop, hl] at h1
    injection h1 with h1
    exact h1.symm
  have hbd : (0 : Int) ≤ (k : Int) ∧ (k : Int) < (s.size : Int) := by omega
  go_enter Tryd.func67, Tryd.ntmps67
  go_wp2_with fail
  go_region
  have hbox : Box (w.alloc (.cells #[.int .u8 (q.toNat : Int)] 5)).drew w.heap.size 5 [.int .u8 (q.toNat : Int)] := Box.new w 5 [.int .u8 (q.toNat : Int)]
  have hb1 : Bel w (w.alloc (.cells #[.int .u8 (q.toNat : Int)] 5)).drew := ((Bel.refl w).alloc _).drew
  generalize (w.alloc (.cells #[.int .u8 (q.toNat : Int)] 5)).drew = W at *
  have hr1 := hr.bel hb1
  clear c0 c1 hr hgl
  have c1 := Box.cell hr1 1 _ rfl
  have f1 := Box.frozen hr1 1
  go_wp2_with fail
  have hr2 : Rd (W.setCell ⟨g, 1, none⟩ (.int .i64 ((k : Int) + 1))) g s (k + 1) := hr1.move (k + 1)
  have hB2 : Bes g w (W.setCell ⟨g, 1, none⟩ (.int .i64 ((k : Int) + 1))) := (Bes.of_bel hb1).setCell 1 _
  have hbox2 : Box (W.setCell ⟨g, 1, none⟩ (.int .i64 ((k : Int) + 1))) w.heap.size 5 [.int .u8 (q.toNat : Int)] := hbox.far (p := ⟨g, 1, none⟩) (fun h => hgn h.symm) _
  generalize W.setCell ⟨g, 1, none⟩ (.int .i64 ((k : Int) + 1)) = W2 at *
  have hl2 : s.data.toList.drop (k + 1) = l := by rw [← List.drop_drop, hl]; rfl
  refine (pass_to g s (k + 1) 79 #[.pointer (some ⟨w.heap.size, 0, none⟩)] (fun c => c != q) l W2 hr2 (by omega) hl2 hs (enters_of Tryd.func79 (by kernel_rfl) rfl) (says_not g s W2 _ q (fun h => hgn h.symm) hbox2)).mono ?_
  rintro e W3 ⟨rfl, k', hk', hr3, hl3, hB3⟩
  have hB := hB2.trans hB3
  have c0 := Box.cell hr3 0 _ rfl
  have c3 := Box.cell hr3 1 _ rfl
  clear hr1 hr2 c1 f1 hbox hbox2 hb1 hB2 hB3
  have hlen3 : s.size - k' = (l.dropWhile (fun c => c != q)).length := by rw [Lib.size_eq, ← List.length_drop, hl3]
  go_wp2_with fail
  go_quiet (fail)
  cases hd : l.dropWhile (fun c => c != q) with
  | nil =>
    have HQ := Lib.hid (show M.quotedA q l = (none, []) by rw [M.quotedA, hd])
    rw [hd, List.length_nil] at hlen3
    obtain rfl : k' = s.size := by omega
    clear hd
    go_wp2_with fail
    go_ret2
    rw [HQ.out]
    refine ⟨rfl, s.size, Nat.le_refl _, Box.drewN hr3 _, ?_, hB.trans (Bes.of_bel ((Bel.refl W3).drewN _))⟩
    rw [List.drop_eq_nil_of_le (by rw [← Lib.size_eq]; exact Nat.le_refl _)]
  | cons x u =>
    have HQ := Lib.hid (show M.quotedA q l = (some (l.takeWhile (fun c => c != q)), u) by rw [M.quotedA, hd])
    rw [hd, List.length_cons] at hlen3
    rw [hd] at hl3
    have hne : ((k' : Int) == (s.size : Int)) = false := by simp; omega
    clear hd
    have hr4 : Rd (W3.drewN nq) g s k' := Box.drewN hr3 _
    have hB4 : Bes g w (W3.drewN nq) := hB.trans (Bes.of_bel ((Bel.refl W3).drewN _))
    generalize W3.drewN nq = W4 at *
    clear c0 c3 hr3 hB
    have c3 := Box.cell hr4 1 _ rfl
    have f3 := Box.frozen hr4 1
    go_wp2_with fail
    go_ret2
    rw [HQ.out]
    refine ⟨rfl, k' + 1, by omega, hr4.move (k' + 1), ?_, hB4.setCell 1 _⟩
    rw [← List.drop_drop, hl3]; rfl
def attrOne (c : UInt8) : Bool := c == 34 || c == 39
theorem value_any (g : Nat) (s : ByteArray) (k : Nat) (l : List UInt8) (w : World) (hr : Rd w g s k) (hk : k ≤ s.size) (hl : s.data.toList.drop k = l) (hs : s.size ≤ 68719476735) :
    Calls Tryd.prog 51 #[.pointer (some ⟨g, 0, none⟩)] w fun e w' => e = .returned (.tuple #[.string ⟨((M.valueA l).1.getD []).toArray⟩, .bool (M.valueA l).1.isSome]) ∧ ∃ k', k' ≤ s.size ∧ Rd w' g s k' ∧ s.data.toList.drop k' = (M.valueA l).2 ∧ Bes g w w' := by
  have hgl : g < w.heap.size := Box.lt hr
  go_enter Tryd.func51, Tryd.ntmps51
  go_wp2_with fail
  refine (pass_to g s k 45 #[] M.white l w hr hk hl hs (enters_of Tryd.func45 (by kernel_rfl) rfl) (says_white g s w)).mono ?_
  rintro e W1 ⟨rfl, k1, hk1, hr1, hl1, hB1⟩
  go_wp2_with fail
  refine (one_any _ _).mono ?_
  rintro e W2 ⟨rfl, rfl⟩
  have hbq := Box.new W1 9 [.string ⟨#[34, 39]⟩]
  have hbb : Bel W1 (W1.alloc (.cells #[.string ⟨#[34, 39]⟩] 9)) := (Bel.refl W1).alloc _
  have hne : W1.heap.size ≠ g := by have := hB1.size; omega
  have hr2 := hr1.bel hbb
  have hB2 := hB1.trans (Bes.of_bel hbb)
  generalize (W1.alloc (.cells #[.string ⟨#[34, 39]⟩] 9)) = W2 at *
  have hq0 : ∃ b, headP attrOne (l.dropWhile M.white) = b := ⟨_, rfl⟩
  obtain ⟨b, hq0⟩ := hq0
  go_wp2_with fail
  refine (here_to g s k1 65 #[.pointer (some ⟨W1.heap.size, 0, none⟩)] attrOne _ b W2 hr2 hk1 hl1 hq0 (enters_of Tryd.func65 (by kernel_rfl) rfl) (says_one g s W2 _ ⟨#[34, 39]⟩ hne hbq attrOne isQuote)).mono ?_
  rintro e W3 ⟨rfl, hr3, hb3⟩
  have hB3 := hB2.trans (Bes.of_bel hb3)
  clear hr hr1 hr2 hB1 hB2 hb3 hbq hbb
  cases b with
  | true =>
    cases hd : l.dropWhile M.white with
    | nil => rw [hd] at hq0; cases hq0
    | cons q t =>
      rw [hd] at hl1 hq0
      have hq1 : q = 34 ∨ q = 39 := by simpa [headP, attrOne] using hq0
      have HV := Lib.hid (show M.valueA l = M.quotedA q t by rw [M.valueA, hd]; simp only; rw [if_pos hq1])
      clear hd
      go_wp2_with fail
      refine (quoted_any g s k1 q t W3 hr3 hk1 hl1 hs).mono ?_
      rintro e W4 ⟨rfl, k4, hk4, hr4, hl4, hB4⟩
      go_wp2_with fail
      go_ret2
      rw [HV.out]
      exact ⟨rfl, k4, hk4, hr4, hl4, hB3.trans hB4⟩
  | false =>
    have HV := Lib.hid (show M.valueA l = (some ((l.dropWhile M.white).takeWhile M.valB), (l.dropWhile M.white).dropWhile M.valB) by
      unfold M.valueA
      cases hd : l.dropWhile M.white with
      | nil => rfl
      | cons q t =>
        rw [hd] at hq0
        have hq1 : ¬ (q = 34 ∨ q = 39) := by simpa [headP, attrOne] using hq0
        simp only
        rw [if_neg hq1])
    go_wp2_with fail
    refine (pass_to g s k1 68 #[] M.valB _ W3 hr3 hk1 hl1 hs (enters_of Tryd.func68 (by kernel_rfl) rfl) (says_val g s W3)).mono ?_
    rintro e W4 ⟨rfl, k4, hk4, hr4, hl4, hB4⟩
    go_wp2_with fail
    go_ret2
    rw [HV.out]
    exact ⟨rfl, k4, hk4, hr4, hl4, hB3.trans hB4⟩
end Go.Proofs.YthaoohckgilahaaDoor

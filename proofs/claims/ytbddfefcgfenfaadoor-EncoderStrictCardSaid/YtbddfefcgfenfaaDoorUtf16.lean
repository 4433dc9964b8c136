/-
  Package utf16: what unit, high, low, Told compute.
-/
import Derived.Test.YtbddfefcgfenfaaDoorBase5
import Derived.Test.YtbddfefcgfenfaaDoorBits
import Derived.Test.YtbddfefcgfenfaaDoorPlainUtf16
namespace Go.Proofs.YtbddfefcgfenfaaDoor
open Go.RowKit
set_option maxRecDepth 1000000

theorem unit_any (big : Bool) (a b : UInt8) (w : World) : Calls Tryd.prog 192 #[.bool big, .int .u8 (a.toNat : Int), .int .u8 (b.toNat : Int)] w fun e w' => e = .returned (.int .i64 (M.unit16 big a b)) ∧ w = w' := by
  have ha := a.toNat_lt
  have hb := b.toNat_lt
  cases big
  · have H := Lib.hid (show M.unit16 false a b = (b.toNat : Int) * 256 + (a.toNat : Int) by simp only [M.unit16, Bool.false_eq_true, if_false]; omega)
    have o1 := or_256 (b.toNat : Int) (a.toNat : Int) (by omega) (by omega) (by omega) (by omega)
    generalize a.toNat = x at ha o1 H
    generalize b.toNat = y at hb o1 H
    go_enter Tryd.func192, Tryd.ntmps192
    go_wp2_with fail
    go_ret
    rw [H.out]
    exact ⟨rfl, rfl⟩
  · have H := Lib.hid (show M.unit16 true a b = (a.toNat : Int) * 256 + (b.toNat : Int) by simp only [M.unit16, if_true]; omega)
    have o1 := or_256 (a.toNat : Int) (b.toNat : Int) (by omega) (by omega) (by omega) (by omega)
    generalize a.toNat = x at ha o1 H
    generalize b.toNat = y at hb o1 H
    go_enter Tryd.func192, Tryd.ntmps192
    go_wp2_with fail
    go_ret
    rw [H.out]
    exact ⟨rfl, rfl⟩
theorem quietL {P : Program} {f : FuncId} {args : Array Value} {w : World} {n : Nat} {v : Value} (h : Calls P f args (w.drewN n) fun e w' => e = .returned v ∧ w.drewN n = w') : Calls P f args (w.drewN n) fun e w'' => e = .returned v ∧ ∃ m, w'' = w.drewN m :=
  h.mono fun _ _ ⟨he, hm⟩ => ⟨he, n, hm.symm⟩
theorem head_at (s : ByteArray) (k : Nat) (c : UInt8) (h : s.data.toList[k]? = some c) : ∃ hk : k < s.size, s[k] = c := by
  have hk : k < s.size := by rw [Lib.size_eq]; exact (List.getElem?_eq_some_iff.1 h).1
  refine ⟨hk, ?_⟩
  have := byte_at s k hk
  rw [h] at this
  injection this with this
  exact this.symm
theorem runit0_any (g : Nat) (big : Bool) (s : ByteArray) (a b : UInt8) (t : List UInt8) (w : World) (hB : Box w g 169 [.bool big, .string s]) (hs : s.data.toList = a :: b :: t) (hsz : s.size ≤ 68719476735) : Calls Tryd.prog 173 #[.pointer (some ⟨g, 0, none⟩), .int .i64 0] w fun e w' => e = .returned (.int .i64 (M.unit16 big a b)) ∧ ∃ q, w.drewN q = w' := by
  have c0 := hB.cell 0 _ rfl
  have c1 := hB.cell 1 _ rfl
  obtain ⟨k0, h0⟩ := head_at s 0 a (by rw [hs]; rfl)
  obtain ⟨k1, h1⟩ := head_at s 1 b (by rw [hs]; rfl)
  clear hs
  go_enter Tryd.func173, Tryd.ntmps173
  go_wp2_with fail
  go_quiet ((go_at_call 192; exact quietL (unit_any _ _ _ _)))
  go_wp2_with fail
  go_ret
  exact ⟨rfl, _, rfl⟩
theorem high_any16 (n : Int) (h0 : 0 ≤ n) (h1 : n ≤ 65535) (w : World) : Calls Tryd.prog 174 #[.int .i64 n] w fun e w' => e = .returned (.bool (M.isHi n)) ∧ w = w' := by
  have H := Lib.hid (show M.isHi n = (n / 1024 == 54) by rw [M.isHi, Bool.eq_iff_iff, decide_eq_true_eq, beq_iff_eq]; omega)
  go_enter Tryd.func174, Tryd.ntmps174
  go_wp2_with fail
  go_ret
  rw [H.out]
  exact ⟨rfl, rfl⟩
theorem low_any16 (n : Int) (h0 : 0 ≤ n) (h1 : n ≤ 65535) (w : World) : Calls Tryd.prog 175 #[.int .i64 n] w fun e w' => e = .returned (.bool (M.isLo n)) ∧ w = w' := by
  have H := Lib.hid (show M.isLo n = (n / 1024 == 55) by rw [M.isLo, Bool.eq_iff_iff, decide_eq_true_eq, beq_iff_eq]; omega)
  go_enter Tryd.func175, Tryd.ntmps175
  go_wp2_with fail
  go_ret
  rw [H.out]
  exact ⟨rfl, rfl⟩
theorem runit2_any (g : Nat) (big : Bool) (s : ByteArray) (x y a b : UInt8) (t : List UInt8) (w : World) (hB : Box w g 169 [.bool big, .string s]) (hs : s.data.toList = x :: y :: a :: b :: t) (hsz : s.size ≤ 68719476735) : Calls Tryd.prog 173 #[.pointer (some ⟨g, 0, none⟩), .int .i64 2] w fun e w' => e = .returned (.int .i64 (M.unit16 big a b)) ∧ ∃ q, w.drewN q = w' := by
  have c0 := hB.cell 0 _ rfl
  have c1 := hB.cell 1 _ rfl
  obtain ⟨k0, h0⟩ := head_at s 2 a (by rw [hs]; rfl)
  obtain ⟨k1, h1⟩ := head_at s 3 b (by rw [hs]; rfl)
  clear hs
  go_enter Tryd.func173, Tryd.ntmps173
  go_wp2_with fail
  go_quiet ((go_at_call 192; exact quietL (unit_any _ _ _ _)))
  go_wp2_with fail
  go_ret
  exact ⟨rfl, _, rfl⟩
theorem runit0_to (g : Nat) (big : Bool) (s : ByteArray) (a b : UInt8) (t : List UInt8) (n : Int) (w : World) (hB : Box w g 169 [.bool big, .string s]) (hs : s.data.toList = a :: b :: t) (hn : M.unit16 big a b = n) (hsz : s.size ≤ 68719476735) : Calls Tryd.prog 173 #[.pointer (some ⟨g, 0, none⟩), .int .i64 0] w fun e w' => e = .returned (.int .i64 n) ∧ ∃ q, w.drewN q = w' := by
  have := runit0_any g big s a b t w hB hs hsz; rw [hn] at this; exact this
theorem runit2_to (g : Nat) (big : Bool) (s : ByteArray) (x y a b : UInt8) (t : List UInt8) (n : Int) (w : World) (hB : Box w g 169 [.bool big, .string s]) (hs : s.data.toList = x :: y :: a :: b :: t) (hn : M.unit16 big a b = n) (hsz : s.size ≤ 68719476735) : Calls Tryd.prog 173 #[.pointer (some ⟨g, 0, none⟩), .int .i64 2] w fun e w' => e = .returned (.int .i64 n) ∧ ∃ q, w.drewN q = w' := by
  have := runit2_any g big s x y a b t w hB hs hsz; rw [hn] at this; exact this
theorem high_to (n : Int) (b : Bool) (h : M.isHi n = b) (h0 : 0 ≤ n) (h1 : n ≤ 65535) (w : World) : Calls Tryd.prog 174 #[.int .i64 n] w fun e w' => e = .returned (.bool b) ∧ w = w' := by
  have := high_any16 n h0 h1 w; rw [h] at this; exact this
theorem low_to (n : Int) (b : Bool) (h : M.isLo n = b) (h0 : 0 ≤ n) (h1 : n ≤ 65535) (w : World) : Calls Tryd.prog 175 #[.int .i64 n] w fun e w' => e = .returned (.bool b) ∧ w = w' := by
  have := low_any16 n h0 h1 w; rw [h] at this; exact this
def cellLen (w : World) (a : Addr) : Nat := match w.cell? a with | some (.string s) => s.size | _ => 0
theorem cellLen_of {w : World} {a : Addr} {s : ByteArray} (h : w.cell? a = some (.string s)) : cellLen w a = s.size := by unfold cellLen; rw [h]
theorem told16_any (big : Bool) (s : ByteArray) (hs : s.size ≤ 68719476735) (w : World) : Calls Tryd.prog 154 #[.bool big, .string s] w fun e w' => ∃ v, e = .returned (.tuple #[v, .string ⟨(M.told16 big s.data.toList).2.toArray⟩]) ∧ Own w.heap.size 3 w' v ((M.told16 big s.data.toList).1.map (Value.int .i64)) ∧ Bel w w' := by
  go_enter Tryd.func154, Tryd.ntmps154
  go_wp2_with fail
  go_loopw [7] (fun v wr => ∃ (s' : ByteArray) (xs : List Int), Box wr w.heap.size 169 [.bool big, .string s'] ∧ xs.length + s'.size ≤ s.size ∧ Hid (M.told16 big s.data.toList = (xs ++ (M.told16 big s'.data.toList).1, (M.told16 big s'.data.toList).2)) ∧ Own (w.heap.size + 1) 3 wr v (xs.map (Value.int .i64)) ∧ Below w.heap.size w wr) (fun _ wr => cellLen wr ⟨w.heap.size, 1, none⟩)
  case atStart => exact ⟨s, [], Box.new _ _ _, by simp, Lib.hid (by simp), Own.nil _ _ _, (Below.refl _ _).alloc (Nat.le_refl _) _⟩
  case round =>
    obtain ⟨s', xs, hB, hle, HT, hown, hb⟩ := hrel
    have c0 := hB.cell 0 _ rfl
    have c1 := hB.cell 1 _ rfl
    have f1 := hB.frozen 1
    by_cases h2 : 2 ≤ s'.size
    · have hz : s'.data.toList.length = s'.size := (Lib.size_eq s').symm
      obtain ⟨a, b, t, hab⟩ : ∃ a b t, s'.data.toList = a :: b :: t := by
        match hq : s'.data.toList with
        | [] => rw [hq] at hz; simp at hz; omega
        | [a] => rw [hq] at hz; simp at hz; omega
        | a :: b :: t => exact ⟨a, b, t, rfl⟩
      have htl : s'.size = t.length + 2 := by rw [← hz, hab]; rfl
      obtain ⟨u0, u1⟩ := M.unit16_le big a b
      have HAB := Lib.hid hab
      rcases M.say16 big a b t with ⟨g1, e1⟩ | ⟨g1, g2, e1⟩ | ⟨c, d, u, rfl, g1, g2, e1⟩ | ⟨c, d, u, rfl, g1, g2, e1⟩
      · -- a unit by itself
        have HF := Lib.hid (show M.told16 big s.data.toList = ((xs ++ [M.one16 (M.unit16 big a b)]) ++ (M.told16 big (s'.extract 2 s'.size).data.toList).1, (M.told16 big (s'.extract 2 s'.size).data.toList).2) by
          rw [HT.out, drop_str, hab, e1]; simp)
        have HS := Lib.hid (drop_size s' 2)
        obtain ⟨n, hn⟩ : ∃ n, M.unit16 big a b = n := ⟨_, rfl⟩
        rw [hn] at g1 u0 u1 HF
        have HN := Lib.hid hn
        have HG := Lib.hid g1
        clear hz hab e1 g1 htl hn
        cases hlo : M.isLo n with
        | true =>
          have HL := Lib.hid hlo
          have HO := Lib.hid (show M.one16 n = 65533 by rw [M.one16, if_pos hlo])
          clear hlo
          rw [HO.out] at HF
          go_wp2_with fail
          refine (runit0_to _ big s' a b t n _ hB HAB.out HN.out (by omega)).mono ?_
          rintro e w1 ⟨rfl, q, rfl⟩
          have hsz : w.heap.size + 1 ≤ (wr.drewN q).heap.size := hB.lt
          go_wp2_with (first | (go_at_call 174; refine (high_to n false HG.out u0 u1 _).mono ?_; rintro e w' ⟨rfl, rfl⟩) | (go_at_call 175; refine (low_to n true HL.out u0 u1 _).mono ?_; rintro e w' ⟨rfl, rfl⟩) | ((at_builtin; refine wpList_app rfl (.tmp 61) (.tmp 63) 36 rfl elemInt (by decide) (w.heap.size + 1) _ _ _ rfl rfl (hown.drewN q) rfl (by simp; omega) (by first | exact Nat.le_refl _ | assumption | (have := hb.size; omega)) ?_; intro v' w1 hown' hb1); have hB1 := (hB.drewN q).upto hb1 (Nat.lt_succ_self _); have d1 := hB1.cell 1 _ rfl; have d2 := hB1.frozen 1))
          go_roundw
          case rel => exact ⟨_, xs ++ [65533], hB1.set 1 _, by rw [HS.out, List.length_append, List.length_singleton]; omega, HF, by rw [List.map_append]; exact hown'.setCell (by simp) _, bel_store (Bel.drewN hb q) hb1 (Nat.le_succ _) (Nat.le_refl _) _⟩
          case measure => rw [cellLen_of c1, cellLen_of ((hB1.set 1 _).cell 1 _ rfl), HS.out]; omega
        | false =>
          have HL := Lib.hid hlo
          have HO := Lib.hid (show M.one16 n = n by rw [M.one16, if_neg (by rw [hlo]; decide)])
          clear hlo
          rw [HO.out] at HF
          go_wp2_with fail
          refine (runit0_to _ big s' a b t n _ hB HAB.out HN.out (by omega)).mono ?_
          rintro e w1 ⟨rfl, q, rfl⟩
          have hsz : w.heap.size + 1 ≤ (wr.drewN q).heap.size := hB.lt
          go_wp2_with (first | (go_at_call 174; refine (high_to n false HG.out u0 u1 _).mono ?_; rintro e w' ⟨rfl, rfl⟩) | (go_at_call 175; refine (low_to n false HL.out u0 u1 _).mono ?_; rintro e w' ⟨rfl, rfl⟩) | ((at_builtin; refine wpList_app rfl (.tmp 61) (.tmp 63) 36 rfl elemInt (by decide) (w.heap.size + 1) _ _ _ rfl rfl (hown.drewN q) rfl (by simp; omega) (by first | exact Nat.le_refl _ | assumption | (have := hb.size; omega)) ?_; intro v' w1 hown' hb1); have hB1 := (hB.drewN q).upto hb1 (Nat.lt_succ_self _); have d1 := hB1.cell 1 _ rfl; have d2 := hB1.frozen 1))
          go_roundw
          case rel => exact ⟨_, xs ++ [n], hB1.set 1 _, by rw [HS.out, List.length_append, List.length_singleton]; omega, HF, by rw [List.map_append]; exact hown'.setCell (by simp) _, bel_store (Bel.drewN hb q) hb1 (Nat.le_succ _) (Nat.le_refl _) _⟩
          case measure => rw [cellLen_of c1, cellLen_of ((hB1.set 1 _).cell 1 _ rfl), HS.out]; omega
      · -- more must come
        have HF := Lib.hid (show M.told16 big s.data.toList = (xs, s'.data.toList) by
          rw [HT.out, hab, e1]; simp)
        obtain ⟨n, hn⟩ : ∃ n, M.unit16 big a b = n := ⟨_, rfl⟩
        rw [hn] at g1 u0 u1
        have HN := Lib.hid hn
        have HG := Lib.hid g1
        have h4 : s'.size < 4 := by omega
        clear hz hab e1 g1 htl hn
        go_wp2_with fail
        refine (runit0_to _ big s' a b t n _ hB HAB.out HN.out (by omega)).mono ?_
        rintro e w1 ⟨rfl, q, rfl⟩
        go_wp2_with (first | (go_at_call 174; refine (high_to n true HG.out u0 u1 _).mono ?_; rintro e w' ⟨rfl, rfl⟩))
        go_quiet (fail)
        go_wp2_with fail
        go_ret2
        rw [HF.out]
        exact ⟨_, by rw [str_eq]; rfl, ((hown.mono (by omega)).drewN _).drewN _, Bel.drewN (Bel.drewN hb _) _⟩
      · -- two units
        have HF := Lib.hid (show M.told16 big s.data.toList = ((xs ++ [M.pair16 (M.unit16 big a b) (M.unit16 big c d)]) ++ (M.told16 big (s'.extract 4 s'.size).data.toList).1, (M.told16 big (s'.extract 4 s'.size).data.toList).2) by
          rw [HT.out, drop_str, hab, e1]; simp)
        have HS := Lib.hid (drop_size s' 4)
        obtain ⟨v0, v1⟩ := M.unit16_le big c d
        obtain ⟨n, hn⟩ : ∃ n, M.unit16 big a b = n := ⟨_, rfl⟩
        obtain ⟨m, hm⟩ : ∃ m, M.unit16 big c d = m := ⟨_, rfl⟩
        rw [hn] at g1 u0 u1 HF
        rw [hm] at g2 v0 v1 HF
        have g1' := g1
        have g2' := g2
        simp only [M.isHi, decide_eq_true_eq] at g1'
        simp only [M.isLo, decide_eq_true_eq] at g2'
        have HN := Lib.hid hn
        have HM := Lib.hid hm
        have HG := Lib.hid g1
        have HL := Lib.hid g2
        have HP := Lib.hid (show M.pair16 n m = 65536 + (n - 55296) * 1024 + m - 56320 by rw [M.pair16]; omega)
        have h4 : 4 ≤ s'.size := by simp only [List.length_cons] at htl; omega
        clear hz hab e1 g1 g2 htl hn hm
        rw [HP.out] at HF
        go_wp2_with fail
        refine (runit0_to _ big s' a b (c :: d :: u) n _ hB HAB.out HN.out (by omega)).mono ?_
        rintro e w1 ⟨rfl, q, rfl⟩
        go_wp2_with (first | (go_at_call 174; refine (high_to n true HG.out u0 u1 _).mono ?_; rintro e w' ⟨rfl, rfl⟩))
        refine (runit2_to _ big s' a b c d u m _ (hB.drewN q) HAB.out HM.out (by omega)).mono ?_
        rintro e w1 ⟨rfl, q2, rfl⟩
        go_wp2_with (first | (go_at_call 175; refine (low_to m true HL.out v0 v1 _).mono ?_; rintro e w' ⟨rfl, rfl⟩))
        refine (runit2_to _ big s' a b c d u m _ (hB.drewN _) HAB.out HM.out (by omega)).mono ?_
        rintro e w1 ⟨rfl, q3, rfl⟩
        have hsz : ∀ k, w.heap.size + 1 ≤ (wr.drewN k).heap.size := fun _ => hB.lt
        go_wp2_with (first | fail | (at_builtin; refine wpList_app rfl (.tmp 61) (.tmp 63) 36 rfl elemInt (by decide) (w.heap.size + 1) _ _ _ rfl rfl (hown.drewN _) rfl (by simp; omega) (hsz _) ?_; intro v' w1 hown' hb1; have hB1 := (hB.drewN _).upto hb1 (Nat.lt_succ_self _); have d1 := hB1.cell 1 _ rfl; have d2 := hB1.frozen 1))
        go_roundw
        case rel => exact ⟨_, xs ++ [65536 + (n - 55296) * 1024 + m - 56320], hB1.set 1 _, by rw [HS.out, List.length_append, List.length_singleton]; omega, HF, by rw [List.map_append]; exact hown'.setCell (by simp) _, bel_store (Bel.drewN hb _) hb1 (Nat.le_succ _) (Nat.le_refl _) _⟩
        case measure => rw [cellLen_of c1, cellLen_of ((hB1.set 1 _).cell 1 _ rfl), HS.out]; omega
      · -- the first one alone
        have HF := Lib.hid (show M.told16 big s.data.toList = ((xs ++ [65533]) ++ (M.told16 big (s'.extract 2 s'.size).data.toList).1, (M.told16 big (s'.extract 2 s'.size).data.toList).2) by
          rw [HT.out, drop_str, hab, e1]; simp)
        have HS := Lib.hid (drop_size s' 2)
        obtain ⟨v0, v1⟩ := M.unit16_le big c d
        obtain ⟨n, hn⟩ : ∃ n, M.unit16 big a b = n := ⟨_, rfl⟩
        obtain ⟨m, hm⟩ : ∃ m, M.unit16 big c d = m := ⟨_, rfl⟩
        rw [hn] at g1 u0 u1
        rw [hm] at g2 v0 v1
        have HN := Lib.hid hn
        have HM := Lib.hid hm
        have HG := Lib.hid g1
        have HL := Lib.hid g2
        have h4 : 4 ≤ s'.size := by simp only [List.length_cons] at htl; omega
        clear hz hab e1 g1 g2 htl hn hm
        go_wp2_with fail
        refine (runit0_to _ big s' a b (c :: d :: u) n _ hB HAB.out HN.out (by omega)).mono ?_
        rintro e w1 ⟨rfl, q, rfl⟩
        go_wp2_with (first | (go_at_call 174; refine (high_to n true HG.out u0 u1 _).mono ?_; rintro e w' ⟨rfl, rfl⟩))
        refine (runit2_to _ big s' a b c d u m _ (hB.drewN q) HAB.out HM.out (by omega)).mono ?_
        rintro e w1 ⟨rfl, q2, rfl⟩
        have hsz : ∀ k, w.heap.size + 1 ≤ (wr.drewN k).heap.size := fun _ => hB.lt
        go_wp2_with (first | (go_at_call_of 175 (Value.int .i64 m); refine (low_to m false HL.out v0 v1 _).mono ?_; rintro e w' ⟨rfl, rfl⟩) | (go_at_call 174; refine (high_to n true HG.out u0 u1 _).mono ?_; rintro e w' ⟨rfl, rfl⟩) | (at_builtin; refine wpList_app rfl (.tmp 61) (.tmp 63) 36 rfl elemInt (by decide) (w.heap.size + 1) _ _ _ rfl rfl (hown.drewN _) rfl (by simp; omega) (hsz _) ?_; intro v' w1 hown' hb1; have hB1 := (hB.drewN _).upto hb1 (Nat.lt_succ_self _); have d1 := hB1.cell 1 _ rfl; have d2 := hB1.frozen 1))
        go_roundw
        case rel => exact ⟨_, xs ++ [65533], hB1.set 1 _, by rw [HS.out, List.length_append, List.length_singleton]; omega, HF, by rw [List.map_append]; exact hown'.setCell (by simp) _, bel_store (Bel.drewN hb _) hb1 (Nat.le_succ _) (Nat.le_refl _) _⟩
        case measure => rw [cellLen_of c1, cellLen_of ((hB1.set 1 _).cell 1 _ rfl), HS.out]; omega
    · have HF := Lib.hid (show M.told16 big s.data.toList = (xs, s'.data.toList) by
        have hl : s'.data.toList.length ≤ 1 := by rw [← Lib.size_eq]; omega
        rw [HT.out]
        match hq : s'.data.toList, hl with
        | [], _ => rw [M.told16_nil]; simp
        | [a], _ => rw [M.told16_one]; simp
        | _ :: _ :: _, hl => simp at hl)
      go_wp2_with fail
      go_quiet (fail)
      go_wp2_with fail
      go_ret2
      rw [HF.out]
      exact ⟨_, by rw [str_eq]; rfl, (hown.mono (by omega)).drewN _, Bel.drewN hb _⟩
end Go.Proofs.YtbddfefcgfenfaaDoor

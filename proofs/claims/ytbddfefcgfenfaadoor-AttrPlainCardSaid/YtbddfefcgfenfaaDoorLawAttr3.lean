/-
  The law AttrPlain.
-/
import Derived.Test.YtbddfefcgfenfaaDoorLawAttr2
namespace Go.Proofs.YtbddfefcgfenfaaDoor
open Go.RowKit
set_option maxRecDepth 1000000

theorem nextPlain (s n v : ByteArray) (r : List UInt8) (k : Int) (hn : M.nextA s.data.toList = (some (n.data.toList, v.data.toList), r)) (hs : s.size ≤ 3000) (hk : ((s.size - r.length : Nat) : Int) = k) (w : World) : Calls Tryd.prog 34 #[.string s, .int .i64 0] w fun e w' => e = .returned (.tuple #[.agg #[.string n, .string v], .int .i64 k, .bool true, .int .i64 0]) ∧ Bel w w' := by
  have h0 : readyA s.data.toList ((0 : Nat) : Int) = 0 := by
    unfold readyA
    rw [← Lib.size_eq, if_neg (by omega), if_neg (by omega)]
  refine (nextOk_any s 0 (Nat.zero_le _) hs (some (n.data.toList, v.data.toList)) r (by rw [List.drop_zero]; exact hn) h0 w).mono ?_
  rintro e w' ⟨rfl, hb⟩
  refine ⟨?_, hb⟩
  rw [hk]
  have h1 : agA (some (n.data.toList, v.data.toList)) = .agg #[.string n, .string v] := by
    show Value.agg #[.string ⟨n.data.toList.toArray⟩, .string ⟨v.data.toList.toArray⟩] = _
    rw [str_eq, str_eq]
  rw [h1]; rfl
theorem plainly_to (s : ByteArray) (b : Bool) (hs : s.size ≤ 9223372036854775800) (h : plainS s.data.toList = b) (w : World) : Calls Tryd.prog 43 #[.string s] w fun e w' => e = .returned (.bool b) ∧ w = w' := by
  have := plainly_any s w hs; rw [h] at this; exact this
set_option maxHeartbeats 4000000 in
theorem attrPlainTrue (n v b : ByteArray) (w : World) (hn0 : n.size ≤ reachBytes) (hv0 : v.size ≤ reachBytes) (hb0 : b.size ≤ reachBytes) (hL : Len w) : Calls Tryd.prog 9 #[.string n, .string v, .string b] w fun e w' => e = .returned (.bool true) ∧ Bel w w' := by
  have hn : n.size ≤ 140737488351232 := hn0
  have hv : v.size ≤ 140737488351232 := hv0
  have hb : b.size ≤ 140737488351232 := hb0
  clear hn0 hv0 hb0
  cases hp : plainS n.data.toList with
  | false =>
    have HN := Lib.hid hp
    have HV := HN
    clear hp
    go_enter Tryd.func9, Tryd.ntmps9
    go_wp2_with (first | (go_at_call 41; refine (attrBegun_any _ hL).mono ?_; rintro e w1 ⟨rfl, b1⟩) | (go_at_call 43; (first | with_reducible refine (plainly_to n _ (by omega) HN.out _).mono ?_ | with_reducible refine (plainly_to v _ (by omega) HV.out _).mono ?_); rintro e w' ⟨rfl, rfl⟩))
    go_ret
    exact ⟨rfl, b1⟩
  | true =>
    cases hq : plainS v.data.toList with
    | false =>
      have HN := Lib.hid hp
      have HV := Lib.hid hq
      clear hp hq
      go_enter Tryd.func9, Tryd.ntmps9
      go_wp2_with (first | (go_at_call 41; refine (attrBegun_any _ hL).mono ?_; rintro e w1 ⟨rfl, b1⟩) | (go_at_call 43; (first | with_reducible refine (plainly_to n _ (by omega) HN.out _).mono ?_ | with_reducible refine (plainly_to v _ (by omega) HV.out _).mono ?_); rintro e w' ⟨rfl, rfl⟩))
      go_ret
      exact ⟨rfl, b1⟩
    | true =>
      have HN := Lib.hid hp
      have HV := Lib.hid hq
      by_cases hl : 2991 < n.size + v.size + b.size
      · clear hp hq
        go_enter Tryd.func9, Tryd.ntmps9
        go_wp2_with (first | (go_at_call 41; refine (attrBegun_any _ hL).mono ?_; rintro e w1 ⟨rfl, b1⟩) | (go_at_call 43; (first | with_reducible refine (plainly_to n _ (by omega) HN.out _).mono ?_ | with_reducible refine (plainly_to v _ (by omega) HV.out _).mono ?_); rintro e w' ⟨rfl, rfl⟩))
        go_ret
        exact ⟨rfl, b1⟩
      · have pl : ∀ l : List UInt8, plainS l = true → l.all M.plainB = true ∧ l ≠ [] := fun l h => by
          rw [plainS, Bool.and_eq_true] at h
          refine ⟨h.1, fun e => ?_⟩
          rw [e] at h
          exact absurd h.2 (by decide)
        obtain ⟨pn, pn0⟩ := pl _ hp
        obtain ⟨pv, pv0⟩ := pl _ hq
        have sn := Lib.size_eq n
        have sv := Lib.size_eq v
        have sb := Lib.size_eq b
        obtain ⟨z0, hz0⟩ : ∃ z0 : ByteArray, n ++ ⟨#[61]⟩ ++ v ++ ⟨#[32]⟩ = z0 := ⟨_, rfl⟩
        obtain ⟨z1, hz1⟩ : ∃ z1 : ByteArray, ⟨#[32]⟩ ++ n ++ ⟨#[61, 39]⟩ ++ v ++ ⟨#[39]⟩ = z1 := ⟨_, rfl⟩
        obtain ⟨z2, hz2⟩ : ∃ z2 : ByteArray, ⟨#[47]⟩ ++ n ++ ⟨#[32, 61, 32, 34]⟩ ++ v ++ ⟨#[34]⟩ = z2 := ⟨_, rfl⟩
        have l0 : z0.size = n.size + v.size + 2 := by rw [← hz0, Lib.size_eq]; simp only [data_append, List.length_append, ← Lib.size_eq]; simp; omega
        have l1 : z1.size = n.size + v.size + 4 := by rw [← hz1, Lib.size_eq]; simp only [data_append, List.length_append, ← Lib.size_eq]; simp; omega
        have l2 : z2.size = n.size + v.size + 6 := by rw [← hz2, Lib.size_eq]; simp only [data_append, List.length_append, ← Lib.size_eq]; simp; omega
        have a0 : (z0 ++ b).size = z0.size + b.size := by rw [Lib.size_eq, data_append, List.length_append, ← Lib.size_eq, ← Lib.size_eq]
        have a1 : (z1 ++ b).size = z1.size + b.size := by rw [Lib.size_eq, data_append, List.length_append, ← Lib.size_eq, ← Lib.size_eq]
        have a2 : (z2 ++ b).size = z2.size + b.size := by rw [Lib.size_eq, data_append, List.length_append, ← Lib.size_eq, ← Lib.size_eq]
        have N0 := Lib.hid (nextPlain (z0 ++ b) n v (32 :: b.data.toList) ((z0.size : Int) - 1) (by rw [data_append, ← hz0]; simp only [data_append]; exact M.next_plain0 _ _ _ pn pn0 pv pv0) (by omega) (by rw [List.length_cons, ← sb, a0]; omega))
        have N1 := Lib.hid (nextPlain (z1 ++ b) n v b.data.toList (z1.size : Int) (by rw [data_append, ← hz1]; simp only [data_append]; exact M.next_plain1 _ _ _ pn pn0 pv) (by omega) (by rw [← sb, a1]; omega))
        have N2 := Lib.hid (nextPlain (z2 ++ b) n v b.data.toList (z2.size : Int) (by rw [data_append, ← hz2]; simp only [data_append]; exact M.next_plain2 _ _ _ pn pn0 pv) (by omega) (by rw [← sb, a2]; omega))
        have m0 : z0.size ≤ 3000 := by omega
        have m1 : z1.size ≤ 3000 := by omega
        have m2 : z2.size ≤ 3000 := by omega
        have p0 : 2 ≤ z0.size := by omega
        have HZ0 := Lib.hid hz0
        have HZ1 := Lib.hid hz1
        have HZ2 := Lib.hid hz2
        clear hp hq pl pn pn0 pv pv0 sn sv sb l0 l1 l2 a0 a1 a2 hz0 hz1 hz2
        go_enter Tryd.func9, Tryd.ntmps9
        go_wp2_with (first | (go_at_call 41; refine (attrBegun_any _ hL).mono ?_; rintro e w1 ⟨rfl, b1⟩) | (go_at_call 43; (first | with_reducible refine (plainly_to n _ (by omega) HN.out _).mono ?_ | with_reducible refine (plainly_to v _ (by omega) HV.out _).mono ?_); rintro e w' ⟨rfl, rfl⟩))
        rw [HZ0.out, HZ1.out, HZ2.out]
        have hB := Box.new w1 9 [.string z0, .string z1, .string z2]
        have bA := b1.alloc (.cells #[.string z0, .string z1, .string z2] 9)
        have hB : Box (w1.alloc (.cells #[.string z0, .string z1, .string z2] 9)) w1.heap.size 9 [.string z0, .string z1, .string z2] := hB
        generalize (w1.alloc (.cells #[.string z0, .string z1, .string z2] 9)) = W at *
        have c0 := hB.cell 0 _ rfl
        clear b1
        refine wp_loop_rounds 4 ?_
        rw [rounds_succ]
        go_wp2_with fail
        refine (N0.out _).mono ?_
        rintro e w2 ⟨rfl, b2⟩
        have hB := hB.bel b2
        have bA := bA.trans b2
        have c0 := hB.cell 0 _ rfl
        have hl2 := hB.lt
        clear b2
        go_wp2_with fail
        have bA := bA.alloc (.cells #[.string n, .string v] 46)
        have hB := hB.bel ((Bel.refl w2).alloc (.cells #[.string n, .string v] 46))
        generalize (w2.alloc (.cells #[.string n, .string v] 46)) = W0 at *
        clear c0 hl2
        have c1 := hB.cell 1 _ rfl
        rw [rounds_succ]
        go_wp2_with fail
        refine (N1.out _).mono ?_
        rintro e w2 ⟨rfl, b2⟩
        have hB := hB.bel b2
        have bA := bA.trans b2
        have c1 := hB.cell 1 _ rfl
        have hl2 := hB.lt
        clear b2
        go_wp2_with fail
        have bA := bA.alloc (.cells #[.string n, .string v] 46)
        have hB := hB.bel ((Bel.refl w2).alloc (.cells #[.string n, .string v] 46))
        generalize (w2.alloc (.cells #[.string n, .string v] 46)) = W1 at *
        clear c1 hl2
        have c2 := hB.cell 2 _ rfl
        rw [rounds_succ]
        go_wp2_with fail
        refine (N2.out _).mono ?_
        rintro e w2 ⟨rfl, b2⟩
        have hB := hB.bel b2
        have bA := bA.trans b2
        have c2 := hB.cell 2 _ rfl
        have hl2 := hB.lt
        clear b2
        go_wp2_with fail
        have bA := bA.alloc (.cells #[.string n, .string v] 46)
        have hB := hB.bel ((Bel.refl w2).alloc (.cells #[.string n, .string v] 46))
        generalize (w2.alloc (.cells #[.string n, .string v] 46)) = W2 at *
        clear c2 hl2
        rw [rounds_succ]
        go_wp2_with fail
        go_ret
        exact ⟨rfl, bA⟩
end Go.Proofs.YtbddfefcgfenfaaDoor

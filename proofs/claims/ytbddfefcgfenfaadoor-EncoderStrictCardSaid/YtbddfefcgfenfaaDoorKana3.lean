/-
  Package kana: All, Decode, byteOf, find, escape, Raw, Encode.
-/
import Derived.Test.YtbddfefcgfenfaaDoorKana2
namespace Go.Proofs.YtbddfefcgfenfaaDoor
open Go.RowKit
set_option maxRecDepth 1000000

theorem toldK_to (g : Int) (f : Bool) (s : ByteArray) (last : Bool) (xs : List Int) (g2 : Int) (f2 : Bool) (l : List UInt8) (h : M.toldK last g f s.data.toList = (xs, g2, f2, l)) (hs : s.size ≤ 68719476735) (w : World) : Calls Tryd.prog 155 #[.agg #[.int .i64 g, .bool f], .string s, .bool last] w fun e w' =>
    ∃ v, e = .returned (.tuple #[v, .agg #[.int .i64 g2, .bool f2], .string ⟨l.toArray⟩]) ∧ Own w.heap.size 3 w' v (xs.map (Value.int .i64)) ∧ Bel w w' := by
  have := toldK_any g f s last hs w; rw [h] at this; exact this
theorem allKana_any (s : ByteArray) (hs : s.size ≤ 68719476735) (w : World) : Calls Tryd.prog 122 #[.string s] w fun e w' => ∃ v, e = .returned v ∧ Own w.heap.size 3 w' v ((M.allK s.data.toList).map (Value.int .i64)) ∧ Bel w w' := by
  obtain ⟨⟨xs, g, f, l⟩, ht⟩ : ∃ r, M.toldK true 0 false s.data.toList = r := ⟨_, rfl⟩
  have Ht := Lib.hid ht
  have HA := Lib.hid (show M.allK s.data.toList = xs by rw [M.allK, ht])
  clear ht
  go_enter Tryd.func122, Tryd.ntmps122
  go_wp2_with (go_at_call 155; refine (toldK_to _ _ _ _ _ _ _ _ Ht.out hs _).mono ?_; rintro e w' ⟨v, rfl, ho, hb⟩)
  go_ret
  rw [HA.out]
  exact ⟨_, rfl, ho.alloc _, hb.alloc _⟩
def bVal (n : Int) : Int := if 0 ≤ n then n else 0
def bOk (n : Int) : Bool := decide (0 ≤ n)
theorem byteOfK_any (g n : Int) (w : World) : Calls Tryd.prog 160 #[.int .i64 g, .int .i64 n] w fun e w' => e = .returned (.tuple #[.int .u8 (bVal (M.byteK g n)), .bool (bOk (M.byteK g n))]) ∧ w = w' := by
  go_enter Tryd.func160, Tryd.ntmps160
  go_wp2_with fail
  go_loop [8] (fun i => ∃ k : Nat, k ≤ 128 ∧ i = .int .i64 k ∧ Hid (∀ j, j < k → n = 65533 ∨ M.signK g j ≠ n)) (fun i => 128 - (intOf i).toNat)
  case atStart => exact ⟨0, by omega, rfl, Lib.hid (fun j hj => by omega)⟩
  case round =>
    obtain ⟨k, hk, rfl, hno⟩ := hrel
    by_cases hlt : k < 128
    · obtain ⟨m, hm⟩ : ∃ m, M.signK g k = m := ⟨_, rfl⟩
      have HM := Lib.hid hm
      have hk2 : k < 256 := by omega
      by_cases he : m = n ∧ n ≠ 65533
      · obtain ⟨rfl, hn⟩ := he
        have HF := Lib.hid (M.byteK_hit g m k hno.out hlt hm hn)
        have e1 : (m != 65533) = true := by simpa using hn
        clear hm hn
        go_wp2_with (go_at_call 177; refine (sign_to g k m HM.out hk2 _).mono ?_; rintro e w' ⟨rfl, rfl⟩)
        go_ret2
        rw [HF.out]
        exact ⟨by simp [bVal, bOk], rfl⟩
      · have HF := Lib.hid (show ∀ j, j < k + 1 → n = 65533 ∨ M.signK g j ≠ n from fun j hj => by
          by_cases hjk : j < k
          · exact hno.out j hjk
          · obtain rfl : j = k := by omega
            by_cases h3 : n = 65533
            · exact .inl h3
            · exact .inr (fun h4 => he ⟨hm.symm.trans h4, h3⟩))
        by_cases h5 : m = n
        · subst h5
          obtain rfl : m = 65533 := by by_cases h6 : m = 65533; exact h6; exact absurd ⟨rfl, h6⟩ he
          clear hm he
          go_wp2_with (go_at_call 177; refine (sign_to g k 65533 HM.out hk2 _).mono ?_; rintro e w' ⟨rfl, rfl⟩)
          go_round
          case rel => exact ⟨k + 1, by omega, by go_num, HF⟩
          case measure => simp [intOf]; omega
        · have e1 : (m == n) = false := by simpa using h5
          clear hm he h5
          go_wp2_with (go_at_call 177; refine (sign_to g k m HM.out hk2 _).mono ?_; rintro e w' ⟨rfl, rfl⟩)
          go_round
          case rel => exact ⟨k + 1, by omega, by go_num, HF⟩
          case measure => simp [intOf]; omega
    · obtain rfl : k = 128 := by omega
      have HF := Lib.hid (M.byteK_miss g n hno.out)
      go_wp2_with fail
      go_ret2
      rw [HF.out]
      exact ⟨rfl, rfl⟩
theorem byteOfK_yes (g n : Int) (c : Nat) (h : M.byteK g n = (c : Int)) (w : World) : Calls Tryd.prog 160 #[.int .i64 g, .int .i64 n] w fun e w' => e = .returned (.tuple #[.int .u8 (c : Int), .bool true]) ∧ w = w' := by
  have := byteOfK_any g n w
  rw [h] at this
  simpa [bVal, bOk] using this
theorem byteOfK_no (g n : Int) (h : M.byteK g n = -1) (w : World) : Calls Tryd.prog 160 #[.int .i64 g, .int .i64 n] w fun e w' => e = .returned (.tuple #[.int .u8 0, .bool false]) ∧ w = w' := by
  have := byteOfK_any g n w
  rw [h] at this
  exact this
theorem find_no (now n : Int) (h : M.byteK now n = -1) (h0 : M.byteK 0 n = -1) (h1 : M.byteK 1 n = -1) (h2 : M.byteK 2 n = -1) (w : World) : Calls Tryd.prog 132 #[.int .i64 now, .int .i64 n] w fun e w' => e = .returned (.tuple #[.int .i64 (-1), .int .u8 0]) ∧ Bel w w' := by
    have H := Lib.hid h
    have H0 := Lib.hid h0
    have H1 := Lib.hid h1
    have H2 := Lib.hid h2
    have c : Nat := 0
    clear h h0 h1 h2
    go_enter Tryd.func132, Tryd.ntmps132
    go_wp2_with fail
    refine wp_loop_rounds 5 ?_
    rw [rounds_succ]
    go_wp2_with (first | (go_at_call 160; (first | with_reducible refine (byteOfK_no now n H.out _).mono ?_ | with_reducible refine (byteOfK_yes now n c H.out _).mono ?_); rintro e w' ⟨rfl, rfl⟩))
    rw [rounds_succ]
    go_wp2_with (first | (go_at_call 160; (first | with_reducible refine (byteOfK_no 0 n H0.out _).mono ?_ | with_reducible refine (byteOfK_yes 0 n c H0.out _).mono ?_); rintro e w' ⟨rfl, rfl⟩))
    rw [rounds_succ]
    go_wp2_with (first | (go_at_call 160; (first | with_reducible refine (byteOfK_no 1 n H1.out _).mono ?_ | with_reducible refine (byteOfK_yes 1 n c H1.out _).mono ?_); rintro e w' ⟨rfl, rfl⟩))
    rw [rounds_succ]
    go_wp2_with (first | (go_at_call 160; (first | with_reducible refine (byteOfK_no 2 n H2.out _).mono ?_ | with_reducible refine (byteOfK_yes 2 n c H2.out _).mono ?_); rintro e w' ⟨rfl, rfl⟩))
    rw [rounds_succ]
    go_wp2_with fail
    go_ret2
    exact ⟨rfl, (by repeat (first | exact Bel.refl _ | refine Bel.drewN ?_ _ | refine Bel.drew ?_ | refine Bel.alloc ?_ _ | refine Bel.trans ?_ (by assumption) | refine Bel.setCell ?_ (by simp; omega) _))⟩
theorem find_yes (now n g : Int) (c : Nat) (hf : M.findK now n = g) (hg : 0 ≤ g) (hb : M.byteK g n = (c : Int)) (w : World) : Calls Tryd.prog 132 #[.int .i64 now, .int .i64 n] w fun e w' => e = .returned (.tuple #[.int .i64 g, .int .u8 (c : Int)]) ∧ Bel w w' := by
  have neg : ∀ g, ¬ 0 ≤ M.byteK g n → M.byteK g n = -1 := fun g h => by
    rcases M.byteK_or g n with h1 | ⟨c, _, h2, _⟩
    · exact h1
    · omega
  unfold M.findK at hf
  split at hf
  · subst hf
    have H := Lib.hid hb
    clear hb neg
    go_enter Tryd.func132, Tryd.ntmps132
    go_wp2_with fail
    refine wp_loop_rounds 5 ?_
    rw [rounds_succ]
    go_wp2_with (first | (go_at_call 160; (first | with_reducible refine (byteOfK_no now n H.out _).mono ?_ | with_reducible refine (byteOfK_yes now n c H.out _).mono ?_); rintro e w' ⟨rfl, rfl⟩))
    go_ret2
    exact ⟨rfl, (by repeat (first | exact Bel.refl _ | refine Bel.drewN ?_ _ | refine Bel.drew ?_ | refine Bel.alloc ?_ _ | refine Bel.trans ?_ (by assumption) | refine Bel.setCell ?_ (by simp; omega) _))⟩
  · rename_i a0
    have H := Lib.hid (neg _ a0)
    split at hf
    · subst hf
      have H0 := Lib.hid hb
      clear hb neg
      go_enter Tryd.func132, Tryd.ntmps132
      go_wp2_with fail
      refine wp_loop_rounds 5 ?_
      rw [rounds_succ]
      go_wp2_with (first | (go_at_call 160; (first | with_reducible refine (byteOfK_no now n H.out _).mono ?_ | with_reducible refine (byteOfK_yes now n c H.out _).mono ?_); rintro e w' ⟨rfl, rfl⟩))
      rw [rounds_succ]
      go_wp2_with (first | (go_at_call 160; (first | with_reducible refine (byteOfK_no 0 n H0.out _).mono ?_ | with_reducible refine (byteOfK_yes 0 n c H0.out _).mono ?_); rintro e w' ⟨rfl, rfl⟩))
      go_ret2
      exact ⟨rfl, (by repeat (first | exact Bel.refl _ | refine Bel.drewN ?_ _ | refine Bel.drew ?_ | refine Bel.alloc ?_ _ | refine Bel.trans ?_ (by assumption) | refine Bel.setCell ?_ (by simp; omega) _))⟩
    · rename_i a1
      have H0 := Lib.hid (neg _ a1)
      split at hf
      · subst hf
        have H1 := Lib.hid hb
        clear hb neg
        go_enter Tryd.func132, Tryd.ntmps132
        go_wp2_with fail
        refine wp_loop_rounds 5 ?_
        rw [rounds_succ]
        go_wp2_with (first | (go_at_call 160; (first | with_reducible refine (byteOfK_no now n H.out _).mono ?_ | with_reducible refine (byteOfK_yes now n c H.out _).mono ?_); rintro e w' ⟨rfl, rfl⟩))
        rw [rounds_succ]
        go_wp2_with (first | (go_at_call 160; (first | with_reducible refine (byteOfK_no 0 n H0.out _).mono ?_ | with_reducible refine (byteOfK_yes 0 n c H0.out _).mono ?_); rintro e w' ⟨rfl, rfl⟩))
        rw [rounds_succ]
        go_wp2_with (first | (go_at_call 160; (first | with_reducible refine (byteOfK_no 1 n H1.out _).mono ?_ | with_reducible refine (byteOfK_yes 1 n c H1.out _).mono ?_); rintro e w' ⟨rfl, rfl⟩))
        go_ret2
        exact ⟨rfl, (by repeat (first | exact Bel.refl _ | refine Bel.drewN ?_ _ | refine Bel.drew ?_ | refine Bel.alloc ?_ _ | refine Bel.trans ?_ (by assumption) | refine Bel.setCell ?_ (by simp; omega) _))⟩
      · rename_i a2
        have H1 := Lib.hid (neg _ a2)
        split at hf
        · subst hf
          have H2 := Lib.hid hb
          clear hb neg
          go_enter Tryd.func132, Tryd.ntmps132
          go_wp2_with fail
          refine wp_loop_rounds 5 ?_
          rw [rounds_succ]
          go_wp2_with (first | (go_at_call 160; (first | with_reducible refine (byteOfK_no now n H.out _).mono ?_ | with_reducible refine (byteOfK_yes now n c H.out _).mono ?_); rintro e w' ⟨rfl, rfl⟩))
          rw [rounds_succ]
          go_wp2_with (first | (go_at_call 160; (first | with_reducible refine (byteOfK_no 0 n H0.out _).mono ?_ | with_reducible refine (byteOfK_yes 0 n c H0.out _).mono ?_); rintro e w' ⟨rfl, rfl⟩))
          rw [rounds_succ]
          go_wp2_with (first | (go_at_call 160; (first | with_reducible refine (byteOfK_no 1 n H1.out _).mono ?_ | with_reducible refine (byteOfK_yes 1 n c H1.out _).mono ?_); rintro e w' ⟨rfl, rfl⟩))
          rw [rounds_succ]
          go_wp2_with (first | (go_at_call 160; (first | with_reducible refine (byteOfK_no 2 n H2.out _).mono ?_ | with_reducible refine (byteOfK_yes 2 n c H2.out _).mono ?_); rintro e w' ⟨rfl, rfl⟩))
          go_ret2
          exact ⟨rfl, (by repeat (first | exact Bel.refl _ | refine Bel.drewN ?_ _ | refine Bel.drew ?_ | refine Bel.alloc ?_ _ | refine Bel.trans ?_ (by assumption) | refine Bel.setCell ?_ (by simp; omega) _))⟩
        · omega
theorem escape_any (g : Int) (hg : g = 0 ∨ g = 1 ∨ g = 2) (w : World) : Calls Tryd.prog 135 #[.int .i64 g] w fun e w' => e = .returned (.string ⟨[27, 40, M.escB g].toArray⟩) ∧ Bel w w' := by
  rcases hg with rfl | rfl | rfl
  · have c66 : (⟨#[66, 74, 73]⟩ : ByteArray)[0].toNat = 66 := rfl
    go_enter Tryd.func135, Tryd.ntmps135
    go_wp2_with (first | ((with_reducible show wpList _ _ _ _ _ _); refine wpList_toString rfl (.tmp 5) _ _ 5 rfl Tryd.underlying34 Tryd.underlying5 Tryd.underlying9 _ _ [27, 40, 66] rfl (own_row _ [27, 40, 66] _ rfl (by decide)) ?_))
    go_ret
    exact ⟨rfl, (by repeat (first | exact Bel.refl _ | refine Bel.drewN ?_ _ | refine Bel.drew ?_ | refine Bel.alloc ?_ _ | refine Bel.trans ?_ (by assumption) | refine Bel.setCell ?_ (by simp; omega) _))⟩
  · have c66 : (⟨#[66, 74, 73]⟩ : ByteArray)[1].toNat = 74 := rfl
    go_enter Tryd.func135, Tryd.ntmps135
    go_wp2_with (first | ((with_reducible show wpList _ _ _ _ _ _); refine wpList_toString rfl (.tmp 5) _ _ 5 rfl Tryd.underlying34 Tryd.underlying5 Tryd.underlying9 _ _ [27, 40, 74] rfl (own_row _ [27, 40, 74] _ rfl (by decide)) ?_))
    go_ret
    exact ⟨rfl, (by repeat (first | exact Bel.refl _ | refine Bel.drewN ?_ _ | refine Bel.drew ?_ | refine Bel.alloc ?_ _ | refine Bel.trans ?_ (by assumption) | refine Bel.setCell ?_ (by simp; omega) _))⟩
  · have c66 : (⟨#[66, 74, 73]⟩ : ByteArray)[2].toNat = 73 := rfl
    go_enter Tryd.func135, Tryd.ntmps135
    go_wp2_with (first | ((with_reducible show wpList _ _ _ _ _ _); refine wpList_toString rfl (.tmp 5) _ _ 5 rfl Tryd.underlying34 Tryd.underlying5 Tryd.underlying9 _ _ [27, 40, 73] rfl (own_row _ [27, 40, 73] _ rfl (by decide)) ?_))
    go_ret
    exact ⟨rfl, (by repeat (first | exact Bel.refl _ | refine Bel.drewN ?_ _ | refine Bel.drew ?_ | refine Bel.alloc ?_ _ | refine Bel.trans ?_ (by assumption) | refine Bel.setCell ?_ (by simp; omega) _))⟩
end Go.Proofs.YtbddfefcgfenfaaDoor

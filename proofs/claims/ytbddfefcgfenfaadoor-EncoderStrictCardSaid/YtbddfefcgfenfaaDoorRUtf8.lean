/-
  The document's answers on UTF-8: IsScalar, CheckPoints, Row, EncodeUtf8.
-/
import Derived.Test.YtbddfefcgfenfaaDoorUtf8c
import Derived.Test.YtbddfefcgfenfaaDoorRInts
import Derived.Test.YtbddfefcgfenfaaDoorRLong
namespace Go.Proofs.YtbddfefcgfenfaaDoor
open Go.RowKit
set_option maxRecDepth 1000000

theorem isScalar_any (n : Int) (w : World) : Calls Tryd.prog 30 #[.int .i64 n] w fun e w' => e = .returned (.bool (M.scalar n)) ∧ w = w' := by
  by_cases h : 0 ≤ n ∧ n ≤ 55295
  · have e1 : decide (0 ≤ n ∧ n ≤ 55295) = true := by simpa using h
    have H := Lib.hid (show M.scalar n = true by simp only [M.scalar, decide_eq_true_eq]; omega)
    clear h
    go_enter Tryd.func30, Tryd.ntmps30
    go_wp2_with (go_at_call 58; refine (between_any _ _ _ _).mono ?_; rintro e w' ⟨rfl, rfl⟩)
    go_ret
    rw [H.out]
    exact ⟨rfl, rfl⟩
  · have e1 : decide (0 ≤ n ∧ n ≤ 55295) = false := by simpa using h
    have H := Lib.hid (show M.scalar n = decide (57344 ≤ n ∧ n ≤ 1114111) by rw [M.scalar, decide_eq_decide]; omega)
    clear h
    go_enter Tryd.func30, Tryd.ntmps30
    go_wp2_with (go_at_call 58; refine (between_any _ _ _ _).mono ?_; rintro e w' ⟨rfl, rfl⟩)
    go_ret
    rw [H.out]
    exact ⟨ret_bool (by simp), rfl⟩
theorem checkPoints_any (v : Value) (xs : List Int) (w : World) (hv : IntSl w v xs) : Calls Tryd.prog 66 #[v] w fun e w' => e = .returned (.int .i64 (M.points xs)) ∧ w = w' := by
  obtain ⟨a, c, rfl, hc1, hc2, hn, hx⟩ := hv
  unfold maxLen at hc2
  by_cases h : 3000 < xs.length
  · have H := Lib.hid (show M.points xs = 2 by rw [M.points, if_pos h])
    go_enter Tryd.func66, Tryd.ntmps66
    go_wp2_with fail
    go_ret
    rw [H.out]
    exact ⟨rfl, rfl⟩
  · go_enter Tryd.func66, Tryd.ntmps66
    go_wp2_with fail
    go_loop [3] (fun i => ∃ k : Nat, k ≤ xs.length ∧ i = .int .i64 k ∧ Hid ((xs.take k).all M.scalar = true)) (fun i => xs.length - (intOf i).toNat)
    case atStart => exact ⟨0, by omega, rfl, Lib.hid rfl⟩
    case round =>
      obtain ⟨k, hk, rfl, hno⟩ := hrel
      by_cases hlt : k < xs.length
      · obtain ⟨y, hy⟩ : ∃ y, xs[k]? = some y := ⟨_, List.getElem?_eq_getElem hlt⟩
        cases a with
        | none => exfalso; have h3 := hlt; rw [hn rfl, List.length_nil] at h3; omega
        | some x =>
          have hcell := hx x rfl k y hy
          cases hsc : M.scalar y with
          | false =>
            have HF := Lib.hid (show M.points xs = 3 by
              rw [M.points, if_neg h, if_neg]
              rw [Bool.not_eq_true, List.all_eq_false]
              exact ⟨y, List.mem_of_getElem? hy, by rw [hsc]; decide⟩)
            have Hs := Lib.hid hsc
            clear hx hn hsc hy
            go_wp2_with (go_at_call 30; refine (isScalar_any _ _).mono ?_; rintro e w' ⟨rfl, rfl⟩; rw [Hs.out])
            go_ret
            rw [HF.out]
            exact ⟨rfl, rfl⟩
          | true =>
            have HF := Lib.hid (show (xs.take (k + 1)).all M.scalar = true by
              rw [List.take_add_one, hy, List.all_append, hno.out]; simp [hsc])
            have Hs := Lib.hid hsc
            clear hx hn hsc hy
            go_wp2_with (go_at_call 30; refine (isScalar_any _ _).mono ?_; rintro e w' ⟨rfl, rfl⟩; rw [Hs.out])
            go_round
            case rel => exact ⟨k + 1, by omega, by go_num, HF⟩
            case measure => simp [intOf]; omega
      · obtain rfl : k = xs.length := by omega
        have HF := Lib.hid (show M.points xs = 0 by
          have := hno.out
          rw [List.take_length] at this
          rw [M.points, if_neg h, if_pos this])
        go_wp2_with fail
        go_ret
        rw [HF.out]
        exact ⟨rfl, rfl⟩
theorem low_any (n : Int) (w : World) (h : 0 ≤ n) (h2 : n ≤ 1114111) : Calls Tryd.prog 136 #[.int .i64 n] w fun e w' => e = .returned (.int .u8 (128 + n % 64)) ∧ w = w' := by
  go_enter Tryd.func136, Tryd.ntmps136
  go_wp2_with fail
  go_ret
  exact ⟨rfl, rfl⟩
theorem row8_le (n : Int) : (M.row8 n).length ≤ 4 := by unfold M.row8; (repeat' split) <;> simp
set_option maxHeartbeats 2000000 in
theorem row_any (n : Int) (w : World) (h0 : 0 ≤ n) (h1 : n ≤ 1114111) : Calls Tryd.prog 101 #[.int .i64 n] w fun e w' => e = .returned (.string ⟨(M.row8 n).toArray⟩) ∧ Bel w w' := by
  obtain ⟨m, rfl⟩ := Int.eq_ofNat_of_zero_le h0
  by_cases g1 : m < 128
  · have HR := Lib.hid (show (M.row8 (m : Int)).map byteVal = [.int .u8 (m : Int)] by
      rw [M.row8, if_pos (by omega)]; simp [byteVal]; omega)
    go_enter Tryd.func101, Tryd.ntmps101
    go_wp2_with (first | ((with_reducible show wpList _ _ _ _ _ _); refine wpList_toString rfl (.tmp 9) _ _ 5 rfl Tryd.underlying34 Tryd.underlying5 Tryd.underlying9 w.heap.size _ (M.row8 (m : Int)) rfl (own_row w (M.row8 (m : Int)) _ HR.out (row8_le _)) ?_))
    go_ret
    exact ⟨rfl, (by repeat (first | exact Bel.refl _ | refine Bel.drewN ?_ _ | refine Bel.drew ?_ | refine Bel.alloc ?_ _ | refine Bel.trans ?_ (by assumption) | refine Bel.setCell ?_ (by simp; omega) _))⟩
  · by_cases g2 : m < 2048
    · obtain ⟨r, hr, hr1⟩ : ∃ r : Nat, (m : Int) / 64 = (r : Int) ∧ r < 32 := ⟨m / 64, by omega, by omega⟩
      obtain ⟨c, hc, hc1⟩ : ∃ c : Nat, (m : Int) % 64 = (c : Int) ∧ c < 64 := ⟨m % 64, by omega, by omega⟩
      have HR := Lib.hid (show (M.row8 (m : Int)).map byteVal = [.int .u8 (192 + (r : Int)), .int .u8 (128 + (c : Int))] by
        rw [M.row8, if_neg (by omega), if_pos (by omega)]; simp [byteVal]; omega)
      have Hc := Lib.hid hc
      clear hc
      go_enter Tryd.func101, Tryd.ntmps101
      go_wp2_with (first | (go_at_call 136; refine (low_any _ _ (by omega) (by omega)).mono ?_; rintro e w' ⟨rfl, rfl⟩; rw [Hc.out]) | ((with_reducible show wpList _ _ _ _ _ _); refine wpList_toString rfl (.tmp 21) _ _ 5 rfl Tryd.underlying34 Tryd.underlying5 Tryd.underlying9 w.heap.size _ (M.row8 (m : Int)) rfl (own_row w (M.row8 (m : Int)) _ HR.out (row8_le _)) ?_))
      go_ret
      exact ⟨rfl, (by repeat (first | exact Bel.refl _ | refine Bel.drewN ?_ _ | refine Bel.drew ?_ | refine Bel.alloc ?_ _ | refine Bel.trans ?_ (by assumption) | refine Bel.setCell ?_ (by simp; omega) _))⟩
    · by_cases g3 : m < 65536
      · obtain ⟨q, hq, hq1⟩ : ∃ q : Nat, (m : Int) / 4096 = (q : Int) ∧ q < 16 := ⟨m / 4096, by omega, by omega⟩
        obtain ⟨r, hr, hr1⟩ : ∃ r : Nat, (m : Int) / 64 = (r : Int) ∧ r < 1024 := ⟨m / 64, by omega, by omega⟩
        obtain ⟨s, hs, hs1⟩ : ∃ s : Nat, (r : Int) % 64 = (s : Int) ∧ s < 64 := ⟨r % 64, by omega, by omega⟩
        obtain ⟨c, hc, hc1⟩ : ∃ c : Nat, (m : Int) % 64 = (c : Int) ∧ c < 64 := ⟨m % 64, by omega, by omega⟩
        have HR := Lib.hid (show (M.row8 (m : Int)).map byteVal = [.int .u8 (224 + (q : Int)), .int .u8 (128 + (s : Int)), .int .u8 (128 + (c : Int))] by
          rw [M.row8, if_neg (by omega), if_neg (by omega), if_pos (by omega)]; simp [byteVal]; omega)
        have Hc := Lib.hid hc
        have Hs := Lib.hid hs
        clear hc hs
        go_enter Tryd.func101, Tryd.ntmps101
        go_wp2_with (first | (go_at_call 136; refine (low_any _ _ (by omega) (by omega)).mono ?_; rintro e w' ⟨rfl, rfl⟩; try rw [Hc.out]; try rw [Hs.out]) | ((with_reducible show wpList _ _ _ _ _ _); refine wpList_toString rfl (.tmp 37) _ _ 5 rfl Tryd.underlying34 Tryd.underlying5 Tryd.underlying9 w.heap.size _ (M.row8 (m : Int)) rfl (own_row w (M.row8 (m : Int)) _ HR.out (row8_le _)) ?_))
        go_ret
        exact ⟨rfl, (by repeat (first | exact Bel.refl _ | refine Bel.drewN ?_ _ | refine Bel.drew ?_ | refine Bel.alloc ?_ _ | refine Bel.trans ?_ (by assumption) | refine Bel.setCell ?_ (by simp; omega) _))⟩
      · obtain ⟨p, hp, hp1⟩ : ∃ p : Nat, (m : Int) / 262144 = (p : Int) ∧ p < 8 := ⟨m / 262144, by omega, by omega⟩
        obtain ⟨q, hq, hq1⟩ : ∃ q : Nat, (m : Int) / 4096 = (q : Int) ∧ q < 512 := ⟨m / 4096, by omega, by omega⟩
        obtain ⟨q2, hq2, hq21⟩ : ∃ q2 : Nat, (q : Int) % 64 = (q2 : Int) ∧ q2 < 64 := ⟨q % 64, by omega, by omega⟩
        obtain ⟨r, hr, hr1⟩ : ∃ r : Nat, (m : Int) / 64 = (r : Int) ∧ r < 32768 := ⟨m / 64, by omega, by omega⟩
        obtain ⟨s, hs, hs1⟩ : ∃ s : Nat, (r : Int) % 64 = (s : Int) ∧ s < 64 := ⟨r % 64, by omega, by omega⟩
        obtain ⟨c, hc, hc1⟩ : ∃ c : Nat, (m : Int) % 64 = (c : Int) ∧ c < 64 := ⟨m % 64, by omega, by omega⟩
        have HR := Lib.hid (show (M.row8 (m : Int)).map byteVal = [.int .u8 (240 + (p : Int)), .int .u8 (128 + (q2 : Int)), .int .u8 (128 + (s : Int)), .int .u8 (128 + (c : Int))] by
          rw [M.row8, if_neg (by omega), if_neg (by omega), if_neg (by omega)]; simp [byteVal]; omega)
        have Hc := Lib.hid hc
        have Hs := Lib.hid hs
        have Hq := Lib.hid hq2
        clear hc hs hq2
        go_enter Tryd.func101, Tryd.ntmps101
        go_wp2_with (first | (go_at_call 136; refine (low_any _ _ (by omega) (by omega)).mono ?_; rintro e w' ⟨rfl, rfl⟩; try rw [Hc.out]; try rw [Hs.out]; try rw [Hq.out]) | ((with_reducible show wpList _ _ _ _ _ _); refine wpList_toString rfl (.tmp 54) _ _ 5 rfl Tryd.underlying34 Tryd.underlying5 Tryd.underlying9 w.heap.size _ (M.row8 (m : Int)) rfl (own_row w (M.row8 (m : Int)) _ HR.out (row8_le _)) ?_))
        go_ret
        exact ⟨rfl, (by repeat (first | exact Bel.refl _ | refine Bel.drewN ?_ _ | refine Bel.drew ?_ | refine Bel.alloc ?_ _ | refine Bel.trans ?_ (by assumption) | refine Bel.setCell ?_ (by simp; omega) _))⟩
theorem encodeUtf8_any (v : Value) (xs : List Int) (w : World) (hv : IntSl w v xs) (hlen : xs.length ≤ 1000000) (hsc : ∀ n ∈ xs, 0 ≤ n ∧ n ≤ 1114111) : Calls Tryd.prog 68 #[v] w fun e w' => e = .returned (.string ⟨(M.bytes8 xs).toArray⟩) ∧ Bel w w' := by
  obtain ⟨a, c, rfl, hc1, hc2, hn, hx⟩ := hv
  unfold maxLen at hc2
  go_enter Tryd.func68, Tryd.ntmps68
  go_wp2_with fail
  go_loopw [3, 4] (fun v i wr => ∃ k : Nat, k ≤ xs.length ∧ i = .int .i64 k ∧ v = .string ⟨(M.bytes8 (xs.take k)).toArray⟩ ∧ (M.bytes8 (xs.take k)).length ≤ 4 * k ∧ Bel w wr) (fun _ i _ => xs.length - (intOf i).toNat)
  case atStart => exact ⟨0, by omega, rfl, by simp [M.bytes8], by simp [M.bytes8], Bel.refl _⟩
  case round =>
    obtain ⟨k, hk, rfl, rfl, hbl, hb⟩ := hrel
    by_cases hlt : k < xs.length
    · obtain ⟨n, hy⟩ : ∃ n, xs[k]? = some n := ⟨_, List.getElem?_eq_getElem hlt⟩
      cases a with
      | none => exfalso; have h3 := hlt; rw [hn rfl, List.length_nil] at h3; omega
      | some x =>
        have hcw := hx x rfl k n hy
        have hcell : wr.cell? (x.add k) = some (.int .i64 n) := (hb.cell (World.block_lt_of_cell? w _ hcw)).trans hcw
        obtain ⟨hn0, hn1⟩ := hsc n (List.mem_of_getElem? hy)
        have hr4 := row8_le n
        have HT := Lib.hid (show M.bytes8 (xs.take (k + 1)) = M.bytes8 (xs.take k) ++ M.row8 n by
          rw [List.take_add_one, hy]; simp [M.bytes8])
        clear hx hn hy hcw hsc
        go_wp2_with (first | (go_at_call 101; refine (row_any _ _ hn0 hn1).mono ?_; rintro e w' ⟨rfl, hb2⟩))
        go_roundw
        case rel =>
          have HB : (M.bytes8 (xs.take (k + 1))).length ≤ 4 * (k + 1) := by rw [HT.out, List.length_append]; omega
          have HV : (Value.string (⟨(M.bytes8 (xs.take k)).toArray⟩ ++ ⟨(M.row8 n).toArray⟩) : Value) = .string ⟨(M.bytes8 (xs.take (k + 1))).toArray⟩ := by rw [HT.out]; simp [str_append]
          exact ⟨k + 1, by omega, by go_num, HV, HB, hb.trans (by assumption)⟩
        case measure => simp [intOf]; omega
    · obtain rfl : k = xs.length := by omega
      have HT := Lib.hid (show xs.take xs.length = xs from List.take_length)
      go_wp2_with fail
      go_ret
      rw [HT.out]
      exact ⟨rfl, hb⟩
end Go.Proofs.YtbddfefcgfenfaaDoor

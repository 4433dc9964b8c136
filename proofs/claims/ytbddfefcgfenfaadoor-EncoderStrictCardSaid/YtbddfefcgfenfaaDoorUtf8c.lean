/-
  Package utf8: what Scalar, Points, Bytes, Encode compute.
-/
import Derived.Test.YtbddfefcgfenfaaDoorBase4
import Derived.Test.YtbddfefcgfenfaaDoorBits
import Derived.Test.YtbddfefcgfenfaaDoorPlainUtf8
namespace Go.Proofs.YtbddfefcgfenfaaDoor
open Go.RowKit
set_option maxRecDepth 1000000

theorem scalar_any (n : Int) (w : World) : Calls Tryd.prog 61 #[.int .i64 n] w fun e w' => e = .returned (.bool (M.scalar n)) ∧ w = w' := by
  by_cases h0 : 0 ≤ n <;> by_cases h1 : n ≤ 1114111 <;> by_cases h2 : n < 55296 <;> by_cases h3 : 57343 < n
  all_goals
    first
    | (exfalso; omega)
    | (go_enter Tryd.func61, Tryd.ntmps61
       go_wp2
       go_ret
       refine ⟨?_, rfl⟩
       simp [M.scalar]
       omega)
theorem points1_any (n : Int) (w : World) : Calls Tryd.prog 95 #[.int .i64 n] w fun e w' => e = .returned (.bool (!M.scalar n)) ∧ w = w' := by
  go_enter Tryd.func95, Tryd.ntmps95
  go_wp2_with (go_at_call 61; refine (scalar_any _ _).mono ?_; rintro e w' ⟨rfl, rfl⟩)
  go_ret
  exact ⟨rfl, rfl⟩
def IdxSays (xs : List Int) (n : Int) : Prop := 0 ≤ n ↔ xs.all M.scalar = false
theorem indexFunc_any (v : Value) (xs : List Int) (w : World) (hv : IntSl w v xs) : Calls Tryd.prog 133 #[v, .func (.func 95) #[] #[]] w fun e w' => (∃ n : Int, e = .returned (.int .i64 n) ∧ IdxSays xs n) ∧ w = w' := by
  obtain ⟨a, c, rfl, hc1, hc2, hn, hx⟩ := hv
  unfold maxLen at hc2
  go_enter Tryd.func133, Tryd.ntmps133
  go_wp2_with fail
  go_loop [8] (fun i => ∃ k : Nat, k ≤ xs.length ∧ i = .int .i64 k ∧ Hid ((xs.take k).all M.scalar = true)) (fun i => xs.length - (intOf i).toNat)
  case atStart => exact ⟨0, by omega, rfl, Lib.hid rfl⟩
  case round =>
    obtain ⟨k, hk, rfl, hno⟩ := hrel
    by_cases hlt : k < xs.length
    · obtain ⟨y, hy⟩ : ∃ y, xs[k]? = some y := ⟨_, List.getElem?_eq_getElem hlt⟩
      cases a with
      | none => exfalso; have h3 := hlt; rw [hn rfl, List.length_nil] at h3; omega
      | some x =>
        have hcell := hx x rfl k y hy
        cases hsc : M.scalar y with
        | false =>
          have e1 : (!M.scalar y) = true := by rw [hsc]; rfl
          have HF : IdxSays xs (k : Int) := (show (0 : Int) ≤ (k : Int) ↔ xs.all M.scalar = false from ⟨fun _ => by
            rw [List.all_eq_false]
            exact ⟨y, List.mem_of_getElem? hy, by rw [hsc]; decide⟩, fun _ => by omega⟩)
          clear hx hn hsc hy
          go_wp2_with (go_at_call 95; refine (points1_any _ _).mono ?_; rintro e w' ⟨rfl, rfl⟩)
          go_ret
          exact ⟨⟨_, rfl, HF⟩, rfl⟩
        | true =>
          have e1 : (!M.scalar y) = false := by rw [hsc]; rfl
          have HF := Lib.hid (show (xs.take (k + 1)).all M.scalar = true by
            rw [List.take_add_one, hy, List.all_append, hno.out]; simp [hsc])
          clear hx hn hsc hy
          go_wp2_with (go_at_call 95; refine (points1_any _ _).mono ?_; rintro e w' ⟨rfl, rfl⟩)
          go_round
          case rel => exact ⟨k + 1, by omega, by go_num, HF⟩
          case measure => simp [intOf]; omega
    · obtain rfl : k = xs.length := by omega
      have HF : IdxSays xs (-1) := (show (0 : Int) ≤ -1 ↔ xs.all M.scalar = false from ⟨fun h => absurd h (by decide), fun h => by
        have := hno.out
        rw [List.take_length, h] at this
        cases this⟩)
      go_wp2_with fail
      go_ret
      exact ⟨⟨_, rfl, HF⟩, rfl⟩
theorem containsFunc_any (v : Value) (xs : List Int) (w : World) (hv : IntSl w v xs) : Calls Tryd.prog 94 #[v, .func (.func 95) #[] #[]] w fun e w' => e = .returned (.bool (!xs.all M.scalar)) ∧ w = w' := by
  have c1 := Lib.hid (indexFunc_any v xs w hv)
  obtain ⟨a, c, rfl, _⟩ := hv
  go_enter Tryd.func94, Tryd.ntmps94
  go_wp2_with fail
  refine c1.out.mono ?_
  rintro e w' ⟨⟨n, rfl, hn⟩, rfl⟩
  cases hall : xs.all M.scalar with
  | true =>
    have : ¬ 0 ≤ n := fun h => by have := hn.1 h; rw [hall] at this; cases this
    have hneg : n < 0 := by omega
    clear this
    go_wp2_with fail
    go_ret
    refine ⟨ret_bool ?_, rfl⟩
    rw [hall]
    simp
    omega
  | false =>
    have hpos : 0 ≤ n := hn.2 hall
    go_wp2_with fail
    go_ret
    refine ⟨ret_bool ?_, rfl⟩
    rw [hall]
    rfl
theorem points_any (v : Value) (xs : List Int) (w : World) (hv : IntSl w v xs) : Calls Tryd.prog 63 #[v] w fun e w' => e = .returned (.int .i64 (M.points xs)) ∧ w = w' := by
  have c1 := Lib.hid (containsFunc_any v xs w hv)
  obtain ⟨a, c, rfl, hc1, hc2, _⟩ := hv
  unfold maxLen at hc2
  by_cases h : 3000 < xs.length
  · have H := Lib.hid (show M.points xs = 2 by rw [M.points, if_pos h])
    go_enter Tryd.func63, Tryd.ntmps63
    go_wp2_with fail
    go_ret
    rw [H.out]
    exact ⟨rfl, rfl⟩
  · cases hall : xs.all M.scalar with
    | true =>
      have H := Lib.hid (show M.points xs = 0 by rw [M.points, if_neg h, hall]; rfl)
      rw [hall] at c1
      go_enter Tryd.func63, Tryd.ntmps63
      go_wp2_with (go_at_call 94; refine (c1.out).mono ?_; rintro e w' ⟨rfl, rfl⟩)
      go_ret
      rw [H.out]
      exact ⟨rfl, rfl⟩
    | false =>
      have H := Lib.hid (show M.points xs = 3 by rw [M.points, if_neg h, hall]; rfl)
      rw [hall] at c1
      go_enter Tryd.func63, Tryd.ntmps63
      go_wp2_with (go_at_call 94; refine (c1.out).mono ?_; rintro e w' ⟨rfl, rfl⟩)
      go_ret
      rw [H.out]
      exact ⟨rfl, rfl⟩
set_option maxHeartbeats 2000000 in
theorem bytes8_any (v : Value) (xs : List Int) (w : World) (hv : IntSl w v xs) (hlen : xs.length ≤ 1000000) (hsc : ∀ n ∈ xs, 0 ≤ n ∧ n ≤ 1114111) : Calls Tryd.prog 100 #[v] w fun e w' => e = .returned (.string ⟨(M.bytes8 xs).toArray⟩) ∧ Bel w w' := by
  obtain ⟨a, c, rfl, hc1, hc2, hn, hx⟩ := hv
  unfold maxLen at hc2
  go_enter Tryd.func100, Tryd.ntmps100
  go_wp2_with fail
  go_loopw [3, 8] (fun v i wr => ∃ k : Nat, k ≤ xs.length ∧ i = .int .i64 k ∧ (M.bytes8 (xs.take k)).length ≤ 4 * k ∧ Own w.heap.size 5 wr v ((M.bytes8 (xs.take k)).map byteVal) ∧ Bel w wr) (fun _ i _ => xs.length - (intOf i).toNat)
  case atStart => exact ⟨0, by omega, rfl, by simp [M.bytes8], Own.nil _ _ _, Bel.refl _⟩
  case round =>
    obtain ⟨k, hk, rfl, hbl, hown, hb⟩ := hrel
    by_cases hlt : k < xs.length
    · obtain ⟨n, hy⟩ : ∃ n, xs[k]? = some n := ⟨_, List.getElem?_eq_getElem hlt⟩
      cases a with
      | none => exfalso; have h3 := hlt; rw [hn rfl, List.length_nil] at h3; omega
      | some x =>
        have hcw := hx x rfl k n hy
        have hcell : wr.cell? (x.add k) = some (.int .i64 n) := (hb.cell (World.block_lt_of_cell? w _ hcw)).trans hcw
        obtain ⟨hn0, hn1⟩ := hsc n (List.mem_of_getElem? hy)
        have HT := Lib.hid (show M.bytes8 (xs.take (k + 1)) = M.bytes8 (xs.take k) ++ M.row8 n by
          rw [List.take_add_one, hy]; simp [M.bytes8])
        obtain ⟨m, rfl⟩ := Int.eq_ofNat_of_zero_le hn0
        clear hx hn hy hcw hsc
        by_cases h1 : m < 128
        · have HR := Lib.hid (show (M.row8 (m : Int)).map byteVal = [.int .u8 (m : Int)] by
            rw [M.row8, if_pos (by omega)]; simp [byteVal]; omega)
          have HL := Lib.hid (show (M.row8 (m : Int)).length = 1 by rw [M.row8, if_pos (by omega)]; rfl)
          go_wp2_with (first | (at_builtin; refine wpList_apps (.tmp 36) (.tmp 39) 34 rfl elemByte (by decide) w.heap.size _ _ _ hown (by simp [Value.oneCell']) (by simp; omega) (by first | exact Nat.le_refl _ | assumption | (have := hb.size; omega)) rfl rfl rfl ?_; intro v' w1 hown' hb1))
          go_roundw
          case rel =>
            have HO : Own w.heap.size 5 w1 v' ((M.bytes8 (xs.take (k + 1))).map byteVal) := by rw [HT.out, List.map_append, HR.out]; exact hown'
            have HB : (M.bytes8 (xs.take (k + 1))).length ≤ 4 * (k + 1) := by rw [HT.out, List.length_append, HL.out]; omega
            exact ⟨k + 1, by omega, by go_num, HB, HO, hb.upto hb1 (Nat.le_refl _)⟩
          case measure => simp [intOf]; omega
        · by_cases h2 : m < 2048
          · have HR := Lib.hid (show (M.row8 (m : Int)).map byteVal = [.int .u8 (192 + (m : Int) / 64), .int .u8 (128 + (m : Int) % 64)] by
              rw [M.row8, if_neg (by omega), if_pos (by omega)]; simp [byteVal]; omega)
            have HL := Lib.hid (show (M.row8 (m : Int)).length = 2 by rw [M.row8, if_neg (by omega), if_pos (by omega)]; rfl)
            have o1 := or_192 ((m : Int) / 64) (by omega) (by omega)
            have o2 := or_128 ((m : Int) % 64) (by omega) (by omega)
            have a1 := and_63 (m : Int) (by omega) (by omega)
            go_wp2_with (first | (at_builtin; refine wpList_apps (.tmp 44) (.tmp 53) 34 rfl elemByte (by decide) w.heap.size _ _ _ hown (by simp [Value.oneCell']) (by simp; omega) (by first | exact Nat.le_refl _ | assumption | (have := hb.size; omega)) rfl rfl rfl ?_; intro v' w1 hown' hb1))
            go_roundw
            case rel =>
              have HO : Own w.heap.size 5 w1 v' ((M.bytes8 (xs.take (k + 1))).map byteVal) := by rw [HT.out, List.map_append, HR.out]; exact hown'
              have HB : (M.bytes8 (xs.take (k + 1))).length ≤ 4 * (k + 1) := by rw [HT.out, List.length_append, HL.out]; omega
              exact ⟨k + 1, by omega, by go_num, HB, HO, hb.upto hb1 (Nat.le_refl _)⟩
            case measure => simp [intOf]; omega
          · by_cases h3 : m < 65536
            · obtain ⟨q, hq, hq1⟩ : ∃ q : Nat, (m : Int) / 4096 = (q : Int) ∧ q < 16 := ⟨m / 4096, by omega, by omega⟩
              obtain ⟨r, hr, hr1⟩ : ∃ r : Nat, (m : Int) / 64 = (r : Int) ∧ r < 1024 := ⟨m / 64, by omega, by omega⟩
              obtain ⟨s, hs, hs1⟩ : ∃ s : Nat, (r : Int) % 64 = (s : Int) ∧ s < 64 := ⟨r % 64, by omega, by omega⟩
              obtain ⟨c', hc, hc1'⟩ : ∃ c' : Nat, (m : Int) % 64 = (c' : Int) ∧ c' < 64 := ⟨m % 64, by omega, by omega⟩
              have HR := Lib.hid (show (M.row8 (m : Int)).map byteVal = [.int .u8 (224 + (q : Int)), .int .u8 (128 + (s : Int)), .int .u8 (128 + (c' : Int))] by
                rw [M.row8, if_neg (by omega), if_neg (by omega), if_pos (by omega)]; simp [byteVal]; omega)
              have HL := Lib.hid (show (M.row8 (m : Int)).length = 3 by rw [M.row8, if_neg (by omega), if_neg (by omega), if_pos (by omega)]; rfl)
              have o1 := or_224 (q : Int) (by omega) (by omega)
              have o2 := or_128 (c' : Int) (by omega) (by omega)
              have o3 := or_128 (s : Int) (by omega) (by omega)
              have a1 : bits .and .i64 (m : Int) 63 = (c' : Int) := by rw [and_63 (m : Int) (by omega) (by omega), hc]
              have a2 := and_63 (r : Int) (by omega) (by omega)
              rw [hs] at a2
              clear hc hs
              go_wp2_with (first | (at_builtin; refine wpList_apps (.tmp 58) (.tmp 72) 34 rfl elemByte (by decide) w.heap.size _ _ _ hown (by simp [Value.oneCell']) (by simp; omega) (by first | exact Nat.le_refl _ | assumption | (have := hb.size; omega)) rfl rfl rfl ?_; intro v' w1 hown' hb1))
              go_roundw
              case rel =>
                have HO : Own w.heap.size 5 w1 v' ((M.bytes8 (xs.take (k + 1))).map byteVal) := by rw [HT.out, List.map_append, HR.out]; exact hown'
                have HB : (M.bytes8 (xs.take (k + 1))).length ≤ 4 * (k + 1) := by rw [HT.out, List.length_append, HL.out]; omega
                exact ⟨k + 1, by omega, by go_num, HB, HO, hb.upto hb1 (Nat.le_refl _)⟩
              case measure => simp [intOf]; omega
            · obtain ⟨p, hp, hp1⟩ : ∃ p : Nat, (m : Int) / 262144 = (p : Int) ∧ p < 8 := ⟨m / 262144, by omega, by omega⟩
              obtain ⟨q, hq, hq1⟩ : ∃ q : Nat, (m : Int) / 4096 = (q : Int) ∧ q < 512 := ⟨m / 4096, by omega, by omega⟩
              obtain ⟨q2, hq2, hq21⟩ : ∃ q2 : Nat, (q : Int) % 64 = (q2 : Int) ∧ q2 < 64 := ⟨q % 64, by omega, by omega⟩
              obtain ⟨r, hr, hr1⟩ : ∃ r : Nat, (m : Int) / 64 = (r : Int) ∧ r < 32768 := ⟨m / 64, by omega, by omega⟩
              obtain ⟨s, hs, hs1⟩ : ∃ s : Nat, (r : Int) % 64 = (s : Int) ∧ s < 64 := ⟨r % 64, by omega, by omega⟩
              obtain ⟨c', hc, hc1'⟩ : ∃ c' : Nat, (m : Int) % 64 = (c' : Int) ∧ c' < 64 := ⟨m % 64, by omega, by omega⟩
              have HR := Lib.hid (show (M.row8 (m : Int)).map byteVal = [.int .u8 (240 + (p : Int)), .int .u8 (128 + (q2 : Int)), .int .u8 (128 + (s : Int)), .int .u8 (128 + (c' : Int))] by
                rw [M.row8, if_neg (by omega), if_neg (by omega), if_neg (by omega)]; simp [byteVal]; omega)
              have HL := Lib.hid (show (M.row8 (m : Int)).length = 4 by rw [M.row8, if_neg (by omega), if_neg (by omega), if_neg (by omega)]; rfl)
              have o1 := or_240 (p : Int) (by omega) (by omega)
              have o2 := or_128 (c' : Int) (by omega) (by omega)
              have o3 := or_128 (s : Int) (by omega) (by omega)
              have o4 := or_128 (q2 : Int) (by omega) (by omega)
              have a1 : bits .and .i64 (m : Int) 63 = (c' : Int) := by rw [and_63 (m : Int) (by omega) (by omega), hc]
              have a2 := and_63 (r : Int) (by omega) (by omega)
              rw [hs] at a2
              have a3 := and_63 (q : Int) (by omega) (by omega)
              rw [hq2] at a3
              clear hc hs hq2
              go_wp2_with (first | (at_builtin; refine wpList_apps (.tmp 12) (.tmp 31) 34 rfl elemByte (by decide) w.heap.size _ _ _ hown (by simp [Value.oneCell']) (by simp; omega) (by first | exact Nat.le_refl _ | assumption | (have := hb.size; omega)) rfl rfl rfl ?_; intro v' w1 hown' hb1))
              go_roundw
              case rel =>
                have HO : Own w.heap.size 5 w1 v' ((M.bytes8 (xs.take (k + 1))).map byteVal) := by rw [HT.out, List.map_append, HR.out]; exact hown'
                have HB : (M.bytes8 (xs.take (k + 1))).length ≤ 4 * (k + 1) := by rw [HT.out, List.length_append, HL.out]; omega
                exact ⟨k + 1, by omega, by go_num, HB, HO, hb.upto hb1 (Nat.le_refl _)⟩
              case measure => simp [intOf]; omega
    · obtain rfl : k = xs.length := by omega
      have HT := Lib.hid (show xs.take xs.length = xs from List.take_length)
      rw [HT.out] at hown
      go_wp2_with (first | ((with_reducible show wpList _ _ _ _ _ _); refine wpList_toString rfl (.tmp 75) _ _ 5 rfl Tryd.underlying34 Tryd.underlying5 Tryd.underlying9 w.heap.size _ (M.bytes8 xs) rfl hown ?_))
      go_ret
      exact ⟨rfl, hb⟩
theorem points_scalars (xs : List Int) (h : M.points xs = 0) : xs.length ≤ 3000 ∧ ∀ n ∈ xs, M.scalar n = true := by
  unfold M.points at h
  split at h
  · cases h
  · split at h
    · rename_i hs
      exact ⟨by omega, List.all_eq_true.1 hs⟩
    · cases h
theorem scalar_bounds (n : Int) (h : M.scalar n = true) : 0 ≤ n ∧ n ≤ 1114111 ∧ (n < 55296 ∨ 57343 < n) := by simpa [M.scalar] using h
end Go.Proofs.YtbddfefcgfenfaaDoor

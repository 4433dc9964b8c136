/-
  The document's answers on encodings of a byte a sign.
-/
import Derived.Test.YtbddfefcgfenfaaDoorSingle2
import Derived.Test.YtbddfefcgfenfaaDoorRInts
namespace Go.Proofs.YtbddfefcgfenfaaDoor
open Go.RowKit

set_option maxRecDepth 100000 in
theorem pointOf_any (user : Bool) (n : Int) (w : World) (h0 : 0 ≤ n) (h1 : n < 256) : Calls Tryd.prog 103 #[.bool user, .int .i64 n] w fun e w' => e = .returned (.int .i64 (M.pointOf user n.toNat)) ∧ Bel w w' := by
  obtain ⟨k, rfl⟩ := Int.eq_ofNat_of_zero_le h0
  rw [Int.toNat_natCast]
  have hk : k < 256 := by omega
  by_cases g1 : k < 128
  · have HP := Lib.hid (show M.pointOf user k = (k : Int) by rw [M.pointOf, if_pos g1])
    go_enter Tryd.func103, Tryd.ntmps103
    go_wp2_with fail
    go_ret
    rw [HP.out]
    exact ⟨rfl, Bel.refl _⟩
  · cases user
    · by_cases g2 : k < 160
      · have HP := Lib.hid (show M.pointOf false k = M.high[k - 128]?.getD 0 by rw [M.pointOf, if_neg g1, if_neg (by simp), if_pos g2])
        go_enter Tryd.func103, Tryd.ntmps103
        go_wp2_with (first | (go_at_call 138; refine (high_any _).mono ?_; rintro e w' ⟨rfl, hc, hb2⟩; have hc' := hc (k - 128) (by omega)))
        go_ret
        rw [HP.out]
        exact ⟨rfl, by assumption⟩
      · have HP := Lib.hid (show M.pointOf false k = (k : Int) by rw [M.pointOf, if_neg g1, if_neg (by simp), if_neg g2])
        go_enter Tryd.func103, Tryd.ntmps103
        go_wp2_with fail
        go_ret
        rw [HP.out]
        exact ⟨rfl, Bel.refl _⟩
    · have HP := Lib.hid (show M.pointOf true k = 63232 + (k : Int) by rw [M.pointOf, if_neg g1, if_pos rfl])
      go_enter Tryd.func103, Tryd.ntmps103
      go_wp2_with fail
      go_ret
      rw [HP.out]
      exact ⟨rfl, Bel.refl _⟩
set_option maxRecDepth 100000 in
theorem byteOf_any (user : Bool) (n : Int) (w : World) : Calls Tryd.prog 71 #[.bool user, .int .i64 n] w fun e w' => e = .returned (.int .i64 (M.byteOf user n)) ∧ Bel w w' := by
  go_enter Tryd.func71, Tryd.ntmps71
  go_wp2_with fail
  go_loopw [5] (fun i wr => ∃ k : Nat, k ≤ 256 ∧ i = .int .i64 k ∧ Hid (∀ j, j < k → M.pointOf user j ≠ n) ∧ Bel w wr) (fun i _ => 256 - (intOf i).toNat)
  case atStart => exact ⟨0, by omega, rfl, Lib.hid (fun j hj => by omega), Bel.refl _⟩
  case round =>
    obtain ⟨k, hk, rfl, hno, hb⟩ := hrel
    by_cases hlt : k < 256
    · by_cases he : M.pointOf user k = n
      · have he2 : (M.pointOf user k == n) = true := by simpa using he
        have HF := Lib.hid (show M.byteOf user n = (k : Int) from M.idx_found _ _ k (by rw [table_at user k hlt, he]) (fun j hj hh => by
          rw [table_at user j (by omega)] at hh; injection hh with hh; exact hno.out j hj hh))
        clear he
        go_wp2_with (go_at_call 103; refine (pointOf_any _ _ _ (by omega) (by omega)).mono ?_; rintro e w' ⟨rfl, hb2⟩; rw [Int.toNat_natCast])
        go_ret
        rw [HF.out]
        exact ⟨rfl, (by repeat (first | exact Bel.refl _ | refine Bel.drewN ?_ _ | refine Bel.drew ?_ | refine Bel.alloc ?_ _ | refine Bel.trans ?_ (by assumption) | refine Bel.setCell ?_ (by simp; omega) _))⟩
      · have he2 : (M.pointOf user k == n) = false := by simpa using he
        have HF := Lib.hid (show ∀ j, j < k + 1 → M.pointOf user j ≠ n from fun j hj hh => by
          by_cases hjk : j < k
          · exact hno.out j hjk hh
          · obtain rfl : j = k := by omega
            exact he hh)
        clear he
        go_wp2_with (go_at_call 103; refine (pointOf_any _ _ _ (by omega) (by omega)).mono ?_; rintro e w' ⟨rfl, hb2⟩; rw [Int.toNat_natCast])
        go_roundw
        case rel => exact ⟨k + 1, by omega, by go_num, HF, hb.trans (by assumption)⟩
        case measure => simp [intOf]; omega
    · obtain rfl : k = 256 := by omega
      have HF := Lib.hid (show M.byteOf user n = -1 from M.idx_none _ _ (fun j hj hh => by
        rw [table_len] at hj
        rw [table_at user j hj] at hh; injection hh with hh; exact hno.out j hj hh))
      go_wp2_with fail
      go_ret
      rw [HF.out]
      exact ⟨rfl, hb⟩
set_option maxRecDepth 100000 in
theorem encodeSingle_any (user : Bool) (v : Value) (xs : List Int) (w : World) (hv : IntSl w v xs) (hlen : xs.length ≤ 1000000) :
    Calls Tryd.prog 69 #[.bool user, v] w fun e w' => e = .returned (.tuple #[.string ⟨(M.rawS user xs).1.toArray⟩, .bool ((M.rawS user xs).2 == 0)]) ∧ Bel w w' := by
  obtain ⟨a, ca, rfl, hc1, hc2, hn, hx⟩ := hv
  unfold maxLen at hc2
  go_enter Tryd.func69, Tryd.ntmps69
  go_wp2_with fail
  go_loopw [6, 7] (fun v i wr => ∃ k : Nat, k ≤ xs.length ∧ i = .int .i64 k ∧ ∃ l, Hid (M.encodeS user (xs.take k) = some l) ∧ l.length ≤ k ∧ Own w.heap.size 5 wr v (l.map byteVal) ∧ Bel w wr) (fun _ i _ => xs.length - (intOf i).toNat)
  case atStart => exact ⟨0, by omega, rfl, [], Lib.hid rfl, by simp, Own.nil _ _ _, Bel.refl _⟩
  case round =>
    obtain ⟨k, hk, rfl, l, HL, hl, hown, hb⟩ := hrel
    by_cases hlt : k < xs.length
    · obtain ⟨n, hn1⟩ : ∃ n, xs[k]? = some n := ⟨_, List.getElem?_eq_getElem hlt⟩
      cases a with
      | none => exfalso; have h3 := hlt; rw [hn rfl, List.length_nil] at h3; omega
      | some x =>
        have hcw : w.cell? (x.add k) = some (.int .i64 n) := hx x rfl k n hn1
        have hcell : wr.cell? (x.add k) = some (.int .i64 n) := (hb.cell (World.block_lt_of_cell? w _ hcw)).trans hcw
        rcases M.byteOf_cases user n with ⟨hb1, hno⟩ | ⟨j, hj, hb1, hpj⟩
        · have HR := Lib.hid (show M.rawS user xs = ([], 5) by rw [M.rawS, M.encodeS_miss user xs k n hn1 hb1])
          have hneg : M.byteOf user n < 0 := by omega
          clear hx hn hno hn1 hb1 hcw
          go_wp2_with (go_at_call 71; refine (byteOf_any _ _ _).mono ?_; rintro e w' ⟨rfl, hb2⟩)
          go_ret2
          rw [HR.out]
          exact ⟨rfl, (by repeat (first | exact Bel.refl _ | refine Bel.drewN ?_ _ | refine Bel.drew ?_ | refine Bel.alloc ?_ _ | refine Bel.trans ?_ (by assumption) | refine Bel.setCell ?_ (by simp; omega) _))⟩
        · have HE := Lib.hid (M.encodeS_hit user xs k n j l hn1 hb1 HL.out)
          have HV := Lib.hid (show [UInt8.ofNat j].map byteVal = [.int .u8 (j : Int)] by simp [byteVal]; omega)
          have HB1 := Lib.hid hb1
          clear hx hn hn1 hb1 hcw hpj
          go_wp2_with (first | (go_at_call 71; refine (byteOf_any _ _ _).mono ?_; rintro e w' ⟨rfl, hb2⟩; rw [HB1.out]; have hown2 := hown.bel hb2; have hb3 : Bel w _ := hb.trans hb2; have hB := hb3.size) | (at_builtin; refine wpList_app rfl (.tmp 23) (.tmp 26) 34 rfl elemByte (by decide) w.heap.size _ _ _ rfl rfl hown2 rfl (by simp; omega) (by first | exact Nat.le_refl _ | assumption | (have := hb.size; omega)) ?_; intro v' w1 hown' hb1))
          go_roundw
          case rel =>
            have HO : Own w.heap.size 5 w1 v' ((l ++ [UInt8.ofNat j]).map byteVal) := by rw [List.map_append, HV.out]; exact hown'
            have HB : Bel w w1 := hb3.upto hb1 (Nat.le_refl _)
            first | exact ⟨k + 1, by omega, by go_num, _, HE, by simp; omega, HO, HB⟩ | ((repeat apply Exists.intro); exact ⟨⟨k + 1, by omega, by go_num, _, HE, by simp; omega, HO, HB⟩, rfl⟩)
          case measure => simp [intOf]; omega
    · obtain rfl : k = xs.length := by omega
      have HR := Lib.hid (show M.rawS user xs = (l, 0) by rw [M.rawS, ← List.take_length (l := xs), HL.out])
      go_wp2_with (first | ((with_reducible show wpList _ _ _ _ _ _); refine wpList_toString rfl (.tmp 28) _ _ 5 rfl Tryd.underlying34 Tryd.underlying5 Tryd.underlying9 w.heap.size _ l rfl hown ?_))
      go_ret2
      rw [HR.out]
      exact ⟨rfl, hb⟩
end Go.Proofs.YtbddfefcgfenfaaDoor

/-
  Package single: what table, All, Decode, Tells, Raw, Encode compute.
-/
import Derived.Test.YtbddfefcgfenfaaDoorBase3
import Derived.Test.YtbddfefcgfenfaaDoorPlainSingle
import Derived.Test.YtbddfefcgfenfaaDoorPlainMap
import Derived.Maps.OwnSet
namespace Go.Proofs.YtbddfefcgfenfaaDoor
open Go.RowKit

theorem high_any (w : World) : Calls Tryd.prog 138 #[] w fun e w' => e = .returned (.slice (some ⟨w.heap.size, 0, none⟩) 32 32) ∧ (∀ j, j < 32 → w'.cell? ⟨w.heap.size, j, none⟩ = some (.int .i64 (M.high[j]?.getD 0))) ∧ Bel w w' := by
  go_enter Tryd.func138, Tryd.ntmps138
  go_wp2
  go_ret
  refine ⟨rfl, fun j hj => ?_, (by repeat (first | exact Bel.refl _ | refine Bel.drewN ?_ _ | refine Bel.drew ?_ | refine Bel.alloc ?_ _ | refine Bel.trans ?_ (by assumption) | refine Bel.setCell ?_ (by simp; omega) _))⟩
  rw [World.cell?_alloc_new]
  have h2 : j < M.high.length := hj
  show (M.high.map (Value.int .i64)).toArray[j]? = _
  rw [List.getElem?_toArray, List.getElem?_map, List.getElem?_eq_getElem h2]
  rfl
theorem table_len (user : Bool) : (M.tableOf user).length = 256 := by simp [M.tableOf]
theorem table_at (user : Bool) (k : Nat) (hk : k < 256) : (M.tableOf user)[k]? = some (M.pointOf user k) := by simp [M.tableOf, hk]
set_option maxRecDepth 100000 in
theorem table_any (user : Bool) (w : World) : Calls Tryd.prog 131 #[.bool user] w fun e w' => ∃ v, e = .returned v ∧ Own w.heap.size 3 w' v ((M.tableOf user).map (Value.int .i64)) ∧ Bel w w' := by
  go_enter Tryd.func131, Tryd.ntmps131
  go_wp2_with fail
  go_loopw [3, 5] (fun v i wr => ∃ k : Nat, k ≤ 256 ∧ i = .int .i64 k ∧ Own w.heap.size 3 wr v (((M.tableOf user).take k).map (Value.int .i64)) ∧ Bel w wr) (fun _ i _ => 256 - (intOf i).toNat)
  case atStart => exact ⟨0, by omega, rfl, Own.nil _ _ _, Bel.refl _⟩
  case round =>
    obtain ⟨k, hk, rfl, hown, hb⟩ := hrel
    by_cases hlt : k < 256
    · have HT := Lib.hid (take_snoc (Value.int .i64) _ _ _ (table_at user k hlt))
      by_cases h1 : k < 128
      · have HP := Lib.hid (show M.pointOf user k = (k : Int) by rw [M.pointOf, if_pos h1])
        go_wp2_with (first | (at_builtin; refine wpList_app rfl (.tmp 8) (.tmp 10) 36 rfl elemInt (by decide) w.heap.size _ _ _ rfl rfl hown rfl (by simp; omega) (by first | exact Nat.le_refl _ | assumption | (have := hb.size; omega)) ?_; intro v' w1 hown' hb1))
        go_roundw
        case rel => exact ⟨k + 1, by omega, by go_num, by rw [HT.out, HP.out]; exact hown', hb.upto hb1 (Nat.le_refl _)⟩
        case measure => simp [intOf]; omega
      · cases user
        · by_cases h2 : k < 160
          · have HP := Lib.hid (show M.pointOf false k = M.high[k - 128]?.getD 0 by rw [M.pointOf, if_neg h1, if_neg (by simp), if_pos h2])
            go_wp2_with (first | (go_at_call 138; refine (high_any _).mono ?_; rintro e w' ⟨rfl, hc, hb2⟩; have hc' := hc (k - 128) (by omega); have hown2 := hown.bel hb2; have hb3 := hb.trans hb2) | (at_builtin; refine wpList_app rfl (.tmp 31) (.tmp 37) 36 rfl elemInt (by decide) w.heap.size _ _ _ rfl rfl hown2 rfl (by simp; omega) (by have := hb3.size; omega) ?_; intro v' w1 hown' hb1))
            go_roundw
            case rel => exact ⟨k + 1, by omega, by go_num, by rw [HT.out, HP.out]; exact hown', hb3.upto hb1 (Nat.le_refl _)⟩
            case measure => simp [intOf]; omega
          · have HP := Lib.hid (show M.pointOf false k = (k : Int) by rw [M.pointOf, if_neg h1, if_neg (by simp), if_neg h2])
            go_wp2_with (first | (at_builtin; refine wpList_app rfl (.tmp 8) (.tmp 10) 36 rfl elemInt (by decide) w.heap.size _ _ _ rfl rfl hown rfl (by simp; omega) (by first | exact Nat.le_refl _ | assumption | (have := hb.size; omega)) ?_; intro v' w1 hown' hb1))
            go_roundw
            case rel => exact ⟨k + 1, by omega, by go_num, by rw [HT.out, HP.out]; exact hown', hb.upto hb1 (Nat.le_refl _)⟩
            case measure => simp [intOf]; omega
        · have HP := Lib.hid (show M.pointOf true k = 63232 + (k : Int) by rw [M.pointOf, if_neg h1, if_pos rfl])
          have e1 : (63360 : Int) + (k : Int) - 128 = 63232 + (k : Int) := by omega
          have E1 := Lib.hid e1
          clear e1
          go_wp2_with (first | (at_builtin; refine wpList_app rfl (.tmp 18) (.tmp 22) 36 rfl elemInt (by decide) w.heap.size _ _ _ rfl rfl hown rfl (by simp; omega) (by first | exact Nat.le_refl _ | assumption | (have := hb.size; omega)) ?_; intro v' w1 hown' hb1))
          go_roundw
          case rel => exact ⟨k + 1, by omega, by go_num, by rw [HT.out, HP.out, ← E1.out]; exact hown', hb.upto hb1 (Nat.le_refl _)⟩
          case measure => simp [intOf]; omega
    · obtain rfl : k = 256 := by omega
      have HT := Lib.hid (show (M.tableOf user).take 256 = M.tableOf user by rw [List.take_of_length_le (by rw [table_len]; exact Nat.le_refl _)])
      go_wp2_with fail
      go_ret
      exact ⟨_, rfl, by rw [← HT.out]; exact hown, hb⟩
theorem index_any (v : Value) (xs : List Int) (n : Int) (w : World) (hv : IntSl w v xs) (hl : xs.length ≤ 68719476736) : Calls Tryd.prog 130 #[v, .int .i64 n] w fun e w' => e = .returned (.int .i64 (M.idx xs n)) ∧ w = w' := by
  obtain ⟨a, c, rfl, hc1, hc2, hn, hx⟩ := hv
  unfold maxLen at hc2
  go_enter Tryd.func130, Tryd.ntmps130
  go_wp2_with fail
  go_loop [8] (fun i => ∃ k : Nat, k ≤ xs.length ∧ i = .int .i64 k ∧ ∀ j, j < k → xs[j]? ≠ some n) (fun i => xs.length - (intOf i).toNat)
  case atStart => exact ⟨0, by omega, rfl, fun j hj => by omega⟩
  case round =>
    obtain ⟨k, hk, rfl, hno⟩ := hrel
    have Hno := Lib.hid hno
    clear hno
    by_cases hlt : k < xs.length
    · obtain ⟨y, hy⟩ : ∃ y, xs[k]? = some y := ⟨_, List.getElem?_eq_getElem hlt⟩
      cases a with
      | none => rw [hn rfl] at hlt; simp at hlt
      | some x =>
        have hcell := hx x rfl k y hy
        by_cases he : n = y
        · subst he
          have HF := Lib.hid (M.idx_found xs n k hy Hno.out)
          clear hy hx hn
          go_wp2_with fail
          go_ret
          exact ⟨by rw [HF.out]; rfl, rfl⟩
        · have hne : (n == y) = false := by simpa using he
          have HF := Lib.hid (show ∀ j, j < k + 1 → xs[j]? ≠ some n by
            intro j hj hh
            by_cases hjk : j < k
            · exact Hno.out j hjk hh
            · obtain rfl : j = k := by omega
              rw [hy] at hh; injection hh with hh; exact he hh.symm)
          clear hy hx hn he
          go_wp2_with fail
          go_round
          case rel => exact ⟨k + 1, by omega, by go_num, HF.out⟩
          case measure => simp [intOf]; omega
    · obtain rfl : k = xs.length := by omega
      have HF := Lib.hid (M.idx_none xs n Hno.out)
      go_wp2_with fail
      go_ret
      exact ⟨by rw [HF.out]; rfl, rfl⟩
theorem table_row (user : Bool) (w : World) : Calls Tryd.prog 131 #[.bool user] w fun e w' => ∃ g c, e = .returned (.slice (some ⟨g, 0, none⟩) 256 c) ∧ 256 ≤ c ∧ c ≤ 9223372036854775807 ∧ w.heap.size ≤ g ∧ g < w'.heap.size ∧ (∀ k, k < 256 → w'.cell? ⟨g, k, none⟩ = some (.int .i64 (M.pointOf user k))) ∧ IntSl w' (.slice (some ⟨g, 0, none⟩) 256 c) (M.tableOf user) ∧ Bel w w' := by
  refine (table_any user w).mono ?_
  rintro e w' ⟨v, rfl, hown, hb⟩
  have hi := hown.ints
  obtain ⟨A, c, hv, h1, h2, h3, h4⟩ := hown.form
  rw [List.length_map, table_len] at hv h1
  cases A with
  | none =>
    have h5 := congrArg List.length (h3 rfl)
    rw [List.length_map, table_len] at h5
    cases h5
  | some x =>
    obtain ⟨g, o, p⟩ := x
    obtain ⟨rfl, rfl, h5, h6, _, h7⟩ := h4 g o p rfl
    subst hv
    refine ⟨g, c, rfl, h1, h2, h5, h6, fun k hk => h7 k _ (by rw [List.getElem?_map, table_at user k hk]; rfl), hi, hb⟩
set_option maxRecDepth 100000 in
theorem all_any (user : Bool) (s : ByteArray) (w : World) (hs : s.size ≤ 68719476735) : Calls Tryd.prog 121 #[.bool user, .string s] w fun e w' => ∃ v, e = .returned v ∧ Own w.heap.size 3 w' v ((M.decodeS user s.data.toList).map (Value.int .i64)) ∧ Bel w w' := by
  have HS := Lib.hid (Lib.size_eq s)
  go_enter Tryd.func121, Tryd.ntmps121
  go_wp2_with (first | (go_at_call 131; refine (table_row _ _).mono ?_; rintro e w' ⟨g, c, rfl, hc1, hc2, hg0, hg, hcell, _, hb⟩) | ((with_reducible show wpList _ _ _ _ _ _); refine wpList_toBytes rfl (.tmp 11) _ _ 5 rfl Tryd.underlying9 Tryd.underlying34 Tryd.underlying5 s rfl (by omega) ?_; intro cb w2 hb2 hg2 hcb1 hcb2 hcellb _))
  have hgl : g < w2.heap.size := hb2.lt hg
  go_loopw [6, 14] (fun v i wr => ∃ k : Nat, k ≤ s.size ∧ i = .int .i64 k ∧ Own w2.heap.size 3 wr v (((M.decodeS user s.data.toList).take k).map (Value.int .i64)) ∧ Below w2.heap.size w2 wr) (fun _ i _ => s.size - (intOf i).toNat)
  case atStart => exact ⟨0, by omega, rfl, Own.nil _ _ _, Below.refl _ _⟩
  case round =>
    obtain ⟨k, hk, rfl, hown, hb⟩ := hrel
    by_cases hlt : k < s.size
    · obtain ⟨c, hc⟩ : ∃ c, s.data.toList[k]? = some c := ⟨_, List.getElem?_eq_getElem (by rw [← Lib.size_eq]; exact hlt)⟩
      have hcl : c.toNat < 256 := c.toNat_lt
      have h1 : wr.cell? ⟨w'.heap.size, k, none⟩ = some (.int .u8 (c.toNat : Int)) := (hb.cell (p := ⟨_, k, none⟩) hg2).trans (hcellb k c hc)
      have h2 : wr.cell? ⟨g, c.toNat, none⟩ = some (.int .i64 (M.pointOf user c.toNat)) := (hb.cell (p := ⟨g, _, none⟩) hgl).trans ((hb2.cell (p := ⟨g, _, none⟩) hg).trans (hcell _ hcl))
      have HT := Lib.hid (take_snoc (Value.int .i64) (M.decodeS user s.data.toList) k (M.pointOf user c.toNat) (by rw [M.decodeS, List.getElem?_map, hc]; rfl))
      have hlen : ((M.decodeS user s.data.toList).take k).length ≤ k := List.length_take_le _ _
      clear hcellb hcell hc
      go_wp2_with (first | (at_builtin; refine wpList_app rfl (.tmp 18) (.tmp 23) 36 rfl elemInt (by decide) w2.heap.size _ _ _ rfl rfl hown rfl (by simp; omega) (by first | exact Nat.le_refl _ | assumption | (have := hb.size; omega)) ?_; intro v' w1 hown' hb1))
      go_roundw
      case rel => exact ⟨k + 1, by omega, by go_num, by rw [HT.out]; exact hown', hb.trans hb1⟩
      case measure => simp [intOf]; omega
    · obtain rfl : k = s.size := by omega
      have HT := Lib.hid (show (M.decodeS user s.data.toList).take s.size = M.decodeS user s.data.toList by rw [List.take_of_length_le (by rw [M.decodeS, List.length_map, ← Lib.size_eq]; exact Nat.le_refl _)])
      go_wp2_with fail
      go_ret
      exact ⟨_, rfl, by rw [← HT.out]; exact hown.mono (Nat.le_trans (by assumption : Bel w w').size hb2.size), Bel.upto (Bel.trans (by assumption : Bel w w') hb2) hb (Nat.le_trans (by assumption : Bel w w').size hb2.size)⟩
theorem tells_any (user : Bool) (n : Int) (w : World) : Calls Tryd.prog 92 #[.bool user, .int .i64 n] w fun e w' => e = .returned (.tuple #[.int .i64 (M.tellsS user n).1, .int .i64 (M.tellsS user n).2]) ∧ Bel w w' := by
  have HE := Lib.hid (show M.idx (M.tableOf user) n = M.byteOf user n from rfl)
  by_cases h : M.byteOf user n < 0
  · have H := Lib.hid (show M.tellsS user n = (0, 5) by rw [M.tellsS, if_pos h])
    go_enter Tryd.func92, Tryd.ntmps92
    go_wp2_with (first | (go_at_call 131; refine (table_row _ _).mono ?_; rintro e w' ⟨g, c, rfl, hc1, hc2, hg0, hg, hcell, hi, hb⟩) | (go_at_call 130; refine (index_any _ _ _ _ hi (by rw [table_len]; omega)).mono ?_; rintro e w' ⟨rfl, rfl⟩; rw [HE.out]))
    go_ret2
    rw [H.out]
    exact ⟨rfl, (by repeat (first | exact Bel.refl _ | refine Bel.drewN ?_ _ | refine Bel.drew ?_ | refine Bel.alloc ?_ _ | refine Bel.trans ?_ (by assumption) | refine Bel.setCell ?_ (by simp; omega) _))⟩
  · have H := Lib.hid (show M.tellsS user n = (M.byteOf user n, 0) by rw [M.tellsS, if_neg h])
    go_enter Tryd.func92, Tryd.ntmps92
    go_wp2_with (first | (go_at_call 131; refine (table_row _ _).mono ?_; rintro e w' ⟨g, c, rfl, hc1, hc2, hg0, hg, hcell, hi, hb⟩) | (go_at_call 130; refine (index_any _ _ _ _ hi (by rw [table_len]; omega)).mono ?_; rintro e w' ⟨rfl, rfl⟩; rw [HE.out]))
    go_ret2
    rw [H.out]
    exact ⟨rfl, (by repeat (first | exact Bel.refl _ | refine Bel.drewN ?_ _ | refine Bel.drew ?_ | refine Bel.alloc ?_ _ | refine Bel.trans ?_ (by assumption) | refine Bel.setCell ?_ (by simp; omega) _))⟩
end Go.Proofs.YtbddfefcgfenfaaDoor

/-
  Texts of the proof, laid together: Single, Kana, Kana2, Kana3, Stream, Stream2, PlainWait, Stream3. No condition of its own.
-/
import Derived.Test.YteingkjdemlhgaaGreatDoorG2
import Derived.Maps.OwnSet
import Derived.Test.YteingkjdemlhgaaGreatDoorG6
import Derived.Test.YteingkjdemlhgaaGreatDoorG1
import Derived.RegionTactic
import Derived.BigRegion

/-
  Package single: what table, All, Decode, Tells, Raw, Encode compute.
-/
namespace Go.Proofs.YteingkjdemlhgaaGreatDoor
open Go.RowKit
theorem high_any (w : World) : Calls Tryz.prog 149 #[] w fun e w' => e = .returned (.slice (some ⟨w.heap.size, 0, none⟩) 32 32) ∧ (∀ j, j < 32 → w'.cell? ⟨w.heap.size, j, none⟩ = some (.int .i64 (M.high[j]?.getD 0))) ∧ Bel w w' := by
  go_enter Tryz.func149, Tryz.ntmps149
  go_wp2
  go_ret
  refine ⟨rfl, fun j hj => ?_, (by repeat (first | exact Bel.refl _ | refine Bel.drewN ?_ _ | refine Bel.drew ?_ | refine Bel.alloc ?_ _ | refine Bel.trans ?_ (by assumption) | refine Bel.setCell ?_ (by simp; omega) _))⟩
  rw [World.cell?_alloc_new]
  have h2 : j < M.high.length := hj
  show (M.high.map (Value.int .i64)).toArray[j]? = _
  rw [List.getElem?_toArray, List.getElem?_map, List.getElem?_eq_getElem h2]
  rfl
theorem table_len (user : Bool) : (M.tableOf user).length = 256 := by simp [M.tableOf]
theorem table_at (user : Bool) (k : Nat) (hk : k < 256) : (M.tableOf user)[k]? = some (M.pointOf user k) := by simp [M.tableOf, hk]
set_option maxRecDepth 100000 in
theorem table_any (user : Bool) (w : World) : Calls Tryz.prog 132 #[.bool user] w fun e w' => ∃ v, e = .returned v ∧ Own w.heap.size 3 w' v ((M.tableOf user).map (Value.int .i64)) ∧ Bel w w' := by
  go_enter Tryz.func132, Tryz.ntmps132
  go_wp2_with fail
  go_loopw [3, 5] (fun v i wr => ∃ k : Nat, k ≤ 256 ∧ i = .int .i64 k ∧ Own w.heap.size 3 wr v (((M.tableOf user).take k).map (Value.int .i64)) ∧ Bel w wr) (fun _ i _ => 256 - (intOf i).toNat)
  case atStart => exact ⟨0, by omega, rfl, Own.nil _ _ _, Bel.refl _⟩
  case round =>
    obtain ⟨k, hk, rfl, hown, hb⟩ := hrel
    by_cases hlt : k < 256
    · have HT := Lib.hid (take_snoc (Value.int .i64) _ _ _ (table_at user k hlt))
      by_cases h1 : k < 128
      · have HP := Lib.hid (show M.pointOf user k = (k : Int) by rw [M.pointOf, if_pos h1])
        go_wp2_with (first | (at_builtin; refine wpList_app rfl (.tmp 8) (.tmp 10) 30 rfl elemInt (by decide) w.heap.size _ _ _ rfl rfl hown rfl (by simp; omega) (by first | exact Nat.le_refl _ | assumption | (have := hb.size; omega)) ?_; intro v' w1 hown' hb1))
        go_roundw
        case rel => exact ⟨k + 1, by omega, by go_num, by rw [HT.out, HP.out]; exact hown', hb.upto hb1 (Nat.le_refl _)⟩
        case measure => simp [intOf]; omega
      · cases user
        · by_cases h2 : k < 160
          · have HP := Lib.hid (show M.pointOf false k = M.high[k - 128]?.getD 0 by rw [M.pointOf, if_neg h1, if_neg (by simp), if_pos h2])
            go_wp2_with (first | (go_at_call 149; refine (high_any _).mono ?_; rintro e w' ⟨rfl, hc, hb2⟩; have hc' := hc (k - 128) (by omega); have hown2 := hown.bel hb2; have hb3 := hb.trans hb2) | (at_builtin; refine wpList_app rfl (.tmp 31) (.tmp 37) 30 rfl elemInt (by decide) w.heap.size _ _ _ rfl rfl hown2 rfl (by simp; omega) (by have := hb3.size; omega) ?_; intro v' w1 hown' hb1))
            go_roundw
            case rel => exact ⟨k + 1, by omega, by go_num, by rw [HT.out, HP.out]; exact hown', hb3.upto hb1 (Nat.le_refl _)⟩
            case measure => simp [intOf]; omega
          · have HP := Lib.hid (show M.pointOf false k = (k : Int) by rw [M.pointOf, if_neg h1, if_neg (by simp), if_neg h2])
            go_wp2_with (first | (at_builtin; refine wpList_app rfl (.tmp 8) (.tmp 10) 30 rfl elemInt (by decide) w.heap.size _ _ _ rfl rfl hown rfl (by simp; omega) (by first | exact Nat.le_refl _ | assumption | (have := hb.size; omega)) ?_; intro v' w1 hown' hb1))
            go_roundw
            case rel => exact ⟨k + 1, by omega, by go_num, by rw [HT.out, HP.out]; exact hown', hb.upto hb1 (Nat.le_refl _)⟩
            case measure => simp [intOf]; omega
        · have HP := Lib.hid (show M.pointOf true k = 63232 + (k : Int) by rw [M.pointOf, if_neg h1, if_pos rfl])
          have e1 : (63360 : Int) + (k : Int) - 128 = 63232 + (k : Int) := by omega
          have E1 := Lib.hid e1
          clear e1
          go_wp2_with (first | (at_builtin; refine wpList_app rfl (.tmp 18) (.tmp 22) 30 rfl elemInt (by decide) w.heap.size _ _ _ rfl rfl hown rfl (by simp; omega) (by first | exact Nat.le_refl _ | assumption | (have := hb.size; omega)) ?_; intro v' w1 hown' hb1))
          go_roundw
          case rel => exact ⟨k + 1, by omega, by go_num, by rw [HT.out, HP.out, ← E1.out]; exact hown', hb.upto hb1 (Nat.le_refl _)⟩
          case measure => simp [intOf]; omega
    · obtain rfl : k = 256 := by omega
      have HT := Lib.hid (show (M.tableOf user).take 256 = M.tableOf user by rw [List.take_of_length_le (by rw [table_len]; exact Nat.le_refl _)])
      go_wp2_with fail
      go_ret
      exact ⟨_, rfl, by rw [← HT.out]; exact hown, hb⟩
theorem index_any (v : Value) (xs : List Int) (n : Int) (w : World) (hv : IntSl w v xs) (hl : xs.length ≤ 68719476736) : Calls Tryz.prog 138 #[v, .int .i64 n] w fun e w' => e = .returned (.int .i64 (M.idx xs n)) ∧ w = w' := by
  obtain ⟨a, c, rfl, hc1, hc2, hn, hx⟩ := hv
  unfold maxLen at hc2
  go_enter Tryz.func138, Tryz.ntmps138
  go_wp2_with fail
  go_loop [8] (fun i => ∃ k : Nat, k ≤ xs.length ∧ i = .int .i64 k ∧ ∀ j, j < k → xs[j]? ≠ some n) (fun i => xs.length - (intOf i).toNat)
  case atStart => exact ⟨0, by omega, rfl, fun j hj => by omega⟩
  case round =>
    obtain ⟨k, hk, rfl, hno⟩ := hrel
    have Hno := Lib.hid hno
    clear hno
    by_cases hlt : k < xs.length
    · obtain ⟨y, hy⟩ : ∃ y, xs[k]? = some y := ⟨_, List.getElem?_eq_getElem hlt⟩
      cases a with
      | none => rw [hn rfl] at hlt; simp at hlt
      | some x =>
        have hcell := hx x rfl k y hy
        by_cases he : n = y
        · subst he
          have HF := Lib.hid (M.idx_found xs n k hy Hno.out)
          clear hy hx hn
          go_wp2_with fail
          go_ret
          exact ⟨by rw [HF.out]; rfl, rfl⟩
        · have hne : (n == y) = false := by simpa using he
          have HF := Lib.hid (show ∀ j, j < k + 1 → xs[j]? ≠ some n by
            intro j hj hh
            by_cases hjk : j < k
            · exact Hno.out j hjk hh
            · obtain rfl : j = k := by omega
              rw [hy] at hh; injection hh with hh; exact he hh.symm)
          clear hy hx hn he
          go_wp2_with fail
          go_round
          case rel => exact ⟨k + 1, by omega, by go_num, HF.out⟩
          case measure => simp [intOf]; omega
    · obtain rfl : k = xs.length := by omega
      have HF := Lib.hid (M.idx_none xs n Hno.out)
      go_wp2_with fail
      go_ret
      exact ⟨by rw [HF.out]; rfl, rfl⟩
theorem table_row (user : Bool) (w : World) : Calls Tryz.prog 132 #[.bool user] w fun e w' => ∃ g c, e = .returned (.slice (some ⟨g, 0, none⟩) 256 c) ∧ 256 ≤ c ∧ c ≤ 9223372036854775807 ∧ w.heap.size ≤ g ∧ g < w'.heap.size ∧ (∀ k, k < 256 → w'.cell? ⟨g, k, none⟩ = some (.int .i64 (M.pointOf user k))) ∧ IntSl w' (.slice (some ⟨g, 0, none⟩) 256 c) (M.tableOf user) ∧ Bel w w' := by
  refine (table_any user w).mono ?_
  rintro e w' ⟨v, rfl, hown, hb⟩
  have hi := hown.ints
  obtain ⟨A, c, hv, h1, h2, h3, h4⟩ := hown.form
  rw [List.length_map, table_len] at hv h1
  cases A with
  | none =>
    have h5 := congrArg List.length (h3 rfl)
    rw [List.length_map, table_len] at h5
    cases h5
  | some x =>
    obtain ⟨g, o, p⟩ := x
    obtain ⟨rfl, rfl, h5, h6, _, h7⟩ := h4 g o p rfl
    subst hv
    refine ⟨g, c, rfl, h1, h2, h5, h6, fun k hk => h7 k _ (by rw [List.getElem?_map, table_at user k hk]; rfl), hi, hb⟩
set_option maxRecDepth 100000 in
theorem all_any (user : Bool) (s : ByteArray) (w : World) (hs : s.size ≤ 68719476735) : Calls Tryz.prog 94 #[.bool user, .string s] w fun e w' => ∃ v, e = .returned v ∧ Own w.heap.size 3 w' v ((M.decodeS user s.data.toList).map (Value.int .i64)) ∧ Bel w w' := by
  have HS := Lib.hid (Lib.size_eq s)
  go_enter Tryz.func94, Tryz.ntmps94
  go_wp2_with (first | (go_at_call 132; refine (table_row _ _).mono ?_; rintro e w' ⟨g, c, rfl, hc1, hc2, hg0, hg, hcell, _, hb⟩) | ((with_reducible show wpList _ _ _ _ _ _); refine wpList_toBytes rfl (.tmp 11) _ _ 5 rfl Tryz.underlying9 Tryz.underlying120 Tryz.underlying5 s rfl (by omega) ?_; intro cb w2 hb2 hg2 hcb1 hcb2 hcellb _))
  have hgl : g < w2.heap.size := hb2.lt hg
  go_loopw [6, 14] (fun v i wr => ∃ k : Nat, k ≤ s.size ∧ i = .int .i64 k ∧ Own w2.heap.size 3 wr v (((M.decodeS user s.data.toList).take k).map (Value.int .i64)) ∧ Below w2.heap.size w2 wr) (fun _ i _ => s.size - (intOf i).toNat)
  case atStart => exact ⟨0, by omega, rfl, Own.nil _ _ _, Below.refl _ _⟩
  case round =>
    obtain ⟨k, hk, rfl, hown, hb⟩ := hrel
    by_cases hlt : k < s.size
    · obtain ⟨c, hc⟩ : ∃ c, s.data.toList[k]? = some c := ⟨_, List.getElem?_eq_getElem (by rw [← Lib.size_eq]; exact hlt)⟩
      have hcl : c.toNat < 256 := c.toNat_lt
      have h1 : wr.cell? ⟨w'.heap.size, k, none⟩ = some (.int .u8 (c.toNat : Int)) := (hb.cell (p := ⟨_, k, none⟩) hg2).trans (hcellb k c hc)
      have h2 : wr.cell? ⟨g, c.toNat, none⟩ = some (.int .i64 (M.pointOf user c.toNat)) := (hb.cell (p := ⟨g, _, none⟩) hgl).trans ((hb2.cell (p := ⟨g, _, none⟩) hg).trans (hcell _ hcl))
      have HT := Lib.hid (take_snoc (Value.int .i64) (M.decodeS user s.data.toList) k (M.pointOf user c.toNat) (by rw [M.decodeS, List.getElem?_map, hc]; rfl))
      have hlen : ((M.decodeS user s.data.toList).take k).length ≤ k := List.length_take_le _ _
      clear hcellb hcell hc
      go_wp2_with (first | (at_builtin; refine wpList_app rfl (.tmp 18) (.tmp 23) 30 rfl elemInt (by decide) w2.heap.size _ _ _ rfl rfl hown rfl (by simp; omega) (by first | exact Nat.le_refl _ | assumption | (have := hb.size; omega)) ?_; intro v' w1 hown' hb1))
      go_roundw
      case rel => exact ⟨k + 1, by omega, by go_num, by rw [HT.out]; exact hown', hb.trans hb1⟩
      case measure => simp [intOf]; omega
    · obtain rfl : k = s.size := by omega
      have HT := Lib.hid (show (M.decodeS user s.data.toList).take s.size = M.decodeS user s.data.toList by rw [List.take_of_length_le (by rw [M.decodeS, List.length_map, ← Lib.size_eq]; exact Nat.le_refl _)])
      go_wp2_with fail
      go_ret
      exact ⟨_, rfl, by rw [← HT.out]; exact hown.mono (Nat.le_trans (by assumption : Bel w w').size hb2.size), Bel.upto (Bel.trans (by assumption : Bel w w') hb2) hb (Nat.le_trans (by assumption : Bel w w').size hb2.size)⟩
theorem tells_any (user : Bool) (n : Int) (w : World) : Calls Tryz.prog 98 #[.bool user, .int .i64 n] w fun e w' => e = .returned (.tuple #[.int .i64 (M.tellsS user n).1, .int .i64 (M.tellsS user n).2]) ∧ Bel w w' := by
  have HE := Lib.hid (show M.idx (M.tableOf user) n = M.byteOf user n from rfl)
  by_cases h : M.byteOf user n < 0
  · have H := Lib.hid (show M.tellsS user n = (0, 5) by rw [M.tellsS, if_pos h])
    go_enter Tryz.func98, Tryz.ntmps98
    go_wp2_with (first | (go_at_call 132; refine (table_row _ _).mono ?_; rintro e w' ⟨g, c, rfl, hc1, hc2, hg0, hg, hcell, hi, hb⟩) | (go_at_call 138; refine (index_any _ _ _ _ hi (by rw [table_len]; omega)).mono ?_; rintro e w' ⟨rfl, rfl⟩; rw [HE.out]))
    go_ret2
    rw [H.out]
    exact ⟨rfl, (by repeat (first | exact Bel.refl _ | refine Bel.drewN ?_ _ | refine Bel.drew ?_ | refine Bel.alloc ?_ _ | refine Bel.trans ?_ (by assumption) | refine Bel.setCell ?_ (by simp; omega) _))⟩
  · have H := Lib.hid (show M.tellsS user n = (M.byteOf user n, 0) by rw [M.tellsS, if_neg h])
    go_enter Tryz.func98, Tryz.ntmps98
    go_wp2_with (first | (go_at_call 132; refine (table_row _ _).mono ?_; rintro e w' ⟨g, c, rfl, hc1, hc2, hg0, hg, hcell, hi, hb⟩) | (go_at_call 138; refine (index_any _ _ _ _ hi (by rw [table_len]; omega)).mono ?_; rintro e w' ⟨rfl, rfl⟩; rw [HE.out]))
    go_ret2
    rw [H.out]
    exact ⟨rfl, (by repeat (first | exact Bel.refl _ | refine Bel.drewN ?_ _ | refine Bel.drew ?_ | refine Bel.alloc ?_ _ | refine Bel.trans ?_ (by assumption) | refine Bel.setCell ?_ (by simp; omega) _))⟩
end Go.Proofs.YteingkjdemlhgaaGreatDoor

/-
  Package kana: plain, sign, shifts, the teller's two methods.
-/
namespace Go.Proofs.YteingkjdemlhgaaGreatDoor
open Go.RowKit
set_option maxRecDepth 1000000
def plainN (c : Nat) : Bool := decide (c < 128 ∧ c ≠ 14 ∧ c ≠ 15 ∧ c ≠ 27)
theorem plainK_any (c : Nat) (hc : c < 256) (w : World) : Calls Tryz.prog 183 #[.int .u8 (c : Int)] w fun e w' => e = .returned (.bool (plainN c)) ∧ w = w' := by
  by_cases h0 : c < 128
  · by_cases h1 : c = 14
    · subst h1
      go_enter Tryz.func183, Tryz.ntmps183
      go_wp2
      go_ret
      exact ⟨rfl, rfl⟩
    · by_cases h2 : c = 15
      · subst h2
        go_enter Tryz.func183, Tryz.ntmps183
        go_wp2
        go_ret
        exact ⟨rfl, rfl⟩
      · by_cases h3 : c = 27
        · subst h3
          go_enter Tryz.func183, Tryz.ntmps183
          go_wp2
          go_ret
          exact ⟨rfl, rfl⟩
        · have e1 : ((c : Int) != 14) = true := by rw [bne_iff_ne]; omega
          have e2 : ((c : Int) != 15) = true := by rw [bne_iff_ne]; omega
          have e3 : ((c : Int) != 27) = true := by rw [bne_iff_ne]; omega
          have H := Lib.hid (show plainN c = true by rw [plainN, decide_eq_true_eq]; omega)
          clear h1 h2 h3
          go_enter Tryz.func183, Tryz.ntmps183
          go_wp2
          go_ret
          rw [H.out]
          exact ⟨rfl, rfl⟩
  · have H := Lib.hid (show plainN c = false by rw [plainN, decide_eq_false_iff_not]; omega)
    have h1 : (128 : Int) ≤ (c : Int) := by omega
    go_enter Tryz.func183, Tryz.ntmps183
    go_wp2
    go_ret
    rw [H.out]
    exact ⟨rfl, rfl⟩
theorem plainK_to (c : Nat) (hc : c < 256) (b : Bool) (h : plainN c = b) (w : World) : Calls Tryz.prog 183 #[.int .u8 (c : Int)] w fun e w' => e = .returned (.bool b) ∧ w = w' := by
  have := plainK_any c hc w; rw [h] at this; exact this
theorem sign_any (g : Int) (c : Nat) (hc : c < 256) (w : World) : Calls Tryz.prog 162 #[.int .i64 g, .int .u8 (c : Int)] w fun e w' => e = .returned (.int .i64 (M.signK g c)) ∧ w = w' := by
  have HP := Lib.hid (show plainN c = plainN c from rfl)
  by_cases hA : g = 2
  · subst hA
    by_cases h1 : 33 ≤ c
    · by_cases h2 : c ≤ 95
      · have E1 := Lib.hid (show (65377 : Int) + (c : Int) - 33 = 65344 + (c : Int) by omega)
        have H := Lib.hid (show M.signK 2 c = 65377 + (c : Int) - 33 by rw [E1.out, M.signK, if_pos ⟨rfl, h1, h2⟩])
        clear HP
        go_enter Tryz.func162, Tryz.ntmps162
        go_wp2
        go_ret
        rw [H.out]
        exact ⟨rfl, rfl⟩
      · have H := Lib.hid (show M.signK 2 c = 65533 by rw [M.signK, if_neg (by omega), if_pos (.inl rfl)])
        have h3 : (95 : Int) < (c : Int) := by omega
        clear HP
        go_enter Tryz.func162, Tryz.ntmps162
        go_wp2
        go_ret
        rw [H.out]
        exact ⟨rfl, rfl⟩
    · have H := Lib.hid (show M.signK 2 c = 65533 by rw [M.signK, if_neg (by omega), if_pos (.inl rfl)])
      have h3 : (c : Int) < 33 := by omega
      clear HP
      go_enter Tryz.func162, Tryz.ntmps162
      go_wp2
      go_ret
      rw [H.out]
      exact ⟨rfl, rfl⟩
  · have e2 : (g == 2) = false := by simpa using hA
    cases hp : plainN c with
    | false =>
      have HP := Lib.hid hp
      have H := Lib.hid (show M.signK g c = 65533 by
        rw [plainN, decide_eq_false_iff_not] at hp
        rw [M.signK, if_neg (by omega), if_pos (by omega)])
      clear hp hA
      go_enter Tryz.func162, Tryz.ntmps162
      go_wp2_with (first | (go_at_call 183; refine (plainK_to _ hc _ HP.out _).mono ?_; rintro e w' ⟨rfl, rfl⟩))
      go_ret
      rw [H.out]
      exact ⟨rfl, rfl⟩
    | true =>
      have HP := Lib.hid hp
      rw [plainN, decide_eq_true_eq] at hp
      have hs : M.signK g c = if g = 1 ∧ c = 92 then 165 else if g = 1 ∧ c = 126 then 8254 else (c : Int) := by
        rw [M.signK, if_neg (by omega), if_neg (by omega)]
      by_cases hB : g = 1
      · subst hB
        by_cases h1 : c = 92
        · subst h1
          have H := Lib.hid hs
          clear hs hp
          go_enter Tryz.func162, Tryz.ntmps162
          go_wp2_with (first | (go_at_call 183; refine (plainK_to _ hc _ HP.out _).mono ?_; rintro e w' ⟨rfl, rfl⟩))
          go_ret
          rw [H.out]
          exact ⟨rfl, rfl⟩
        · by_cases h2 : c = 126
          · subst h2
            have H := Lib.hid hs
            clear hs hp
            go_enter Tryz.func162, Tryz.ntmps162
            go_wp2_with (first | (go_at_call 183; refine (plainK_to _ hc _ HP.out _).mono ?_; rintro e w' ⟨rfl, rfl⟩))
            go_ret
            rw [H.out]
            exact ⟨rfl, rfl⟩
          · have H := Lib.hid (show M.signK 1 c = (c : Int) by rw [hs, if_neg (by omega), if_neg (by omega)])
            have e3 : ((c : Int) == 92) = false := by rw [beq_eq_false_iff_ne]; omega
            have e4 : ((c : Int) == 126) = false := by rw [beq_eq_false_iff_ne]; omega
            clear hs hp h1 h2
            go_enter Tryz.func162, Tryz.ntmps162
            go_wp2_with (first | (go_at_call 183; refine (plainK_to _ hc _ HP.out _).mono ?_; rintro e w' ⟨rfl, rfl⟩))
            go_ret
            rw [H.out]
            exact ⟨rfl, rfl⟩
      · have e1 : (g == 1) = false := by simpa using hB
        have H := Lib.hid (show M.signK g c = (c : Int) by rw [hs, if_neg (by omega), if_neg (by omega)])
        clear hs hp hA hB
        go_enter Tryz.func162, Tryz.ntmps162
        go_wp2_with (first | (go_at_call 183; refine (plainK_to _ hc _ HP.out _).mono ?_; rintro e w' ⟨rfl, rfl⟩))
        go_ret
        rw [H.out]
        exact ⟨rfl, rfl⟩
theorem esc_at (x : UInt8) : M.escK x = if (66 : Int) = (x.toNat : Int) then some 0 else if (74 : Int) = (x.toNat : Int) then some 1 else if (73 : Int) = (x.toNat : Int) then some 2 else none := by
  have key : ∀ n : Nat, n < 256 → (x = UInt8.ofNat n ↔ (n : Int) = (x.toNat : Int)) := fun n hn => by
    constructor
    · rintro rfl; rw [UInt8.toNat_ofNat_of_lt' hn]
    · intro h; apply UInt8.toNat_inj.1; rw [UInt8.toNat_ofNat_of_lt' hn]; omega
  unfold M.escK
  have k1 := key 66 (by decide)
  have k2 := key 74 (by decide)
  have k3 := key 73 (by decide)
  simp only [show (UInt8.ofNat 66) = 66 from rfl, show (UInt8.ofNat 74) = 74 from rfl, show (UInt8.ofNat 73) = 73 from rfl] at k1 k2 k3
  simp only [k1, k2, k3]
  rfl
def shiftsM (t : List UInt8) : Int × Bool := match M.headK t with | some k => (k, true) | none => (-1, !M.waitK t)
theorem shifts_any (s : ByteArray) (c : UInt8) (t : List UInt8) (hs : s.data.toList = c :: t) (hsz : s.size ≤ 68719476735) (w : World) : Calls Tryz.prog 163 #[.string s] w fun e w' => e = .returned (.tuple #[.int .i64 (shiftsM t).1, .bool (shiftsM t).2]) ∧ ∃ q, w.drewN q = w' := by
  have hl : s.size = t.length + 1 := by rw [Lib.size_eq, hs]; rfl
  have c66 : (⟨#[66, 74, 73]⟩ : ByteArray)[0].toNat = 66 := rfl
  have c74 : (⟨#[66, 74, 73]⟩ : ByteArray)[1].toNat = 74 := rfl
  have c73 : (⟨#[66, 74, 73]⟩ : ByteArray)[2].toNat = 73 := rfl
  rcases t with _ | ⟨d, _ | ⟨x, u⟩⟩
  · have h1 : s.size ≤ 1 := by rw [hl]; simp
    have H := Lib.hid (show shiftsM [] = (-1, false) from rfl)
    clear hs hl
    go_enter Tryz.func163, Tryz.ntmps163
    go_wp2_with fail
    go_ret2
    rw [H.out]
    exact ⟨rfl, 0, rfl⟩
  · obtain ⟨k1, h1⟩ := head_at s 1 d (by rw [hs]; rfl)
    have hle : s.size ≤ 2 := by rw [hl]; simp
    clear hs hl
    by_cases hd : d = 40
    · subst hd
      have H := Lib.hid (show shiftsM [40] = (-1, false) from rfl)
      go_enter Tryz.func163, Tryz.ntmps163
      go_wp2_with fail
      go_ret2
      rw [H.out]
      exact ⟨rfl, 0, rfl⟩
    · have e1 : ((d.toNat : Int) != 40) = true := by
        rw [bne_iff_ne]; intro hh; apply hd; apply UInt8.toNat_inj.1; show d.toNat = 40; omega
      have H := Lib.hid (show shiftsM [d] = (-1, true) by simp [shiftsM, M.headK, M.waitK, hd])
      clear hd
      go_enter Tryz.func163, Tryz.ntmps163
      go_wp2_with fail
      go_ret2
      rw [H.out]
      exact ⟨rfl, 0, rfl⟩
  · obtain ⟨k1, h1⟩ := head_at s 1 d (by rw [hs]; rfl)
    obtain ⟨k2, h2⟩ := head_at s 2 x (by rw [hs]; rfl)
    have hge : 3 ≤ s.size := by simp only [List.length_cons] at hl; omega
    clear hs hl
    by_cases hd : d = 40
    · subst hd
      have hM : shiftsM (40 :: x :: u) = match M.escK x with | some k => (k, true) | none => (-1, true) := by
        simp only [shiftsM, M.headK, if_true, M.waitK]
        cases M.escK x <;> simp
      rw [esc_at] at hM
      have hxl := x.toNat_lt
      by_cases g1 : (66 : Int) = (x.toNat : Int)
      · have H := Lib.hid (show shiftsM (40 :: x :: u) = (0, true) by rw [hM, if_pos g1])
        have e1 : ((66 : Int) == (x.toNat : Int)) = true := by simpa using g1
        clear hM g1
        go_enter Tryz.func163, Tryz.ntmps163
        go_wp2_with fail
        refine wp_loop_rounds 4 ?_
        rw [rounds_succ]
        go_wp2_with fail
        all_goals try (go_quiet (fail); go_wp2_with fail)
        all_goals try (rw [rounds_succ]; go_wp2_with fail)
        all_goals try (go_quiet (fail); go_wp2_with fail)
        all_goals try (rw [rounds_succ]; go_wp2_with fail)
        all_goals try (go_quiet (fail); go_wp2_with fail)
        all_goals try (rw [rounds_succ]; go_wp2_with fail)
        go_ret2
        rw [H.out]
        refine ⟨rfl, ?_⟩
        try simp only [World.drewN_drewN]
        exact ⟨_, rfl⟩
      · have e1 : ((66 : Int) == (x.toNat : Int)) = false := by simpa using g1
        rw [if_neg g1] at hM
        by_cases g2 : (74 : Int) = (x.toNat : Int)
        · have H := Lib.hid (show shiftsM (40 :: x :: u) = (1, true) by rw [hM, if_pos g2])
          have e2 : ((74 : Int) == (x.toNat : Int)) = true := by simpa using g2
          clear hM g1 g2
          go_enter Tryz.func163, Tryz.ntmps163
          go_wp2_with fail
          refine wp_loop_rounds 4 ?_
          rw [rounds_succ]
          go_wp2_with fail
          all_goals try (go_quiet (fail); go_wp2_with fail)
          all_goals try (rw [rounds_succ]; go_wp2_with fail)
          all_goals try (go_quiet (fail); go_wp2_with fail)
          all_goals try (rw [rounds_succ]; go_wp2_with fail)
          all_goals try (go_quiet (fail); go_wp2_with fail)
          all_goals try (rw [rounds_succ]; go_wp2_with fail)
          go_ret2
          rw [H.out]
          refine ⟨rfl, ?_⟩
          try simp only [World.drewN_drewN]
          exact ⟨_, rfl⟩
        · have e2 : ((74 : Int) == (x.toNat : Int)) = false := by simpa using g2
          rw [if_neg g2] at hM
          by_cases g3 : (73 : Int) = (x.toNat : Int)
          · have H := Lib.hid (show shiftsM (40 :: x :: u) = (2, true) by rw [hM, if_pos g3])
            have e3 : ((73 : Int) == (x.toNat : Int)) = true := by simpa using g3
            clear hM g1 g2 g3
            go_enter Tryz.func163, Tryz.ntmps163
            go_wp2_with fail
            refine wp_loop_rounds 4 ?_
            rw [rounds_succ]
            go_wp2_with fail
            all_goals try (go_quiet (fail); go_wp2_with fail)
            all_goals try (rw [rounds_succ]; go_wp2_with fail)
            all_goals try (go_quiet (fail); go_wp2_with fail)
            all_goals try (rw [rounds_succ]; go_wp2_with fail)
            all_goals try (go_quiet (fail); go_wp2_with fail)
            all_goals try (rw [rounds_succ]; go_wp2_with fail)
            go_ret2
            rw [H.out]
            refine ⟨rfl, ?_⟩
            try simp only [World.drewN_drewN]
            exact ⟨_, rfl⟩
          · have H := Lib.hid (show shiftsM (40 :: x :: u) = (-1, true) by rw [hM, if_neg g3])
            have e3 : ((73 : Int) == (x.toNat : Int)) = false := by simpa using g3
            clear hM g1 g2 g3
            go_enter Tryz.func163, Tryz.ntmps163
            go_wp2_with fail
            refine wp_loop_rounds 4 ?_
            rw [rounds_succ]
            go_wp2_with fail
            all_goals try (go_quiet (fail); go_wp2_with fail)
            all_goals try (rw [rounds_succ]; go_wp2_with fail)
            all_goals try (go_quiet (fail); go_wp2_with fail)
            all_goals try (rw [rounds_succ]; go_wp2_with fail)
            all_goals try (go_quiet (fail); go_wp2_with fail)
            all_goals try (rw [rounds_succ]; go_wp2_with fail)
            go_ret2
            rw [H.out]
            refine ⟨rfl, ?_⟩
            try simp only [World.drewN_drewN]
            exact ⟨_, rfl⟩
    · have e1 : ((d.toNat : Int) != 40) = true := by
        rw [bne_iff_ne]; intro hh; apply hd; apply UInt8.toNat_inj.1; show d.toNat = 40; omega
      have H := Lib.hid (show shiftsM (d :: x :: u) = (-1, true) by simp [shiftsM, M.headK, M.waitK, hd])
      clear hd
      go_enter Tryz.func163, Tryz.ntmps163
      go_wp2_with fail
      go_ret2
      rw [H.out]
      exact ⟨rfl, 0, rfl⟩
theorem below_set {g : Nat} {a w : World} (h : Below g a w) (i : Nat) (u : Value) : Below g a (w.setCell ⟨g, i, none⟩ u) := Below.setCell h (Nat.le_refl _) u
/-- What a teller tells: one code point for one byte. -/
theorem tellK_any (g : Nat) (sg : Int) (fr : Bool) (s : ByteArray) (v : Value) (xs : List Int) (n : Int) (B : Nat) (w : World) (hB : Box w g 187 [.int .i64 sg, .bool fr, .string s, v]) (hown : Own B 3 w v (xs.map (Value.int .i64))) (hg : g < B) (hBw : B ≤ w.heap.size) (hpos : 0 < s.size) (hsz : s.size ≤ 68719476735) (hl : xs.length < 68719476736) :
    Calls Tryz.prog 161 #[.pointer (some ⟨g, 0, none⟩), .int .i64 n] w fun e w' => e = .returned (.tuple #[]) ∧ ∃ v', Box w' g 187 [.int .i64 sg, .bool false, .string (s.extract 1 s.size), v'] ∧ Own B 3 w' v' ((xs ++ [n]).map (Value.int .i64)) ∧ Below g w w' := by
  have c1 := hB.cell 3 _ rfl
  go_enter Tryz.func161, Tryz.ntmps161
  go_wp2_with (first | ((at_builtin; refine wpList_app rfl (.tmp 8) (.tmp 10) 30 rfl elemInt (by decide) B _ _ _ rfl rfl hown rfl (by simp; omega) (by first | exact Nat.le_refl _ | assumption | (have := hb.size; omega)) ?_; intro v' w1 hown' hb1); have h3 := hB.upto hb1 hg; have d0 := h3.cell 0 _ rfl; have d1 := h3.cell 1 _ rfl; have d2 := h3.cell 2 _ rfl; have d3 := h3.cell 3 _ rfl; have e0 := h3.frozen 0; have e1 := h3.frozen 1; have e2 := h3.frozen 2; have e3 := h3.frozen 3; obtain ⟨A', c', hv', _⟩ := hown'.form; simp at hv'; subst hv'))
  go_end0
  refine ⟨rfl, _, ((h3.set 3 _).set 2 _).set 1 _, ?_, ?_⟩
  · rw [List.map_append]
    exact ((hown'.setCell (p := ⟨g, 3, none⟩) hg _).setCell (p := ⟨g, 2, none⟩) hg _).setCell (p := ⟨g, 1, none⟩) hg _
  · exact below_set (below_set (below_set (Below.mono hb1 (Nat.le_of_lt hg)) _ _) _ _) _ _
theorem shiftK_any (g : Nat) (sg k : Int) (fr : Bool) (s : ByteArray) (v : Value) (xs : List Int) (B : Nat) (w : World) (hB : Box w g 187 [.int .i64 sg, .bool fr, .string s, v]) (hown : Own B 3 w v (xs.map (Value.int .i64))) (hg : g < B) (hBw : B ≤ w.heap.size) (hpos : 3 ≤ s.size) (hsz : s.size ≤ 68719476735) (hl : xs.length < 68719476736) :
    Calls Tryz.prog 164 #[.pointer (some ⟨g, 0, none⟩), .int .i64 k] w fun e w' => e = .returned (.tuple #[]) ∧ ∃ v', Box w' g 187 [.int .i64 k, .bool true, .string (s.extract 3 s.size), v'] ∧ Own B 3 w' v' ((xs ++ if fr = true then [65533] else []).map (Value.int .i64)) ∧ Below g w w' := by
  have c0 := hB.cell 0 _ rfl
  have c1 := hB.cell 1 _ rfl
  have c2 := hB.cell 2 _ rfl
  have c3 := hB.cell 3 _ rfl
  have f0 := hB.frozen 0
  have f1 := hB.frozen 1
  have f2 := hB.frozen 2
  have f3 := hB.frozen 3
  cases fr with
  | false =>
    go_enter Tryz.func164, Tryz.ntmps164
    go_wp2_with fail
    go_end0
    refine ⟨rfl, _, ((hB.set 0 _).set 1 _).set 2 _, ?_, ?_⟩
    · exact ((hown.setCell (p := ⟨g, 0, none⟩) hg _).setCell (p := ⟨g, 1, none⟩) hg _).setCell (p := ⟨g, 2, none⟩) hg _
    · exact below_set (below_set (below_set (Below.refl _ _) _ _) _ _) _ _
  | true =>
    go_enter Tryz.func164, Tryz.ntmps164
    go_wp2_with (first | ((at_builtin; refine wpList_app rfl (.tmp 13) (.tmp 14) 30 rfl elemInt (by decide) B _ _ _ rfl rfl hown rfl (by simp; omega) (by first | exact Nat.le_refl _ | assumption | (have := hb.size; omega)) ?_; intro v' w1 hown' hb1); have h3 := hB.upto hb1 hg; have d0 := h3.cell 0 _ rfl; have d1 := h3.cell 1 _ rfl; have d2 := h3.cell 2 _ rfl; have d3 := h3.cell 3 _ rfl; have e0 := h3.frozen 0; have e1 := h3.frozen 1; have e2 := h3.frozen 2; have e3 := h3.frozen 3; obtain ⟨A', c', hv', _⟩ := hown'.form; simp at hv'; subst hv'))
    go_end0
    refine ⟨rfl, _, (((h3.set 3 _).set 0 _).set 1 _).set 2 _, ?_, ?_⟩
    · exact (((hown'.setCell (p := ⟨g, 3, none⟩) hg _).setCell (p := ⟨g, 0, none⟩) hg _).setCell (p := ⟨g, 1, none⟩) hg _).setCell (p := ⟨g, 2, none⟩) hg _
    · exact below_set (below_set (below_set (below_set (Below.mono hb1 (Nat.le_of_lt hg)) _ _) _ _) _ _) _ _
end Go.Proofs.YteingkjdemlhgaaGreatDoor

/-
  Package kana: Told, All, Decode.
-/
namespace Go.Proofs.YteingkjdemlhgaaGreatDoor
open Go.RowKit
set_option maxRecDepth 1000000
theorem shifts_to (s : ByteArray) (c : UInt8) (t : List UInt8) (k : Int) (b : Bool) (h : shiftsM t = (k, b)) (hs : s.data.toList = c :: t) (hsz : s.size ≤ 68719476735) (w : World) : Calls Tryz.prog 163 #[.string s] w fun e w' => e = .returned (.tuple #[.int .i64 k, .bool b]) ∧ ∃ q, w.drewN q = w' := by
  have := shifts_any s c t hs hsz w; rw [h] at this; exact this
theorem sign_to (g : Int) (c : Nat) (n : Int) (h : M.signK g c = n) (hc : c < 256) (w : World) : Calls Tryz.prog 162 #[.int .i64 g, .int .u8 (c : Int)] w fun e w' => e = .returned (.int .i64 n) ∧ w = w' := by
  have := sign_any g c hc w; rw [h] at this; exact this
set_option maxHeartbeats 4000000 in
theorem toldK_any (g : Int) (f : Bool) (s : ByteArray) (last : Bool) (hs : s.size ≤ 68719476735) (w : World) : Calls Tryz.prog 137 #[.agg #[.int .i64 g, .bool f], .string s, .bool last] w fun e w' =>
    ∃ v, e = .returned (.tuple #[v, .agg #[.int .i64 (M.toldK last g f s.data.toList).2.1, .bool (M.toldK last g f s.data.toList).2.2.1], .string ⟨(M.toldK last g f s.data.toList).2.2.2.toArray⟩]) ∧ Own w.heap.size 3 w' v ((M.toldK last g f s.data.toList).1.map (Value.int .i64)) ∧ Bel w w' := by
  go_enter Tryz.func137, Tryz.ntmps137
  go_wp2_with fail
  go_loopw [] (fun wr => ∃ (s' : ByteArray) (xs : List Int) (sg : Int) (fr : Bool) (v : Value), Box wr (w.heap.size + 2) 187 [.int .i64 sg, .bool fr, .string s', v] ∧ Box wr (w.heap.size + 1) 163 [.int .i64 0, .bool false] ∧ xs.length + s'.size ≤ s.size ∧ Hid (M.toldK last g f s.data.toList = (xs ++ (M.toldK last sg fr s'.data.toList).1, (M.toldK last sg fr s'.data.toList).2)) ∧ Own (w.heap.size + 3) 3 wr v (xs.map (Value.int .i64)) ∧ Bel w wr) (fun wr => cellLen wr ⟨w.heap.size + 2, 2, none⟩)
  case atStart =>
    exact ⟨s, [], g, f, .slice none 0 0, (by have := Box.new ((w.alloc (.cells #[.int .i64 g, .bool f] 163)).alloc (.cells #[.int .i64 0, .bool false] 163)) 187 [.int .i64 g, .bool f, .string s, .slice none 0 0]; simpa using this), (by have := (Box.new (w.alloc (.cells #[.int .i64 g, .bool f] 163)) 163 [.int .i64 0, .bool false]).bel ((Bel.refl _).alloc (.cells #[.int .i64 g, .bool f, .string s, .slice none 0 0] 187)); simpa using this), by simp, Lib.hid (by simp), Own.nil _ _ _, (by repeat (first | exact Bel.refl _ | refine Bel.drewN ?_ _ | refine Bel.drew ?_ | refine Bel.alloc ?_ _ | refine Bel.trans ?_ (by assumption) | refine Bel.setCell ?_ (by simp; omega) _))⟩
  case round =>
    obtain ⟨s', xs, sg, fr, v, hB, hR, hle, HT, hown, hb⟩ := hrel
    have c0 := hB.cell 0 _ rfl
    have c1 := hB.cell 1 _ rfl
    have c2 := hB.cell 2 _ rfl
    have c3 := hB.cell 3 _ rfl
    have r0 := hR.cell 0 _ rfl
    have r1 := hR.cell 1 _ rfl
    have q0 := hR.frozen 0
    have q1 := hR.frozen 1
    have hsz : w.heap.size + 3 ≤ wr.heap.size := hB.lt
    by_cases he : s'.size = 0
    · have e0 : s'.data.toList = [] := List.eq_nil_of_length_eq_zero (by rw [← Lib.size_eq]; exact he)
      have HF := Lib.hid (show M.toldK last g f s.data.toList = (xs, sg, fr, []) by
        rw [HT.out, e0, M.toldK_nil]; simp)
      have e1 : (!s'.toList.isEmpty) = false := by rw [Lib.toList_data, e0]; rfl
      clear he e0
      go_wp2_with fail
      go_region
      go_wp2_with fail
      have d0 : ((wr.setCell ⟨w.heap.size + 1, 0, none⟩ (.int .i64 sg)).setCell ⟨w.heap.size + 1, 1, none⟩ (.bool fr)).drew.cell? ⟨w.heap.size + 1, 0, none⟩ = some (.int .i64 sg) := ((hR.set 0 _).set 1 _).cell 0 _ rfl
      have d1 : ((wr.setCell ⟨w.heap.size + 1, 0, none⟩ (.int .i64 sg)).setCell ⟨w.heap.size + 1, 1, none⟩ (.bool fr)).drew.cell? ⟨w.heap.size + 1, 1, none⟩ = some (.bool fr) := ((hR.set 0 _).set 1 _).cell 1 _ rfl
      refine bodyPost_ret (v := .tuple #[v, .agg #[.int .i64 sg, .bool fr], .string ⟨#[]⟩]) (by simp [results, Tryz.results137, go_sem, d0, d1]) rfl ?_
      rw [HF.out]
      exact ⟨_, rfl, (((hown.setCell (p := ⟨w.heap.size + 1, 0, none⟩) (by simp) _).setCell (p := ⟨w.heap.size + 1, 1, none⟩) (by simp) _).mono (by omega)).drew, ((hb.setCell (p := ⟨w.heap.size + 1, 0, none⟩) (by simp) _).setCell (p := ⟨w.heap.size + 1, 1, none⟩) (by simp) _).drew⟩
    · have hpos : 0 < s'.size := by omega
      obtain ⟨c, t, hct⟩ := cons_of_pos s' hpos
      obtain ⟨k0, h0⟩ := head_at s' 0 c (by rw [hct]; rfl)
      have e1 : (!s'.toList.isEmpty) = true := by rw [Lib.toList_data, hct]; rfl
      have hcl := c.toNat_lt
      have hts : s'.size = t.length + 1 := by rw [Lib.size_eq, hct]; rfl
      have HB2 := Lib.hid hB
      rcases M.sayK last sg fr c t with ⟨hc, e⟩ | ⟨rfl, k, x, u, rfl, hk, hh, e⟩ | ⟨rfl, hw, hh, rfl, e⟩ | ⟨rfl, hh, hw, e⟩
      · have e27 : ((c.toNat : Int) != 27) = true := by
          rw [bne_iff_ne]; intro h; apply hc; apply UInt8.toNat_inj.1; show c.toNat = 27; omega
        obtain ⟨n, hn⟩ : ∃ n, M.signK sg c.toNat = n := ⟨_, rfl⟩
        have HN := Lib.hid hn
        have HF := Lib.hid (show M.toldK last g f s.data.toList = ((xs ++ [n]) ++ (M.toldK last sg false (s'.extract 1 s'.size).data.toList).1, (M.toldK last sg false (s'.extract 1 s'.size).data.toList).2) by
          rw [HT.out, drop_str, hct, e, hn]; simp)
        have HS := Lib.hid (drop_size s' 1)
        clear he hct hc hn e hts
        go_wp2_with fail
        go_region_with ((first | (go_at_call 162; refine (sign_to sg c.toNat n HN.out (by omega) _).mono ?_; rintro e w1 ⟨rfl, rfl⟩) | (go_at_call 161; refine (tellK_any (w.heap.size + 2) sg fr s' v xs n (w.heap.size + 3) wr.drew HB2.out hown (by omega) hsz hpos (by omega) (by omega)).mono ?_; rintro e w1 ⟨rfl, v1, hB1, hown1, hb1⟩)))
        all_goals
          go_wp2_with fail
          go_roundw
          case rel => exact ⟨s'.extract 1 s'.size, xs ++ [n], sg, false, v1, hB1, Box.upto (B := w.heap.size + 2) (w := wr.drew) hR hb1 (by omega), by rw [HS.out, List.length_append, List.length_singleton]; omega, HF, hown1, Bel.upto (Bel.drew hb) hb1 (by omega)⟩
          case measure => rw [cellLen_of c2, cellLen_of (hB1.cell 2 _ rfl), HS.out]; omega
      · -- an escape
        obtain ⟨k2, hk2⟩ : ∃ r, (xs ++ if fr = true then [(65533 : Int)] else []) = r := ⟨_, rfl⟩
        have HK2 := Lib.hid hk2
        have HF := Lib.hid (show M.toldK last g f s.data.toList = (k2 ++ (M.toldK last k true (s'.extract 3 s'.size).data.toList).1, (M.toldK last k true (s'.extract 3 s'.size).data.toList).2) by
          rw [HT.out, drop_str, hct, e, ← hk2]; simp)
        have HS := Lib.hid (drop_size s' 3)
        have hk20 : k2.length ≤ xs.length + 1 := by rw [← hk2, List.length_append]; split <;> simp
        have HC := Lib.hid hct
        have HSH := Lib.hid (show shiftsM (40 :: x :: u) = (k, true) by rw [shiftsM, hh])
        have hk0 : 0 ≤ k := by
          unfold M.escK at hk
          (repeat' split at hk) <;> first | (injection hk with hk; omega) | cases hk
        have h3 : 3 ≤ s'.size := by rw [hts]; simp only [List.length_cons]; omega
        have c27 : ((27 : UInt8).toNat : Int) = 27 := rfl
        clear he hct hk hh e hts hk2
        go_wp2_with fail
        refine (shifts_to s' 27 (40 :: x :: u) k true HSH.out HC.out (by omega) _).mono ?_
        rintro e w1 ⟨rfl, q, rfl⟩
        have hsz2 : w.heap.size + 3 ≤ (wr.drewN q).heap.size := hsz
        go_wp2_with fail
        refine (shiftK_any (w.heap.size + 2) sg k fr s' v xs (w.heap.size + 3) (wr.drewN q) (HB2.out.drewN q) (hown.drewN q) (by omega) hsz2 h3 (by omega) (by omega)).mono ?_
        rintro e w1 ⟨rfl, v1, hB1, hown1, hb1⟩
        rw [HK2.out] at hown1
        go_wp2_with fail
        go_roundw
        case rel => exact ⟨s'.extract 3 s'.size, k2, k, true, v1, hB1, Box.upto (B := w.heap.size + 2) (hR.drewN q) hb1 (by omega), by rw [HS.out]; omega, HF, hown1, Bel.upto (Bel.drewN hb q) hb1 (by omega)⟩
        case measure => rw [cellLen_of c2, cellLen_of (hB1.cell 2 _ rfl), HS.out]; omega
      · -- more must come
        have HF := Lib.hid (show M.toldK false g f s.data.toList = (xs, sg, fr, s'.data.toList) by
          rw [HT.out, hct, e]; simp)
        have HC := Lib.hid hct
        have HSH := Lib.hid (show shiftsM t = (-1, false) by rw [shiftsM, hh]; simp [hw])
        clear he hct hw hh e hts
        go_wp2_with fail
        refine (shifts_to s' 27 t (-1) false HSH.out HC.out (by omega) _).mono ?_
        rintro e w1 ⟨rfl, q, rfl⟩
        go_wp2_with fail
        go_region
        go_wp2_with fail
        have d0 : (((wr.drewN (q + 1)).setCell ⟨w.heap.size + 1, 0, none⟩ (.int .i64 sg)).setCell ⟨w.heap.size + 1, 1, none⟩ (.bool fr)).cell? ⟨w.heap.size + 1, 0, none⟩ = some (.int .i64 sg) := (((hR.drewN (q + 1)).set 0 _).set 1 _).cell 0 _ rfl
        have d1 : (((wr.drewN (q + 1)).setCell ⟨w.heap.size + 1, 0, none⟩ (.int .i64 sg)).setCell ⟨w.heap.size + 1, 1, none⟩ (.bool fr)).cell? ⟨w.heap.size + 1, 1, none⟩ = some (.bool fr) := (((hR.drewN (q + 1)).set 0 _).set 1 _).cell 1 _ rfl
        refine bodyPost_ret (v := .tuple #[v, .agg #[.int .i64 sg, .bool fr], .string s']) (by simp [results, Tryz.results137, go_sem, d0, d1]) rfl ?_
        rw [HF.out]
        exact ⟨_, by rw [str_eq], (((hown.drewN (q + 1)).setCell (p := ⟨w.heap.size + 1, 0, none⟩) (by simp) _).setCell (p := ⟨w.heap.size + 1, 1, none⟩) (by simp) _).mono (by omega), ((Bel.drewN hb (q + 1)).setCell (p := ⟨w.heap.size + 1, 0, none⟩) (by simp) _).setCell (p := ⟨w.heap.size + 1, 1, none⟩) (by simp) _⟩
      · -- no escape
        have HF := Lib.hid (show M.toldK last g f s.data.toList = ((xs ++ [65533]) ++ (M.toldK last sg false (s'.extract 1 s'.size).data.toList).1, (M.toldK last sg false (s'.extract 1 s'.size).data.toList).2) by
          rw [HT.out, drop_str, hct, e]; simp)
        have HS := Lib.hid (drop_size s' 1)
        have HC := Lib.hid hct
        obtain ⟨b, hb0⟩ : ∃ b, shiftsM t = (-1, b) := ⟨_, by rw [shiftsM, hh]⟩
        have hbl : b = true ∨ (b = false ∧ last = true) := by
          rcases hw with hw | hw
          · left
            rw [shiftsM, hh, hw] at hb0
            simpa using hb0.symm
          · cases b
            · exact .inr ⟨rfl, hw⟩
            · exact .inl rfl
        have HSH := Lib.hid hb0
        clear he hct hw hh e hts hb0
        rcases hbl with rfl | ⟨rfl, rfl⟩
        all_goals
          go_wp2_with fail
          refine (shifts_to s' 27 t (-1) _ HSH.out HC.out (by omega) _).mono ?_
          rintro e w1 ⟨rfl, q, rfl⟩
          have hsz2 : w.heap.size + 3 ≤ (wr.drewN q).heap.size := hsz
          go_wp2_with fail
          refine (tellK_any (w.heap.size + 2) sg fr s' v xs 65533 (w.heap.size + 3) (wr.drewN q) (HB2.out.drewN q) (hown.drewN q) (by omega) hsz2 hpos (by omega) (by omega)).mono ?_
          rintro e w1 ⟨rfl, v1, hB1, hown1, hb1⟩
          go_wp2_with fail
          go_roundw
          case rel => exact ⟨s'.extract 1 s'.size, xs ++ [65533], sg, false, v1, hB1, Box.upto (B := w.heap.size + 2) (hR.drewN q) hb1 (by omega), by rw [HS.out, List.length_append, List.length_singleton]; omega, HF, hown1, Bel.upto (Bel.drewN hb q) hb1 (by omega)⟩
          case measure => rw [cellLen_of c2, cellLen_of (hB1.cell 2 _ rfl), HS.out]; omega
end Go.Proofs.YteingkjdemlhgaaGreatDoor

/-
  Package kana: All, Decode, byteOf, find, escape, Raw, Encode.
-/
namespace Go.Proofs.YteingkjdemlhgaaGreatDoor
open Go.RowKit
set_option maxRecDepth 1000000
theorem toldK_to (g : Int) (f : Bool) (s : ByteArray) (last : Bool) (xs : List Int) (g2 : Int) (f2 : Bool) (l : List UInt8) (h : M.toldK last g f s.data.toList = (xs, g2, f2, l)) (hs : s.size ≤ 68719476735) (w : World) : Calls Tryz.prog 137 #[.agg #[.int .i64 g, .bool f], .string s, .bool last] w fun e w' =>
    ∃ v, e = .returned (.tuple #[v, .agg #[.int .i64 g2, .bool f2], .string ⟨l.toArray⟩]) ∧ Own w.heap.size 3 w' v (xs.map (Value.int .i64)) ∧ Bel w w' := by
  have := toldK_any g f s last hs w; rw [h] at this; exact this
theorem allKana_any (s : ByteArray) (hs : s.size ≤ 68719476735) (w : World) : Calls Tryz.prog 95 #[.string s] w fun e w' => ∃ v, e = .returned v ∧ Own w.heap.size 3 w' v ((M.allK s.data.toList).map (Value.int .i64)) ∧ Bel w w' := by
  obtain ⟨⟨xs, g, f, l⟩, ht⟩ : ∃ r, M.toldK true 0 false s.data.toList = r := ⟨_, rfl⟩
  have Ht := Lib.hid ht
  have HA := Lib.hid (show M.allK s.data.toList = xs by rw [M.allK, ht])
  clear ht
  go_enter Tryz.func95, Tryz.ntmps95
  go_wp2_with (go_at_call 137; refine (toldK_to _ _ _ _ _ _ _ _ Ht.out hs _).mono ?_; rintro e w' ⟨v, rfl, ho, hb⟩)
  go_ret
  rw [HA.out]
  exact ⟨_, rfl, ho.alloc _, hb.alloc _⟩
def bVal (n : Int) : Int := if 0 ≤ n then n else 0
def bOk (n : Int) : Bool := decide (0 ≤ n)
theorem byteOfK_any (g n : Int) (w : World) : Calls Tryz.prog 156 #[.int .i64 g, .int .i64 n] w fun e w' => e = .returned (.tuple #[.int .u8 (bVal (M.byteK g n)), .bool (bOk (M.byteK g n))]) ∧ w = w' := by
  go_enter Tryz.func156, Tryz.ntmps156
  go_wp2_with fail
  go_loop [8] (fun i => ∃ k : Nat, k ≤ 128 ∧ i = .int .i64 k ∧ Hid (∀ j, j < k → n = 65533 ∨ M.signK g j ≠ n)) (fun i => 128 - (intOf i).toNat)
  case atStart => exact ⟨0, by omega, rfl, Lib.hid (fun j hj => by omega)⟩
  case round =>
    obtain ⟨k, hk, rfl, hno⟩ := hrel
    by_cases hlt : k < 128
    · obtain ⟨m, hm⟩ : ∃ m, M.signK g k = m := ⟨_, rfl⟩
      have HM := Lib.hid hm
      have hk2 : k < 256 := by omega
      by_cases he : m = n ∧ n ≠ 65533
      · obtain ⟨rfl, hn⟩ := he
        have HF := Lib.hid (M.byteK_hit g m k hno.out hlt hm hn)
        have e1 : (m != 65533) = true := by simpa using hn
        clear hm hn
        go_wp2_with (go_at_call 162; refine (sign_to g k m HM.out hk2 _).mono ?_; rintro e w' ⟨rfl, rfl⟩)
        go_ret2
        rw [HF.out]
        exact ⟨by simp [bVal, bOk], rfl⟩
      · have HF := Lib.hid (show ∀ j, j < k + 1 → n = 65533 ∨ M.signK g j ≠ n from fun j hj => by
          by_cases hjk : j < k
          · exact hno.out j hjk
          · obtain rfl : j = k := by omega
            by_cases h3 : n = 65533
            · exact .inl h3
            · exact .inr (fun h4 => he ⟨hm.symm.trans h4, h3⟩))
        by_cases h5 : m = n
        · subst h5
          obtain rfl : m = 65533 := by by_cases h6 : m = 65533; exact h6; exact absurd ⟨rfl, h6⟩ he
          clear hm he
          go_wp2_with (go_at_call 162; refine (sign_to g k 65533 HM.out hk2 _).mono ?_; rintro e w' ⟨rfl, rfl⟩)
          go_round
          case rel => exact ⟨k + 1, by omega, by go_num, HF⟩
          case measure => simp [intOf]; omega
        · have e1 : (m == n) = false := by simpa using h5
          clear hm he h5
          go_wp2_with (go_at_call 162; refine (sign_to g k m HM.out hk2 _).mono ?_; rintro e w' ⟨rfl, rfl⟩)
          go_round
          case rel => exact ⟨k + 1, by omega, by go_num, HF⟩
          case measure => simp [intOf]; omega
    · obtain rfl : k = 128 := by omega
      have HF := Lib.hid (M.byteK_miss g n hno.out)
      go_wp2_with fail
      go_ret2
      rw [HF.out]
      exact ⟨rfl, rfl⟩
theorem byteOfK_yes (g n : Int) (c : Nat) (h : M.byteK g n = (c : Int)) (w : World) : Calls Tryz.prog 156 #[.int .i64 g, .int .i64 n] w fun e w' => e = .returned (.tuple #[.int .u8 (c : Int), .bool true]) ∧ w = w' := by
  have := byteOfK_any g n w
  rw [h] at this
  simpa [bVal, bOk] using this
theorem byteOfK_no (g n : Int) (h : M.byteK g n = -1) (w : World) : Calls Tryz.prog 156 #[.int .i64 g, .int .i64 n] w fun e w' => e = .returned (.tuple #[.int .u8 0, .bool false]) ∧ w = w' := by
  have := byteOfK_any g n w
  rw [h] at this
  exact this
theorem find_no (now n : Int) (h : M.byteK now n = -1) (h0 : M.byteK 0 n = -1) (h1 : M.byteK 1 n = -1) (h2 : M.byteK 2 n = -1) (w : World) : Calls Tryz.prog 133 #[.int .i64 now, .int .i64 n] w fun e w' => e = .returned (.tuple #[.int .i64 (-1), .int .u8 0]) ∧ Bel w w' := by
    have H := Lib.hid h
    have H0 := Lib.hid h0
    have H1 := Lib.hid h1
    have H2 := Lib.hid h2
    have c : Nat := 0
    clear h h0 h1 h2
    go_enter Tryz.func133, Tryz.ntmps133
    go_wp2_with fail
    refine wp_loop_rounds 5 ?_
    rw [rounds_succ]
    go_wp2_with (first | (go_at_call 156; (first | with_reducible refine (byteOfK_no now n H.out _).mono ?_ | with_reducible refine (byteOfK_yes now n c H.out _).mono ?_); rintro e w' ⟨rfl, rfl⟩))
    rw [rounds_succ]
    go_wp2_with (first | (go_at_call 156; (first | with_reducible refine (byteOfK_no 0 n H0.out _).mono ?_ | with_reducible refine (byteOfK_yes 0 n c H0.out _).mono ?_); rintro e w' ⟨rfl, rfl⟩))
    rw [rounds_succ]
    go_wp2_with (first | (go_at_call 156; (first | with_reducible refine (byteOfK_no 1 n H1.out _).mono ?_ | with_reducible refine (byteOfK_yes 1 n c H1.out _).mono ?_); rintro e w' ⟨rfl, rfl⟩))
    rw [rounds_succ]
    go_wp2_with (first | (go_at_call 156; (first | with_reducible refine (byteOfK_no 2 n H2.out _).mono ?_ | with_reducible refine (byteOfK_yes 2 n c H2.out _).mono ?_); rintro e w' ⟨rfl, rfl⟩))
    rw [rounds_succ]
    go_wp2_with fail
    go_ret2
    exact ⟨rfl, (by repeat (first | exact Bel.refl _ | refine Bel.drewN ?_ _ | refine Bel.drew ?_ | refine Bel.alloc ?_ _ | refine Bel.trans ?_ (by assumption) | refine Bel.setCell ?_ (by simp; omega) _))⟩
theorem find_yes (now n g : Int) (c : Nat) (hf : M.findK now n = g) (hg : 0 ≤ g) (hb : M.byteK g n = (c : Int)) (w : World) : Calls Tryz.prog 133 #[.int .i64 now, .int .i64 n] w fun e w' => e = .returned (.tuple #[.int .i64 g, .int .u8 (c : Int)]) ∧ Bel w w' := by
  have neg : ∀ g, ¬ 0 ≤ M.byteK g n → M.byteK g n = -1 := fun g h => by
    rcases M.byteK_or g n with h1 | ⟨c, _, h2, _⟩
    · exact h1
    · omega
  unfold M.findK at hf
  split at hf
  · subst hf
    have H := Lib.hid hb
    clear hb neg
    go_enter Tryz.func133, Tryz.ntmps133
    go_wp2_with fail
    refine wp_loop_rounds 5 ?_
    rw [rounds_succ]
    go_wp2_with (first | (go_at_call 156; (first | with_reducible refine (byteOfK_no now n H.out _).mono ?_ | with_reducible refine (byteOfK_yes now n c H.out _).mono ?_); rintro e w' ⟨rfl, rfl⟩))
    go_ret2
    exact ⟨rfl, (by repeat (first | exact Bel.refl _ | refine Bel.drewN ?_ _ | refine Bel.drew ?_ | refine Bel.alloc ?_ _ | refine Bel.trans ?_ (by assumption) | refine Bel.setCell ?_ (by simp; omega) _))⟩
  · rename_i a0
    have H := Lib.hid (neg _ a0)
    split at hf
    · subst hf
      have H0 := Lib.hid hb
      clear hb neg
      go_enter Tryz.func133, Tryz.ntmps133
      go_wp2_with fail
      refine wp_loop_rounds 5 ?_
      rw [rounds_succ]
      go_wp2_with (first | (go_at_call 156; (first | with_reducible refine (byteOfK_no now n H.out _).mono ?_ | with_reducible refine (byteOfK_yes now n c H.out _).mono ?_); rintro e w' ⟨rfl, rfl⟩))
      rw [rounds_succ]
      go_wp2_with (first | (go_at_call 156; (first | with_reducible refine (byteOfK_no 0 n H0.out _).mono ?_ | with_reducible refine (byteOfK_yes 0 n c H0.out _).mono ?_); rintro e w' ⟨rfl, rfl⟩))
      go_ret2
      exact ⟨rfl, (by repeat (first | exact Bel.refl _ | refine Bel.drewN ?_ _ | refine Bel.drew ?_ | refine Bel.alloc ?_ _ | refine Bel.trans ?_ (by assumption) | refine Bel.setCell ?_ (by simp; omega) _))⟩
    · rename_i a1
      have H0 := Lib.hid (neg _ a1)
      split at hf
      · subst hf
        have H1 := Lib.hid hb
        clear hb neg
        go_enter Tryz.func133, Tryz.ntmps133
        go_wp2_with fail
        refine wp_loop_rounds 5 ?_
        rw [rounds_succ]
        go_wp2_with (first | (go_at_call 156; (first | with_reducible refine (byteOfK_no now n H.out _).mono ?_ | with_reducible refine (byteOfK_yes now n c H.out _).mono ?_); rintro e w' ⟨rfl, rfl⟩))
        rw [rounds_succ]
        go_wp2_with (first | (go_at_call 156; (first | with_reducible refine (byteOfK_no 0 n H0.out _).mono ?_ | with_reducible refine (byteOfK_yes 0 n c H0.out _).mono ?_); rintro e w' ⟨rfl, rfl⟩))
        rw [rounds_succ]
        go_wp2_with (first | (go_at_call 156; (first | with_reducible refine (byteOfK_no 1 n H1.out _).mono ?_ | with_reducible refine (byteOfK_yes 1 n c H1.out _).mono ?_); rintro e w' ⟨rfl, rfl⟩))
        go_ret2
        exact ⟨rfl, (by repeat (first | exact Bel.refl _ | refine Bel.drewN ?_ _ | refine Bel.drew ?_ | refine Bel.alloc ?_ _ | refine Bel.trans ?_ (by assumption) | refine Bel.setCell ?_ (by simp; omega) _))⟩
      · rename_i a2
        have H1 := Lib.hid (neg _ a2)
        split at hf
        · subst hf
          have H2 := Lib.hid hb
          clear hb neg
          go_enter Tryz.func133, Tryz.ntmps133
          go_wp2_with fail
          refine wp_loop_rounds 5 ?_
          rw [rounds_succ]
          go_wp2_with (first | (go_at_call 156; (first | with_reducible refine (byteOfK_no now n H.out _).mono ?_ | with_reducible refine (byteOfK_yes now n c H.out _).mono ?_); rintro e w' ⟨rfl, rfl⟩))
          rw [rounds_succ]
          go_wp2_with (first | (go_at_call 156; (first | with_reducible refine (byteOfK_no 0 n H0.out _).mono ?_ | with_reducible refine (byteOfK_yes 0 n c H0.out _).mono ?_); rintro e w' ⟨rfl, rfl⟩))
          rw [rounds_succ]
          go_wp2_with (first | (go_at_call 156; (first | with_reducible refine (byteOfK_no 1 n H1.out _).mono ?_ | with_reducible refine (byteOfK_yes 1 n c H1.out _).mono ?_); rintro e w' ⟨rfl, rfl⟩))
          rw [rounds_succ]
          go_wp2_with (first | (go_at_call 156; (first | with_reducible refine (byteOfK_no 2 n H2.out _).mono ?_ | with_reducible refine (byteOfK_yes 2 n c H2.out _).mono ?_); rintro e w' ⟨rfl, rfl⟩))
          go_ret2
          exact ⟨rfl, (by repeat (first | exact Bel.refl _ | refine Bel.drewN ?_ _ | refine Bel.drew ?_ | refine Bel.alloc ?_ _ | refine Bel.trans ?_ (by assumption) | refine Bel.setCell ?_ (by simp; omega) _))⟩
        · omega
theorem escape_any (g : Int) (hg : g = 0 ∨ g = 1 ∨ g = 2) (w : World) : Calls Tryz.prog 134 #[.int .i64 g] w fun e w' => e = .returned (.string ⟨[27, 40, M.escB g].toArray⟩) ∧ Bel w w' := by
  rcases hg with rfl | rfl | rfl
  · have c66 : (⟨#[66, 74, 73]⟩ : ByteArray)[0].toNat = 66 := rfl
    go_enter Tryz.func134, Tryz.ntmps134
    go_wp2_with (first | ((with_reducible show wpList _ _ _ _ _ _); refine wpList_toString rfl (.tmp 5) _ _ 5 rfl Tryz.underlying120 Tryz.underlying5 Tryz.underlying9 _ _ [27, 40, 66] rfl (own_row _ [27, 40, 66] _ rfl (by decide)) ?_))
    go_ret
    exact ⟨rfl, (by repeat (first | exact Bel.refl _ | refine Bel.drewN ?_ _ | refine Bel.drew ?_ | refine Bel.alloc ?_ _ | refine Bel.trans ?_ (by assumption) | refine Bel.setCell ?_ (by simp; omega) _))⟩
  · have c66 : (⟨#[66, 74, 73]⟩ : ByteArray)[1].toNat = 74 := rfl
    go_enter Tryz.func134, Tryz.ntmps134
    go_wp2_with (first | ((with_reducible show wpList _ _ _ _ _ _); refine wpList_toString rfl (.tmp 5) _ _ 5 rfl Tryz.underlying120 Tryz.underlying5 Tryz.underlying9 _ _ [27, 40, 74] rfl (own_row _ [27, 40, 74] _ rfl (by decide)) ?_))
    go_ret
    exact ⟨rfl, (by repeat (first | exact Bel.refl _ | refine Bel.drewN ?_ _ | refine Bel.drew ?_ | refine Bel.alloc ?_ _ | refine Bel.trans ?_ (by assumption) | refine Bel.setCell ?_ (by simp; omega) _))⟩
  · have c66 : (⟨#[66, 74, 73]⟩ : ByteArray)[2].toNat = 73 := rfl
    go_enter Tryz.func134, Tryz.ntmps134
    go_wp2_with (first | ((with_reducible show wpList _ _ _ _ _ _); refine wpList_toString rfl (.tmp 5) _ _ 5 rfl Tryz.underlying120 Tryz.underlying5 Tryz.underlying9 _ _ [27, 40, 73] rfl (own_row _ [27, 40, 73] _ rfl (by decide)) ?_))
    go_ret
    exact ⟨rfl, (by repeat (first | exact Bel.refl _ | refine Bel.drewN ?_ _ | refine Bel.drew ?_ | refine Bel.alloc ?_ _ | refine Bel.trans ?_ (by assumption) | refine Bel.setCell ?_ (by simp; omega) _))⟩
end Go.Proofs.YteingkjdemlhgaaGreatDoor

/-
  Package stream: All, ready, Decode, Open.
-/
namespace Go.Proofs.YteingkjdemlhgaaGreatDoor
open Go.RowKit
set_option maxRecDepth 1000000
/-- A state's five values. -/
def stC (d : M.St) : List Value := [.int .i64 d.enc, .string ⟨d.rest.toArray⟩, .int .i64 d.signs, .bool d.fresh, .bool d.stopped]
def stV (d : M.St) : Value := .agg #[.int .i64 d.enc, .string ⟨d.rest.toArray⟩, .int .i64 d.signs, .bool d.fresh, .bool d.stopped]
theorem streamAll_any (n : Int) (h : M.isEnc n = true) (s : ByteArray) (hs : s.size ≤ 68719476734) (w : World) : Calls Tryz.prog 60 #[.int .i64 n, .string s] w fun e w' => ∃ v, e = .returned v ∧ Own w.heap.size 3 w' v ((M.allE n s.data.toList).map (Value.int .i64)) ∧ Bel w w' := by
  rcases M.enc_cases n h with rfl | h1 | h1 | rfl | rfl
  · have H := Lib.hid (show M.allE 1 s.data.toList = M.all8 s.data.toList by rw [M.allE, if_pos rfl])
    clear h
    go_enter Tryz.func60, Tryz.ntmps60
    go_wp2_with (go_at_call 92; refine (all8_any _ hs _).mono ?_; rintro e w' ⟨v, rfl, ho, hb⟩)
    go_ret
    rw [H.out]
    exact ⟨_, rfl, by assumption, by assumption⟩
  · have H := Lib.hid (show M.allE n s.data.toList = M.all16 (n == 3) s.data.toList by rw [M.allE, if_neg (by omega), if_pos h1])
    clear h
    rcases h1 with rfl | rfl
    all_goals
      go_enter Tryz.func60, Tryz.ntmps60
      go_wp2_with (go_at_call 93; refine (all16_any _ _ hs _).mono ?_; rintro e w' ⟨v, rfl, ho, hb⟩)
      go_ret
      rw [H.out]
      exact ⟨_, rfl, by assumption, by assumption⟩
  · have H := Lib.hid (show M.allE n s.data.toList = M.decodeS (n == 5) s.data.toList by rw [M.allE, if_neg (by omega), if_neg (by omega), if_pos h1])
    clear h
    rcases h1 with rfl | rfl
    all_goals
      go_enter Tryz.func60, Tryz.ntmps60
      go_wp2_with (go_at_call 94; refine (all_any _ _ _ (by omega)).mono ?_; rintro e w' ⟨v, rfl, ho, hb⟩)
      go_ret
      rw [H.out]
      exact ⟨_, rfl, by assumption, by assumption⟩
  · have H := Lib.hid (show M.allE 6 s.data.toList = M.allK s.data.toList by rw [M.allE, if_neg (by omega), if_neg (by omega), if_neg (by omega), if_pos rfl])
    clear h
    go_enter Tryz.func60, Tryz.ntmps60
    go_wp2_with (go_at_call 95; refine (allKana_any _ (by omega) _).mono ?_; rintro e w' ⟨v, rfl, ho, hb⟩)
    go_ret
    rw [H.out]
    exact ⟨_, rfl, by assumption, by assumption⟩
  · have H0 : M.allE 7 s.data.toList = if s.data.toList = [] then [] else [65533] := by rw [M.allE, if_neg (by omega), if_neg (by omega), if_neg (by omega), if_neg (by omega)]
    clear h
    by_cases he : s.data.toList = []
    · have H := Lib.hid (show M.allE 7 s.data.toList = [] by rw [H0, if_pos he])
      have e1 : (!s.toList.isEmpty) = false := by rw [Lib.toList_data, he]; rfl
      have e2 : s.toList.isEmpty = true := by rw [Lib.toList_data, he]; rfl
      clear H0 he
      go_enter Tryz.func60, Tryz.ntmps60
      go_wp2_with fail
      go_ret
      rw [H.out]
      exact ⟨_, rfl, Own.nil _ _ _, Bel.refl _⟩
    · have H := Lib.hid (show M.allE 7 s.data.toList = [65533] by rw [H0, if_neg he])
      have e1 : (!s.toList.isEmpty) = true := by rw [Lib.toList_data]; simpa using he
      have e2 : s.toList.isEmpty = false := by rw [Lib.toList_data]; simpa using he
      clear H0 he
      go_enter Tryz.func60, Tryz.ntmps60
      go_wp2_with fail
      go_ret
      rw [H.out]
      exact ⟨_, rfl, Own.made w [.int .i64 65533] (Nat.le_refl _) (by simp [maxLen]), (Bel.refl _).alloc _⟩
theorem readyS_any (n : Int) (s : ByteArray) (w : World) : Calls Tryz.prog 59 #[.int .i64 n, .string s] w fun e w' => e = .returned (.int .i64 (M.readyE n s.data.toList)) ∧ w = w' := by
  cases h : M.isEnc n with
  | false =>
    have H := Lib.hid (show M.readyE n s.data.toList = 6 by rw [M.readyE, if_pos h])
    have HI := Lib.hid h
    clear h
    go_enter Tryz.func59, Tryz.ntmps59
    go_wp2_with (go_at_call 54; refine (isEnc_any _ _).mono ?_; rintro e w' ⟨rfl, rfl⟩; rw [HI.out])
    go_ret
    rw [H.out]
    exact ⟨rfl, rfl⟩
  | true =>
    have HI := Lib.hid h
    by_cases h2 : 3000 < s.size
    · have H := Lib.hid (show M.readyE n s.data.toList = 2 by rw [M.readyE, if_neg (by rw [h]; decide), if_pos (by rw [← Lib.size_eq]; exact h2)])
      clear h
      go_enter Tryz.func59, Tryz.ntmps59
      go_wp2_with (go_at_call 54; refine (isEnc_any _ _).mono ?_; rintro e w' ⟨rfl, rfl⟩; rw [HI.out])
      go_ret
      rw [H.out]
      exact ⟨rfl, rfl⟩
    · have H := Lib.hid (show M.readyE n s.data.toList = 0 by rw [M.readyE, if_neg (by rw [h]; decide), if_neg (by rw [← Lib.size_eq]; exact h2)])
      clear h
      go_enter Tryz.func59, Tryz.ntmps59
      go_wp2_with (go_at_call 54; refine (isEnc_any _ _).mono ?_; rintro e w' ⟨rfl, rfl⟩; rw [HI.out])
      go_ret
      rw [H.out]
      exact ⟨rfl, rfl⟩
theorem readyS_to (n : Int) (s : ByteArray) (k : Int) (h : M.readyE n s.data.toList = k) (w : World) : Calls Tryz.prog 59 #[.int .i64 n, .string s] w fun e w' => e = .returned (.int .i64 k) ∧ w = w' := by
  have := readyS_any n s w; rw [h] at this; exact this
theorem ready_ok (n : Int) (s : ByteArray) (h : M.readyE n s.data.toList = 0) : M.isEnc n = true ∧ s.size ≤ 3000 := by
  unfold M.readyE at h
  split at h
  · cases h
  · rename_i h1
    split at h
    · cases h
    · rename_i h2
      rw [← Lib.size_eq] at h2
      exact ⟨by simpa using h1, by omega⟩
theorem decE_any (n : Int) (s : ByteArray) (w : World) : Calls Tryz.prog 24 #[.int .i64 n, .string s] w fun e w' => ∃ v, e = .returned (.tuple #[v, .int .i64 (M.decE n s.data.toList).2]) ∧ Own w.heap.size 3 w' v ((M.decE n s.data.toList).1.map (Value.int .i64)) ∧ Bel w w' := by
  obtain ⟨k, hk⟩ : ∃ k, M.readyE n s.data.toList = k := ⟨_, rfl⟩
  have HK := Lib.hid hk
  by_cases h : k = 0
  · subst h
    obtain ⟨h1, h2⟩ := ready_ok n s hk
    have H := Lib.hid (show M.decE n s.data.toList = (M.allE n s.data.toList, 0) by rw [M.decE, if_pos hk])
    have H1 := Lib.hid h1
    clear hk h1
    go_enter Tryz.func24, Tryz.ntmps24
    go_wp2_with (first | (go_at_call 59; refine (readyS_to _ _ _ HK.out _).mono ?_; rintro e w' ⟨rfl, rfl⟩) | (go_at_call 60; refine (streamAll_any _ H1.out _ (by omega) _).mono ?_; rintro e w' ⟨v, rfl, hown, hb⟩))
    go_ret2
    rw [H.out]
    exact ⟨_, rfl, by assumption, by assumption⟩
  · have H := Lib.hid (show M.decE n s.data.toList = ([], k) by rw [M.decE, hk, if_neg h])
    have e1 : (k != 0) = true := by simpa using h
    clear hk h
    go_enter Tryz.func24, Tryz.ntmps24
    go_wp2_with (first | (go_at_call 59; refine (readyS_to _ _ _ HK.out _).mono ?_; rintro e w' ⟨rfl, rfl⟩))
    go_ret2
    rw [H.out]
    exact ⟨_, rfl, Own.nil _ _ _, Bel.refl _⟩
theorem open_any (n : Int) (w : World) : Calls Tryz.prog 25 #[.int .i64 n] w fun e w' => e = .returned (.tuple #[stV (M.openE n).1, .int .i64 (M.openE n).2]) ∧ Bel w w' := by
  cases h : M.isEnc n with
  | false =>
    have H := Lib.hid (show M.openE n = (⟨0, [], 0, false, false⟩, 6) by rw [M.openE, h]; rfl)
    have HI := Lib.hid h
    clear h
    go_enter Tryz.func25, Tryz.ntmps25
    go_wp2_with (go_at_call 54; refine (isEnc_any _ _).mono ?_; rintro e w' ⟨rfl, rfl⟩; rw [HI.out])
    refine bodyPost_ret (v := .tuple #[stV ⟨0, [], 0, false, false⟩, .int .i64 6]) (by simp [results, Tryz.results25, go_sem, stV]) rfl ?_
    rw [H.out]
    exact ⟨rfl, (by repeat (first | exact Bel.refl _ | refine Bel.drewN ?_ _ | refine Bel.drew ?_ | refine Bel.alloc ?_ _ | refine Bel.trans ?_ (by assumption) | refine Bel.setCell ?_ (by simp; omega) _))⟩
  | true =>
    have H := Lib.hid (show M.openE n = (M.opn n, 0) by rw [M.openE, h]; rfl)
    have HI := Lib.hid h
    clear h
    go_enter Tryz.func25, Tryz.ntmps25
    go_wp2_with (go_at_call 54; refine (isEnc_any _ _).mono ?_; rintro e w' ⟨rfl, rfl⟩; rw [HI.out])
    refine bodyPost_ret (v := .tuple #[stV (M.opn n), .int .i64 0]) (by simp [results, Tryz.results25, go_sem, stV, M.opn]) rfl ?_
    rw [H.out]
    exact ⟨rfl, (by repeat (first | exact Bel.refl _ | refine Bel.drewN ?_ _ | refine Bel.drew ?_ | refine Bel.alloc ?_ _ | refine Bel.trans ?_ (by assumption) | refine Bel.setCell ?_ (by simp; omega) _))⟩
end Go.Proofs.YteingkjdemlhgaaGreatDoor

/-
  Package stream: the decoder's two methods.
-/
namespace Go.Proofs.YteingkjdemlhgaaGreatDoor
open Go.RowKit
set_option maxRecDepth 1000000
theorem tell8_any (g : Nat) (r : List UInt8)
 (sg : Int) (fr st : Bool) (b : ByteArray) (xs : List Int) (l : List UInt8) (ht : M.told8 (r ++ b.data.toList) = (xs, l)) (hsz : r.length + b.size ≤ 68719476734) (w : World) (hB : Box w g 130 [.int .i64 1, .string ⟨r.toArray⟩, .int .i64 sg, .bool fr, .bool st]) :
    Calls Tryz.prog 96 #[.pointer (some ⟨g, 0, none⟩), .string b] w fun e w' => ∃ v, e = .returned v ∧ Own w.heap.size 3 w' v (xs.map (Value.int .i64)) ∧ Box w' g 130 [.int .i64 1, .string ⟨l.toArray⟩, .int .i64 sg, .bool fr, .bool st] ∧ Below g w w' := by
  have Ht := Lib.hid (show M.told8 ((⟨r.toArray⟩ : ByteArray) ++ b).data.toList = (xs, l) by rw [data_append]; exact ht)
  have HS2 := Lib.hid (show ((⟨r.toArray⟩ : ByteArray) ++ b).size ≤ 68719476734 by rw [Lib.size_eq, data_append, List.length_append, ← Lib.size_eq, ← Lib.size_eq, size_str]; omega)
  have hgl := hB.lt
  have HB := Lib.hid hB
  have c0 := hB.cell 0 _ rfl
  have c1 := hB.cell 1 _ rfl
  have c2 := hB.cell 2 _ rfl
  have c3 := hB.cell 3 _ rfl
  have c4 := hB.cell 4 _ rfl
  have z0 := hB.frozen 0
  have z1 := hB.frozen 1
  have z2 := hB.frozen 2
  have z3 := hB.frozen 3
  have z4 := hB.frozen 4
  clear ht hB
  go_enter Tryz.func96, Tryz.ntmps96
  go_wp2_with (first | (go_at_call 135; refine (told8_to _ _ _ Ht.out (Nat.le_succ_of_le HS2.out) _).mono ?_; rintro e w' ⟨v, rfl, ho, hb1⟩; have hB1 := HB.out.bel hb1; have d0 := hB1.cell 0 _ rfl; have d1 := hB1.cell 1 _ rfl; have d2 := hB1.cell 2 _ rfl; have d3 := hB1.cell 3 _ rfl; have d4 := hB1.cell 4 _ rfl; have y0 := hB1.frozen 0; have y1 := hB1.frozen 1; have y2 := hB1.frozen 2; have y3 := hB1.frozen 3; have y4 := hB1.frozen 4))
  go_ret
  exact ⟨_, rfl, ho.setCell (p := ⟨g, 1, none⟩) hgl _, hB1.set 1 _, below_set (Below.mono hb1 (Nat.le_of_lt hgl)) _ _⟩
theorem tell16_any (g : Nat) (n : Int) (big : Bool) (hn : (n = 2 ∧ big = false) ∨ (n = 3 ∧ big = true)) (r : List UInt8)
 (sg : Int) (fr st : Bool) (b : ByteArray) (xs : List Int) (l : List UInt8) (ht : M.told16 big (r ++ b.data.toList) = (xs, l)) (hsz : r.length + b.size ≤ 68719476734) (w : World) (hB : Box w g 130 [.int .i64 n, .string ⟨r.toArray⟩, .int .i64 sg, .bool fr, .bool st]) :
    Calls Tryz.prog 96 #[.pointer (some ⟨g, 0, none⟩), .string b] w fun e w' => ∃ v, e = .returned v ∧ Own w.heap.size 3 w' v (xs.map (Value.int .i64)) ∧ Box w' g 130 [.int .i64 n, .string ⟨l.toArray⟩, .int .i64 sg, .bool fr, .bool st] ∧ Below g w w' := by
  have Ht := Lib.hid (show M.told16 big ((⟨r.toArray⟩ : ByteArray) ++ b).data.toList = (xs, l) by rw [data_append]; exact ht)
  have HS2 := Lib.hid (show ((⟨r.toArray⟩ : ByteArray) ++ b).size ≤ 68719476734 by rw [Lib.size_eq, data_append, List.length_append, ← Lib.size_eq, ← Lib.size_eq, size_str]; omega)
  have hgl := hB.lt
  have HB := Lib.hid hB
  have c0 := hB.cell 0 _ rfl
  have c1 := hB.cell 1 _ rfl
  have c2 := hB.cell 2 _ rfl
  have c3 := hB.cell 3 _ rfl
  have c4 := hB.cell 4 _ rfl
  have z0 := hB.frozen 0
  have z1 := hB.frozen 1
  have z2 := hB.frozen 2
  have z3 := hB.frozen 3
  have z4 := hB.frozen 4
  clear ht hB
  rcases hn with ⟨rfl, rfl⟩ | ⟨rfl, rfl⟩
  all_goals
    go_enter Tryz.func96, Tryz.ntmps96
    go_wp2_with (first | (go_at_call 136; refine (told16_to _ _ _ _ Ht.out (Nat.le_succ_of_le HS2.out) _).mono ?_; rintro e w' ⟨v, rfl, ho, hb1⟩; have hB1 := HB.out.bel hb1; have d0 := hB1.cell 0 _ rfl; have d1 := hB1.cell 1 _ rfl; have d2 := hB1.cell 2 _ rfl; have d3 := hB1.cell 3 _ rfl; have d4 := hB1.cell 4 _ rfl; have y0 := hB1.frozen 0; have y1 := hB1.frozen 1; have y2 := hB1.frozen 2; have y3 := hB1.frozen 3; have y4 := hB1.frozen 4))
    go_ret
    exact ⟨_, rfl, ho.setCell (p := ⟨g, 1, none⟩) hgl _, hB1.set 1 _, below_set (Below.mono hb1 (Nat.le_of_lt hgl)) _ _⟩
theorem tellS_any (g : Nat) (n : Int) (hn : n = 4 ∨ n = 5) (r : List UInt8)
 (sg : Int) (fr st : Bool) (b : ByteArray) (xs : List Int) (ht : M.allE n (r ++ b.data.toList) = xs) (hsz : r.length + b.size ≤ 68719476734) (w : World) (hB : Box w g 130 [.int .i64 n, .string ⟨r.toArray⟩, .int .i64 sg, .bool fr, .bool st]) :
    Calls Tryz.prog 96 #[.pointer (some ⟨g, 0, none⟩), .string b] w fun e w' => ∃ v, e = .returned v ∧ Own w.heap.size 3 w' v (xs.map (Value.int .i64)) ∧ Box w' g 130 [.int .i64 n, .string ⟨r.toArray⟩, .int .i64 sg, .bool fr, .bool st] ∧ Below g w w' := by
  have Ht := Lib.hid (show M.allE n ((⟨r.toArray⟩ : ByteArray) ++ b).data.toList = xs by rw [data_append]; exact ht)
  have HS2 := Lib.hid (show ((⟨r.toArray⟩ : ByteArray) ++ b).size ≤ 68719476734 by rw [Lib.size_eq, data_append, List.length_append, ← Lib.size_eq, ← Lib.size_eq, size_str]; omega)
  have hgl := hB.lt
  have HB := Lib.hid hB
  have c0 := hB.cell 0 _ rfl
  have c1 := hB.cell 1 _ rfl
  have c2 := hB.cell 2 _ rfl
  have c3 := hB.cell 3 _ rfl
  have c4 := hB.cell 4 _ rfl
  have z0 := hB.frozen 0
  have z1 := hB.frozen 1
  have z2 := hB.frozen 2
  have z3 := hB.frozen 3
  have z4 := hB.frozen 4
  have HI := Lib.hid (show M.isEnc n = true by rw [M.isEnc, decide_eq_true_eq]; omega)
  clear ht hB
  rcases hn with rfl | rfl
  all_goals
    go_enter Tryz.func96, Tryz.ntmps96
    go_wp2_with (first | (go_at_call 60; refine (streamAll_any _ HI.out _ HS2.out _).mono ?_; rintro e w' ⟨v, rfl, ho, hb1⟩; have hB1 := HB.out.bel hb1))
    go_ret
    rw [Ht.out] at ho
    exact ⟨_, rfl, ho, hB1, Below.mono hb1 (Nat.le_of_lt hgl)⟩
theorem tell7_any (g : Nat) (r : List UInt8)
 (sg : Int) (fr st : Bool) (b : ByteArray) (xs : List Int) (hs : st = true ∨ r ++ b.data.toList = []) (hx : xs = []) (hsz : r.length + b.size ≤ 68719476734) (w : World) (hB : Box w g 130 [.int .i64 7, .string ⟨r.toArray⟩, .int .i64 sg, .bool fr, .bool st]) :
    Calls Tryz.prog 96 #[.pointer (some ⟨g, 0, none⟩), .string b] w fun e w' => ∃ v, e = .returned v ∧ Own w.heap.size 3 w' v (xs.map (Value.int .i64)) ∧ Box w' g 130 [.int .i64 7, .string ⟨r.toArray⟩, .int .i64 sg, .bool fr, .bool st] ∧ Below g w w' := by
  subst hx
  have HS2 := Lib.hid (show ((⟨r.toArray⟩ : ByteArray) ++ b).size ≤ 68719476734 by rw [Lib.size_eq, data_append, List.length_append, ← Lib.size_eq, ← Lib.size_eq, size_str]; omega)
  have hgl := hB.lt
  have HB := Lib.hid hB
  have c0 := hB.cell 0 _ rfl
  have c1 := hB.cell 1 _ rfl
  have c2 := hB.cell 2 _ rfl
  have c3 := hB.cell 3 _ rfl
  have c4 := hB.cell 4 _ rfl
  have z0 := hB.frozen 0
  have z1 := hB.frozen 1
  have z2 := hB.frozen 2
  have z3 := hB.frozen 3
  have z4 := hB.frozen 4
  clear hB
  rcases hs with rfl | hs
  · go_enter Tryz.func96, Tryz.ntmps96
    go_wp2_with fail
    go_ret
    exact ⟨_, rfl, Own.nil _ _ _, HB.out, Below.refl _ _⟩
  · have e0 : ((⟨r.toArray⟩ : ByteArray) ++ b).data.toList = [] := by rw [data_append]; exact hs
    have e1 : ((⟨r.toArray⟩ : ByteArray) ++ b).toList.isEmpty = true := by rw [Lib.toList_data, e0]; rfl
    clear e0 hs
    cases st
    · go_enter Tryz.func96, Tryz.ntmps96
      go_wp2_with fail
      go_ret
      exact ⟨_, rfl, Own.nil _ _ _, HB.out, Below.refl _ _⟩
    · go_enter Tryz.func96, Tryz.ntmps96
      go_wp2_with fail
      go_ret
      exact ⟨_, rfl, Own.nil _ _ _, HB.out, Below.refl _ _⟩
theorem tell7_one (g : Nat) (r : List UInt8)
 (sg : Int) (fr st : Bool) (b : ByteArray) (xs : List Int) (hst : st = false) (hs : r ++ b.data.toList ≠ []) (hx : xs = [65533]) (hsz : r.length + b.size ≤ 68719476734) (w : World) (hB : Box w g 130 [.int .i64 7, .string ⟨r.toArray⟩, .int .i64 sg, .bool fr, .bool st]) :
    Calls Tryz.prog 96 #[.pointer (some ⟨g, 0, none⟩), .string b] w fun e w' => ∃ v, e = .returned v ∧ Own w.heap.size 3 w' v (xs.map (Value.int .i64)) ∧ Box w' g 130 [.int .i64 7, .string ⟨r.toArray⟩, .int .i64 sg, .bool fr, .bool true] ∧ Below g w w' := by
  subst hx
  subst hst
  have HS2 := Lib.hid (show ((⟨r.toArray⟩ : ByteArray) ++ b).size ≤ 68719476734 by rw [Lib.size_eq, data_append, List.length_append, ← Lib.size_eq, ← Lib.size_eq, size_str]; omega)
  have hgl := hB.lt
  have HB := Lib.hid hB
  have c0 := hB.cell 0 _ rfl
  have c1 := hB.cell 1 _ rfl
  have c2 := hB.cell 2 _ rfl
  have c3 := hB.cell 3 _ rfl
  have c4 := hB.cell 4 _ rfl
  have z0 := hB.frozen 0
  have z1 := hB.frozen 1
  have z2 := hB.frozen 2
  have z3 := hB.frozen 3
  have z4 := hB.frozen 4
  clear hB
  have e0 : ((⟨r.toArray⟩ : ByteArray) ++ b).data.toList ≠ [] := by rw [data_append]; exact hs
  have e1 : ((⟨r.toArray⟩ : ByteArray) ++ b).toList.isEmpty = false := by rw [Lib.toList_data]; simpa using e0
  have Ht := Lib.hid (show M.allE 7 ((⟨r.toArray⟩ : ByteArray) ++ b).data.toList = [65533] by
    rw [M.allE, if_neg (by omega), if_neg (by omega), if_neg (by omega), if_neg (by omega), if_neg e0])
  have HI := Lib.hid (show M.isEnc 7 = true from rfl)
  have HB2 := Lib.hid (show Box (w.setCell ⟨g, 4, none⟩ (.bool true)) g 130 [.int .i64 7, .string ⟨r.toArray⟩, .int .i64 sg, .bool fr, .bool true] from HB.out.set 4 _)
  clear e0 hs
  go_enter Tryz.func96, Tryz.ntmps96
  go_wp2_with (first | (go_at_call 60; refine (streamAll_any _ HI.out _ HS2.out _).mono ?_; rintro e w' ⟨v, rfl, ho, hb1⟩; have hB1 := HB2.out.bel hb1))
  go_ret
  rw [Ht.out] at ho
  exact ⟨_, rfl, by simpa using ho, hB1, Below.trans (below_set (Below.refl _ _) _ _) (Below.mono hb1 (by simp; omega))⟩
set_option maxHeartbeats 4000000 in
theorem tellK6_any (g : Nat) (r : List UInt8)
 (sg : Int) (fr st : Bool) (b : ByteArray) (xs : List Int) (l : List UInt8) (sg2 : Int) (fr2 : Bool) (ht : M.toldK false sg fr (r ++ b.data.toList) = (xs, sg2, fr2, l)) (hsz : r.length + b.size ≤ 68719476734) (w : World) (hB : Box w g 130 [.int .i64 6, .string ⟨r.toArray⟩, .int .i64 sg, .bool fr, .bool st]) :
    Calls Tryz.prog 96 #[.pointer (some ⟨g, 0, none⟩), .string b] w fun e w' => ∃ v, e = .returned v ∧ Own w.heap.size 3 w' v (xs.map (Value.int .i64)) ∧ Box w' g 130 [.int .i64 6, .string ⟨l.toArray⟩, .int .i64 sg2, .bool fr2, .bool st] ∧ Below g w w' := by
  have Ht := Lib.hid (show M.toldK false sg fr ((⟨r.toArray⟩ : ByteArray) ++ b).data.toList = (xs, sg2, fr2, l) by rw [data_append]; exact ht)
  have HS2 := Lib.hid (show ((⟨r.toArray⟩ : ByteArray) ++ b).size ≤ 68719476734 by rw [Lib.size_eq, data_append, List.length_append, ← Lib.size_eq, ← Lib.size_eq, size_str]; omega)
  have hgl := hB.lt
  have HB := Lib.hid hB
  have c0 := hB.cell 0 _ rfl
  have c1 := hB.cell 1 _ rfl
  have c2 := hB.cell 2 _ rfl
  have c3 := hB.cell 3 _ rfl
  have c4 := hB.cell 4 _ rfl
  have z0 := hB.frozen 0
  have z1 := hB.frozen 1
  have z2 := hB.frozen 2
  have z3 := hB.frozen 3
  have z4 := hB.frozen 4
  clear ht hB
  go_enter Tryz.func96, Tryz.ntmps96
  go_wp2_with fail
  have m2 := World.new_ne w _ c2
  have m3 := World.new_ne w _ c3
  go_region_held3 (fun w' => w'.cell? ⟨g, 2, none⟩ = some (.int .i64 sg) ∧ w'.cell? ⟨g, 3, none⟩ = some (.bool fr)) (go_keep) ((first | (go_at_call 137; refine (toldK_to _ _ _ _ _ _ _ _ Ht.out (Nat.le_succ_of_le HS2.out) _).mono ?_; rintro e w' ⟨v, rfl, ho, hb1⟩; have hB1 := Box.bel (HB.out.bel (by repeat (first | exact Bel.refl _ | refine Bel.drewN ?_ _ | refine Bel.drew ?_ | refine Bel.alloc ?_ _ | refine Bel.trans ?_ (by assumption) | refine Bel.setCell ?_ (by simp; omega) _))) hb1; have d0 := hB1.cell 0 _ rfl; have d1 := hB1.cell 1 _ rfl; have d2 := hB1.cell 2 _ rfl; have d3 := hB1.cell 3 _ rfl; have d4 := hB1.cell 4 _ rfl; have y0 := hB1.frozen 0; have y1 := hB1.frozen 1; have y2 := hB1.frozen 2; have y3 := hB1.frozen 3; have y4 := hB1.frozen 4; have m4 := World.new_ne w' _ d2; have m5 := World.new_ne w' _ d3; try (have hS : Box w' w.heap.size 163 [.int .i64 0, .bool false] := Box.bel (w := (w.alloc (.cells #[.int .i64 0, .bool false] 163)).drew) (Box.new w _ _) hb1; have s0 := hS.cell 0 _ rfl; have s1 := hS.cell 1 _ rfl; have n0 := hS.frozen 0; have n1 := hS.frozen 1))))
  all_goals first
    | (have hA := (hS.set 0 (.int .i64 sg2)).set 1 (.bool fr2)
       have hC := (hB1.far (p := ⟨w.heap.size, 0, none⟩) (by simp; omega) (.int .i64 sg2)).far (p := ⟨w.heap.size, 1, none⟩) (by simp; omega) (.bool fr2)
       have hF := ((Below.mono hb1 (Nat.le_of_lt (show g < (w.alloc (.cells #[.int .i64 0, .bool false] 163)).drew.heap.size by simp; omega))).setCell (p := ⟨w.heap.size, 0, none⟩) (Nat.le_of_lt hgl) (.int .i64 sg2)).setCell (p := ⟨w.heap.size, 1, none⟩) (Nat.le_of_lt hgl) (.bool fr2)
       have hw0 : Below g w (w.alloc (.cells #[.int .i64 0, .bool false] 163)).drew := Below.mono (Bel.drew ((Bel.refl w).alloc _)) (Nat.le_of_lt hgl)
       have hF2 := Below.trans hw0 hF
       have hO : Own w.heap.size 3 _ v (xs.map (Value.int .i64)) := ((ho.setCell (p := ⟨w.heap.size, 0, none⟩) (by simp) (.int .i64 sg2)).setCell (p := ⟨w.heap.size, 1, none⟩) (by simp) (.bool fr2)).mono (by simp)
       clear d0 d1 d2 d3 d4 y0 y1 y2 y3 y4 s0 s1 n0 n1 hF hw0 ho hb1 hB1 hS
       generalize (w'.setCell ⟨w.heap.size, 0, none⟩ (.int .i64 sg2)).setCell ⟨w.heap.size, 1, none⟩ (.bool fr2) = W at *
       generalize hq : w.heap.size = q at *
       have HQ := Lib.hid hq
       clear hq)
    | (have hC := hB1.bel ((Bel.refl w').alloc (.cells #[.int .i64 sg2, .bool fr2] 163))
       have hA := Box.new w' 163 [.int .i64 sg2, .bool fr2]
       have hF2 : Below g w (w'.alloc (.cells #[.int .i64 sg2, .bool fr2] 163)) := Below.mono ((Bel.trans ((Bel.refl w).drew) hb1).alloc _) (Nat.le_of_lt hgl)
       have hO : Own w.heap.size 3 _ v (xs.map (Value.int .i64)) := ho.alloc (.cells #[.int .i64 sg2, .bool fr2] 163)
       have hg2 : g < w'.heap.size := hB1.lt
       clear ho hb1 hB1 d0 d1 d2 d3 d4 y0 y1 y2 y3 y4
       generalize w'.alloc (.cells #[.int .i64 sg2, .bool fr2] 163) = W at *
       generalize w'.heap.size = q at *)
  all_goals
    clear c0 c1 c2 c3 c4 z0 z1 z2 z3 z4
    have s0 := hA.cell 0 _ rfl
    have s1 := hA.cell 1 _ rfl
    have gq : ¬ q = g := by omega
    have qg : ¬ g = q := by omega
    have d0 := hC.cell 0 _ rfl; have d1 := hC.cell 1 _ rfl; have d2 := hC.cell 2 _ rfl; have d3 := hC.cell 3 _ rfl; have d4 := hC.cell 4 _ rfl; have y0 := hC.frozen 0; have y1 := hC.frozen 1; have y2 := hC.frozen 2; have y3 := hC.frozen 3; have y4 := hC.frozen 4
    go_wp2_with fail
    go_region_held3 (fun w' => w'.cell? ⟨q, 0, none⟩ = some (.int .i64 sg2) ∧ w'.cell? ⟨q, 1, none⟩ = some (.bool fr2)) (go_keep) (fail)
  all_goals
    go_wp2_with fail
    go_ret
    refine ⟨_, rfl, ?_, ?_, ?_⟩
    · first | rw [HQ.out] | skip
      repeat (first | exact hO | refine Own.setCell ?_ (by exact hgl) _ | refine Own.drew ?_)
    · first | exact ((hC.set 2 _).set 3 _).set 1 _ | exact ((hC.set 3 _).set 2 _).set 1 _ | exact ((hC.set 2 _).set 1 _).set 3 _ | exact ((hC.set 1 _).set 2 _).set 3 _ | exact ((hC.set 3 _).set 1 _).set 2 _ | exact ((hC.set 1 _).set 3 _).set 2 _
    · repeat (first | exact hF2 | refine below_set ?_ _ _ | refine Below.drew ?_)
end Go.Proofs.YteingkjdemlhgaaGreatDoor

/-
  What waits, in the document's words.
-/
namespace Go.Proofs.YteingkjdemlhgaaGreatDoor.M
open Go
theorem told8_le (s : Bs) : (told8 s).1.length ≤ s.length := by
  have h := (all8_many _ s (Nat.le_refl _)).1
  rw [all8] at h
  split at h
  · exact h
  · rw [List.length_append] at h; omega
theorem tell_len (d : St) (h : isEnc d.enc = true) (b : Bs) : (tellM d b).1.length ≤ d.rest.length + b.length := by
  have hl : (d.rest ++ b).length = d.rest.length + b.length := List.length_append
  rcases enc_cases d.enc h with h1 | h1 | h1 | h1 | h1
  · rw [tellM, if_pos h1, ← hl]; exact told8_le _
  · rw [tellM, if_neg (by omega), if_pos h1, ← hl]
    have := (told16_len (d.enc == 3) _ (d.rest ++ b) (Nat.le_refl _)).1
    simp only
    omega
  · rw [tellM, if_neg (by omega), if_neg (by omega), if_neg (by omega), if_neg (by omega)]
    have e2 : allE d.enc (d.rest ++ b) = decodeS (d.enc == 5) (d.rest ++ b) := by rw [allE, if_neg (by omega), if_neg (by omega), if_pos h1]
    simp only [e2, decodeS, List.length_map]
    omega
  · rw [tellM, if_neg (by omega), if_neg (by omega), if_pos h1, ← hl]
    have := (toldK_rest false _ (d.rest ++ b) d.signs d.fresh (Nat.le_refl _)).1
    simp only
    omega
  · rw [tellM, if_neg (by omega), if_neg (by omega), if_neg (by omega), if_pos h1]
    split
    · simp
    · rename_i h2
      simp only [List.length_singleton]
      have : d.rest ++ b ≠ [] := fun h3 => h2 (.inr h3)
      have := List.length_pos_iff.2 this
      omega
theorem end_len (d : St) : (endM d).length ≤ d.rest.length + 1 := by
  unfold endM
  split
  · simp
  · split
    · have := (toldK_rest true _ d.rest d.signs d.fresh (Nat.le_refl _)).1
      omega
    · simp
end Go.Proofs.YteingkjdemlhgaaGreatDoor.M

/-
  Package stream: end, rest, Check, Raw, Feed.
-/
namespace Go.Proofs.YteingkjdemlhgaaGreatDoor
open Go.RowKit
set_option maxRecDepth 1000000
theorem tell_any (g : Nat) (d : M.St) (h : M.isEnc d.enc = true) (b : ByteArray) (hsz : d.rest.length + b.size ≤ 68719476734) (w : World) (hB : Box w g 130 (stC d)) :
    Calls Tryz.prog 96 #[.pointer (some ⟨g, 0, none⟩), .string b] w fun e w' => ∃ v, e = .returned v ∧ Own w.heap.size 3 w' v ((M.tellM d b.data.toList).1.map (Value.int .i64)) ∧ Box w' g 130 (stC (M.tellM d b.data.toList).2) ∧ Below g w w' := by
  obtain ⟨n, r, sg, fr, st⟩ := d
  simp only at h hsz
  rcases M.enc_cases n h with rfl | h1 | h1 | rfl | rfl
  · obtain ⟨⟨xs, l⟩, ht⟩ : ∃ q, M.told8 (r ++ b.data.toList) = q := ⟨_, rfl⟩
    have e : M.tellM ⟨1, r, sg, fr, st⟩ b.data.toList = (xs, ⟨1, l, sg, fr, st⟩) := by rw [M.tellM, if_pos rfl]; simp only [ht]
    rw [e]
    exact tell8_any g r sg fr st b xs l ht hsz w hB
  · obtain ⟨⟨xs, l⟩, ht⟩ : ∃ q, M.told16 (n == 3) (r ++ b.data.toList) = q := ⟨_, rfl⟩
    have e : M.tellM ⟨n, r, sg, fr, st⟩ b.data.toList = (xs, ⟨n, l, sg, fr, st⟩) := by rw [M.tellM, if_neg (by simp only; omega), if_pos h1]; simp only [ht]
    rw [e]
    exact tell16_any g n (n == 3) (by rcases h1 with rfl | rfl <;> simp) r sg fr st b xs l ht hsz w hB
  · have e : M.tellM ⟨n, r, sg, fr, st⟩ b.data.toList = (M.allE n (r ++ b.data.toList), ⟨n, r, sg, fr, st⟩) := by
      rw [M.tellM, if_neg (by simp only; omega), if_neg (by simp only; omega), if_neg (by simp only; omega), if_neg (by simp only; omega)]
    rw [e]
    exact tellS_any g n h1 r sg fr st b _ rfl hsz w hB
  · obtain ⟨⟨xs, sg2, fr2, l⟩, ht⟩ : ∃ q, M.toldK false sg fr (r ++ b.data.toList) = q := ⟨_, rfl⟩
    have e : M.tellM ⟨6, r, sg, fr, st⟩ b.data.toList = (xs, ⟨6, l, sg2, fr2, st⟩) := by rw [M.tellM, if_neg (by simp only; omega), if_neg (by simp only; omega), if_pos rfl]; simp only [ht]
    rw [e]
    exact tellK6_any g r sg fr st b xs l sg2 fr2 ht hsz w hB
  · have e : M.tellM ⟨7, r, sg, fr, st⟩ b.data.toList = if st = true ∨ r ++ b.data.toList = [] then ([], ⟨7, r, sg, fr, st⟩) else ([65533], ⟨7, r, sg, fr, true⟩) := by
      rw [M.tellM, if_neg (by simp only; omega), if_neg (by simp only; omega), if_neg (by simp only; omega), if_pos rfl]
    rw [e]
    by_cases hs : st = true ∨ r ++ b.data.toList = []
    · rw [if_pos hs]
      exact tell7_any g r sg fr st b [] hs rfl hsz w hB
    · rw [if_neg hs]
      have h2 : st = false := by cases st; rfl; exact absurd (.inl rfl) hs
      exact tell7_one g r sg fr st b _ h2 (fun h3 => hs (.inr h3)) rfl hsz w hB
def Only (g : Nat) (a w : World) : Prop := ∀ k, k ≠ g → k < a.heap.size → w.heap[k]? = a.heap[k]?
theorem Only.of {g : Nat} {a w : World} (h : Bel a w) : Only g a w := fun k _ hk => h.block k hk
theorem Only.set {g : Nat} {a w : World} (h : Only g a w) (i : Nat) (u : Value) : Only g a (w.setCell ⟨g, i, none⟩ u) := fun k h1 h2 => (Below.heap_setCell w ⟨g, i, none⟩ u k h1).trans (h k h1 h2)
theorem Own.only {B g : Nat} {e : TypeId} {w w' : World} {v : Value} {xs : List Value} (h : Own B e w v xs) (ho : Only g w w') (hg : g < B) : Own B e w' v xs := by
  refine ⟨h.1, ?_⟩
  rcases h.2 with h2 | ⟨k, cap, cur, r0, r1, r2, r3⟩
  · exact .inl h2
  · exact .inr ⟨k, cap, cur, r0, r1, (ho k (by omega) (Array.getElem?_eq_some_iff.1 r2).1).trans r2, r3⟩
set_option maxHeartbeats 2000000 in
theorem end_any (g : Nat) (n : Int) (r : List UInt8) (sg : Int) (fr st : Bool) (xs : List Int) (hx : M.endM ⟨n, r, sg, fr, st⟩ = xs) (hsz : r.length ≤ 3) (w : World) (hB : Box w g 130 [.int .i64 n, .string ⟨r.toArray⟩, .int .i64 sg, .bool fr, .bool st]) :
    Calls Tryz.prog 97 #[.pointer (some ⟨g, 0, none⟩)] w fun e w' => ∃ v, e = .returned v ∧ Own w.heap.size 3 w' v (xs.map (Value.int .i64)) ∧ Box w' g 130 [.int .i64 n, .string ⟨#[]⟩, .int .i64 0, .bool false, .bool false] ∧ Below g w w' ∧ Only g w w' := by
  have hgl := hB.lt
  have HB := Lib.hid hB
  have c0 := hB.cell 0 _ rfl
  have c1 := hB.cell 1 _ rfl
  have c2 := hB.cell 2 _ rfl
  have c3 := hB.cell 3 _ rfl
  have c4 := hB.cell 4 _ rfl
  have z0 := hB.frozen 0
  have z1 := hB.frozen 1
  have z2 := hB.frozen 2
  have z3 := hB.frozen 3
  have z4 := hB.frozen 4
  by_cases h0 : r = []
  · subst h0
    rw [M.endM, if_pos rfl] at hx
    subst hx
    clear hB
    go_enter Tryz.func97, Tryz.ntmps97
    go_wp2_with fail
    go_ret
    exact ⟨_, rfl, ((((Own.setCell (Own.nil _ _ _) (p := ⟨g, 0, none⟩) hgl _).setCell (p := ⟨g, 1, none⟩) hgl _).setCell (p := ⟨g, 2, none⟩) hgl _).setCell (p := ⟨g, 3, none⟩) hgl _).setCell (p := ⟨g, 4, none⟩) hgl _, ((((HB.out.set 0 _).set 1 _).set 2 _).set 3 _).set 4 _, below_set (below_set (below_set (below_set (below_set (Below.refl _ _) _ _) _ _) _ _) _ _) _ _, (((((Only.of (Bel.refl _)).set 0 _).set 1 _).set 2 _).set 3 _).set 4 _⟩
  · have e1 : (!(⟨r.toArray⟩ : ByteArray).toList.isEmpty) = true := by rw [Lib.toList_data]; simpa using h0
    have e2 : (⟨r.toArray⟩ : ByteArray).toList.isEmpty = false := by rw [Lib.toList_data]; simpa using h0
    have e3 : (!r.isEmpty) = true := by simpa using h0
    have e4 : r.isEmpty = false := by simpa using h0
    by_cases h6 : n = 6
    · subst h6
      obtain ⟨⟨ys, sg2, fr2, l⟩, ht⟩ : ∃ q, M.toldK true sg fr r = q := ⟨_, rfl⟩
      have hxs : xs = ys := by rw [← hx, M.endM, if_neg h0, if_pos rfl]; simp only [ht]
      subst hxs
      have Ht := Lib.hid (show M.toldK true sg fr (⟨r.toArray⟩ : ByteArray).data.toList = (xs, sg2, fr2, l) from ht)
      have HS := Lib.hid (show (⟨r.toArray⟩ : ByteArray).size ≤ 68719476735 by rw [size_str]; omega)
      clear hB ht hx h0
      go_enter Tryz.func97, Tryz.ntmps97
      go_wp2_with fail
      go_region_held3 (fun w' => w'.cell? ⟨g, 1, none⟩ = some (.string ⟨r.toArray⟩) ∧ w'.cell? ⟨g, 2, none⟩ = some (.int .i64 sg) ∧ w'.cell? ⟨g, 3, none⟩ = some (.bool fr)) (go_keep) ((first | (go_at_call 137; refine (toldK_to _ _ _ _ _ _ _ _ Ht.out HS.out _).mono ?_; rintro e w' ⟨v, rfl, ho, hb1⟩; have hB1 := Box.bel (HB.out.bel (by repeat (first | exact Bel.refl _ | refine Bel.drewN ?_ _ | refine Bel.drew ?_ | refine Bel.alloc ?_ _ | refine Bel.trans ?_ (by assumption) | refine Bel.setCell ?_ (by simp; omega) _))) hb1; have d0 := hB1.cell 0 _ rfl; have d1 := hB1.cell 1 _ rfl; have d2 := hB1.cell 2 _ rfl; have d3 := hB1.cell 3 _ rfl; have d4 := hB1.cell 4 _ rfl; have y0 := hB1.frozen 0; have y1 := hB1.frozen 1; have y2 := hB1.frozen 2; have y3 := hB1.frozen 3; have y4 := hB1.frozen 4)))
      all_goals
        go_wp2_with fail
        go_ret
        exact ⟨_, rfl, ((((Own.setCell ho (p := ⟨g, 0, none⟩) hgl _).setCell (p := ⟨g, 1, none⟩) hgl _).setCell (p := ⟨g, 2, none⟩) hgl _).setCell (p := ⟨g, 3, none⟩) hgl _).setCell (p := ⟨g, 4, none⟩) hgl _, ((((hB1.set 0 _).set 1 _).set 2 _).set 3 _).set 4 _, below_set (below_set (below_set (below_set (below_set (Below.mono (Bel.trans ((Bel.refl w).drew) hb1) (Nat.le_of_lt hgl)) _ _) _ _) _ _) _ _) _ _, (((((Only.of (Bel.trans ((Bel.refl w).drew) hb1)).set 0 _).set 1 _).set 2 _).set 3 _).set 4 _⟩
    · have hxs : xs = [65533] := by rw [← hx, M.endM, if_neg h0, if_neg h6]
      subst hxs
      have e6 : (n == 6) = false := by simpa using h6
      clear hB hx h0 h6
      go_enter Tryz.func97, Tryz.ntmps97
      go_wp2_with fail
      go_ret
      have hO := Own.made (B := w.heap.size) (e := 3) (((((w.setCell ⟨g, 0, none⟩ (.int .i64 n)).setCell ⟨g, 1, none⟩ (.string ⟨#[]⟩)).setCell ⟨g, 2, none⟩ (.int .i64 0)).setCell ⟨g, 3, none⟩ (.bool false)).setCell ⟨g, 4, none⟩ (.bool false)) [.int .i64 65533] (by simp) (by simp [maxLen])
      simp only [World.size_setCell, List.length_singleton] at hO
      exact ⟨_, rfl, hO, (((((HB.out.set 0 _).set 1 _).set 2 _).set 3 _).set 4 _).bel ((Bel.refl _).alloc _), Below.alloc (below_set (below_set (below_set (below_set (below_set (Below.refl _ _) _ _) _ _) _ _) _ _) _ _) (by simp; omega) _, fun k h1 h2 => (((Bel.refl _).alloc _).block k (by simpa using h2)).trans ((((((Only.of (Bel.refl w)).set 0 _).set 1 _).set 2 _).set 3 _).set 4 _ k h1 h2)⟩
theorem tell_to (g : Nat) (n : Int) (q : List Int × M.St) (b : ByteArray) (ht : M.tellM (M.opn n) b.data.toList = q) (h : M.isEnc n = true) (hsz : b.size ≤ 68719476734) (w : World) (hB : Box w g 130 [.int .i64 n, .string ⟨#[]⟩, .int .i64 0, .bool false, .bool false]) :
    Calls Tryz.prog 96 #[.pointer (some ⟨g, 0, none⟩), .string b] w fun e w' => ∃ v, e = .returned v ∧ Own w.heap.size 3 w' v (q.1.map (Value.int .i64)) ∧ Box w' g 130 (stC q.2) ∧ Below g w w' := by
  have := tell_any g (M.opn n) h b (by simpa [M.opn] using hsz) w hB
  rw [ht] at this
  exact this
theorem rest_any (n : Int) (h : M.isEnc n = true) (s : ByteArray) (hs : s.size ≤ 3) (w : World) : Calls Tryz.prog 73 #[.int .i64 n, .string s] w fun e w' => e = .returned (.bool (M.restOk n s.data.toList)) ∧ Bel w w' := by
  by_cases h0 : s.data.toList = []
  · have HF := Lib.hid (show M.restOk n s.data.toList = true by rw [M.restOk, decide_eq_true_eq]; exact .inl h0)
    have e2 : s.toList.isEmpty = true := by rw [Lib.toList_data, h0]; rfl
    clear h0
    go_enter Tryz.func73, Tryz.ntmps73
    go_wp2_with fail
    go_ret
    rw [HF.out]
    exact ⟨rfl, Bel.refl _⟩
  · have e2 : s.toList.isEmpty = false := by rw [Lib.toList_data]; simpa using h0
    obtain ⟨⟨xs, d2⟩, ht⟩ : ∃ q, M.tellM (M.opn n) s.data.toList = q := ⟨_, rfl⟩
    have HT := Lib.hid ht
    have HI := Lib.hid h
    have hro : M.restOk n s.data.toList = decide (xs = [] ∧ d2.rest = s.data.toList) := by
      rw [M.restOk, ht]; simp [h0]
    by_cases hx : xs = []
    · by_cases hr : d2.rest = s.data.toList
      · have HF := Lib.hid (show M.restOk n s.data.toList = true by rw [hro, decide_eq_true_eq]; exact ⟨hx, hr⟩)
        have e3 : ((⟨d2.rest.toArray⟩ : ByteArray).toList == s.toList) = true := by rw [Lib.toList_data, Lib.toList_data, beq_iff_eq]; exact hr
        have e4 : (d2.rest == s.toList) = true := by rw [Lib.toList_data, beq_iff_eq]; exact hr
        subst hx
        clear h0 ht hro hr h
        go_enter Tryz.func73, Tryz.ntmps73
        go_wp2_with (first | (go_at_call 96; refine (tell_to w.heap.size n _ s HT.out HI.out (by omega) _ (Box.new w _ _)).mono ?_; rintro e w' ⟨v, rfl, ho, hB1, hb1⟩; obtain ⟨A, c, hv, hlc, hcm, _⟩ := ho.form; rw [List.length_map] at hv hlc; subst hv; unfold maxLen at hcm; have d1 := hB1.cell 1 _ rfl))
        go_ret
        rw [HF.out]
        exact ⟨rfl, Bel.upto ((Bel.refl w).alloc _) hb1 (Nat.le_refl _)⟩
      · have HF := Lib.hid (show M.restOk n s.data.toList = false by rw [hro, decide_eq_false_iff_not]; exact fun h => hr h.2)
        have e3 : ((⟨d2.rest.toArray⟩ : ByteArray).toList == s.toList) = false := by rw [Lib.toList_data, Lib.toList_data, beq_eq_false_iff_ne]; exact hr
        have e4 : (d2.rest == s.toList) = false := by rw [Lib.toList_data, beq_eq_false_iff_ne]; exact hr
        subst hx
        clear h0 ht hro hr h
        go_enter Tryz.func73, Tryz.ntmps73
        go_wp2_with (first | (go_at_call 96; refine (tell_to w.heap.size n _ s HT.out HI.out (by omega) _ (Box.new w _ _)).mono ?_; rintro e w' ⟨v, rfl, ho, hB1, hb1⟩; obtain ⟨A, c, hv, hlc, hcm, _⟩ := ho.form; rw [List.length_map] at hv hlc; subst hv; unfold maxLen at hcm; have d1 := hB1.cell 1 _ rfl))
        go_ret
        rw [HF.out]
        exact ⟨rfl, Bel.upto ((Bel.refl w).alloc _) hb1 (Nat.le_refl _)⟩
    · have HF := Lib.hid (show M.restOk n s.data.toList = false by rw [hro, decide_eq_false_iff_not]; exact fun h => hx h.1)
      have e3 : ((xs.length : Int) == 0) = false := by rw [beq_eq_false_iff_ne]; intro h; apply hx; exact List.eq_nil_of_length_eq_zero (by omega)
      clear h0 ht hro hx h
      go_enter Tryz.func73, Tryz.ntmps73
      go_wp2_with (first | (go_at_call 96; refine (tell_to w.heap.size n _ s HT.out HI.out (by omega) _ (Box.new w _ _)).mono ?_; rintro e w' ⟨v, rfl, ho, hB1, hb1⟩; obtain ⟨A, c, hv, hlc, hcm, _⟩ := ho.form; rw [List.length_map] at hv hlc; subst hv; unfold maxLen at hcm; have d1 := hB1.cell 1 _ rfl))
      go_ret
      rw [HF.out]
      exact ⟨rfl, Bel.upto ((Bel.refl w).alloc _) hb1 (Nat.le_refl _)⟩
end Go.Proofs.YteingkjdemlhgaaGreatDoor

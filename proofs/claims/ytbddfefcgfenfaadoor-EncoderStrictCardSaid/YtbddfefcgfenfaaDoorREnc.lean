/-
  The document's answers on encoders: Digits, OutputOf, HasOf, EncodeOf.
-/
import Derived.Test.YtbddfefcgfenfaaDoorBase8
import Derived.Test.YtbddfefcgfenfaaDoorRLong
import Derived.Test.YtbddfefcgfenfaaDoorRSingle
import Derived.Test.YtbddfefcgfenfaaDoorRKana2
import Derived.Test.YtbddfefcgfenfaaDoorRUtf8
namespace Go.Proofs.YtbddfefcgfenfaaDoor
open Go.RowKit
set_option maxRecDepth 1000000

theorem outputOf_any (n : Int) (w : World) : Calls Tryd.prog 29 #[.int .i64 n] w fun e w' => e = .returned (.int .i64 (M.outE n)) ∧ w = w' := by
  by_cases h1 : n = 2
  · have H := Lib.hid (show M.outE n = 1 by rw [M.outE, if_pos (.inl h1)])
    go_enter Tryd.func29, Tryd.ntmps29
    go_wp2
    go_ret
    exact ⟨by rw [H.out]; rfl, rfl⟩
  · by_cases h2 : n = 3
    · have H := Lib.hid (show M.outE n = 1 by rw [M.outE, if_pos (.inr (.inl h2))])
      have e1 : (n == 2) = false := by simpa using h1
      go_enter Tryd.func29, Tryd.ntmps29
      go_wp2
      go_ret
      exact ⟨by rw [H.out]; rfl, rfl⟩
    · by_cases h3 : n = 7
      · have H := Lib.hid (show M.outE n = 1 by rw [M.outE, if_pos (.inr (.inr h3))])
        have e1 : (n == 2) = false := by simpa using h1
        have e2 : (n == 3) = false := by simpa using h2
        go_enter Tryd.func29, Tryd.ntmps29
        go_wp2
        go_ret
        exact ⟨by rw [H.out]; rfl, rfl⟩
      · have H := Lib.hid (show M.outE n = n by rw [M.outE, if_neg (by omega)])
        have e1 : (n == 2) = false := by simpa using h1
        have e2 : (n == 3) = false := by simpa using h2
        have e3 : (n == 7) = false := by simpa using h3
        go_enter Tryd.func29, Tryd.ntmps29
        go_wp2
        go_ret
        exact ⟨by rw [H.out]; rfl, rfl⟩
theorem hasOf_any (e n : Int) (w : World) : Calls Tryd.prog 33 #[.int .i64 e, .int .i64 n] w fun r w' => r = .returned (.bool (M.hasE e n)) ∧ Bel w w' := by
  by_cases h4 : e = 4
  · subst h4
    obtain ⟨q, hq⟩ : ∃ q, M.byteOf false n = q := ⟨_, rfl⟩
    have H := Lib.hid (show M.hasE 4 n = decide (0 ≤ q) by rw [M.hasE, if_pos (.inl rfl), ← hq]; rfl)
    have HQ := Lib.hid hq
    clear hq
    go_enter Tryd.func33, Tryd.ntmps33
    go_wp2_with (go_at_call 71; refine (byteOf_any false n _).mono ?_; rintro e w' ⟨rfl, hb⟩; rw [HQ.out])
    go_ret
    exact ⟨by rw [H.out]; exact ret_bool (by simp), hb⟩
  · by_cases h5 : e = 5
    · subst h5
      obtain ⟨q, hq⟩ : ∃ q, M.byteOf true n = q := ⟨_, rfl⟩
      have H := Lib.hid (show M.hasE 5 n = decide (0 ≤ q) by rw [M.hasE, if_pos (.inr rfl), ← hq]; rfl)
      have HQ := Lib.hid hq
      clear hq
      go_enter Tryd.func33, Tryd.ntmps33
      go_wp2_with (go_at_call 71; refine (byteOf_any true n _).mono ?_; rintro e w' ⟨rfl, hb⟩; rw [HQ.out])
      go_ret
      exact ⟨by rw [H.out]; exact ret_bool (by simp), hb⟩
    · have e1 : (e == 4) = false := by simpa using h4
      have e2 : (e == 5) = false := by simpa using h5
      by_cases h6 : e = 6
      · subst h6
        have H := Lib.hid (show M.hasE 6 n = M.hasK n by rw [M.hasE, if_neg (by omega), if_pos rfl])
        go_enter Tryd.func33, Tryd.ntmps33
        go_wp2_with (go_at_call 72; refine (hasKana_any _ _).mono ?_; rintro e w' ⟨rfl, rfl⟩)
        go_ret
        exact ⟨by rw [H.out]; rfl, Bel.refl _⟩
      · have e3 : (e == 6) = false := by simpa using h6
        have H := Lib.hid (show M.hasE e n = true by rw [M.hasE, if_neg (by omega), if_neg h6])
        go_enter Tryd.func33, Tryd.ntmps33
        go_wp2_with fail
        go_ret
        exact ⟨by rw [H.out]; rfl, Bel.refl _⟩
theorem digits_any (u : Nat) (hu : u ≤ 1114111) : ∀ (w : World), Calls Tryd.prog 67 #[.int .i64 (u : Int)] w fun e w' => e = .returned (.string ⟨(Lib.decDigits u).toArray⟩) ∧ Bel w w' := by
  induction u using Nat.strongRecOn with
  | _ u ih =>
    intro w
    by_cases h : u < 10
    · obtain ⟨d, hd⟩ : ∃ d, d = UInt8.ofNat (48 + u) := ⟨_, rfl⟩
      have hv : d.toNat = 48 + u := by rw [hd]; exact UInt8.toNat_ofNat_of_lt' (show 48 + u < 256 by omega)
      have HD := Lib.hid (show Lib.decDigits u = [d] by rw [Lib.decDigits, dif_pos h, hd])
      have HV := Lib.hid (show [d].map byteVal = [.int .u8 (48 + (u : Int))] by simp [byteVal, hv])
      clear hv ih hd
      go_enter Tryd.func67, Tryd.ntmps67
      go_wp2_with ((with_reducible show wpList _ _ _ _ _ _); refine wpList_toString rfl (.tmp 8) _ _ 5 rfl Tryd.underlying34 Tryd.underlying5 Tryd.underlying9 _ _ [d] rfl (own_row _ [d] _ HV.out (by simp)) ?_)
      go_ret
      exact ⟨by rw [HD.out]; rfl, (by repeat (first | exact Bel.refl _ | refine Bel.drewN ?_ _ | refine Bel.drew ?_ | refine Bel.alloc ?_ _ | refine Bel.trans ?_ (by assumption) | refine Bel.setCell ?_ (by simp; omega) _))⟩
    · have HD := Lib.hid (show Lib.decDigits u = Lib.decDigits (u / 10) ++ Lib.decDigits (u % 10) by
        rw [Lib.decDigits, dif_neg h]
        congr 1
        rw [Lib.decDigits, dif_pos (by omega)])
      have i1 := ih (u / 10) (by omega) (by omega)
      have i2 := ih (u % 10) (by omega) (by omega)
      have l1 := dec_len 6 (u / 10) (by omega)
      have l2 := dec_len 6 (u % 10) (by omega)
      have I1 := Lib.hid i1
      have I2 := Lib.hid i2
      clear ih i1 i2
      go_enter Tryd.func67, Tryd.ntmps67
      go_wp2_with fail
      have c1 : (u : Int) / 10 = ((u / 10 : Nat) : Int) := by omega
      have c2 : (u : Int) % 10 = ((u % 10 : Nat) : Int) := by omega
      have C2 := Lib.hid c2
      rw [c1]
      refine (I1.out _).mono ?_
      rintro e w1 ⟨rfl, b1⟩
      clear c1 c2
      go_wp2_with fail
      rw [C2.out]
      refine (I2.out _).mono ?_
      rintro e w2 ⟨rfl, b2⟩
      go_wp2_with fail
      go_ret
      refine ⟨?_, b1.trans b2⟩
      rw [HD.out]
      exact ret_one (congrArg Value.string (by rw [str_append]))
theorem rawS_cases (user : Bool) (xs : List Int) : (∃ b, M.rawS user xs = (b, 0)) ∨ M.rawS user xs = ([], 5) := by
  unfold M.rawS; cases M.encodeS user xs with
  | none => exact .inr rfl
  | some b => exact .inl ⟨b, rfl⟩
theorem rawK_cases (xs : List Int) : (∃ b, M.rawK xs = (b, 0)) ∨ M.rawK xs = ([], 5) := by
  unfold M.rawK; cases M.encK 0 xs with
  | none => exact .inr rfl
  | some b => exact .inl ⟨b, rfl⟩
theorem toldR_app (e mode : Int) (l m : List Int) : M.toldR e mode (l ++ m) = M.toldR e mode l ++ M.toldR e mode m := by unfold M.toldR; rw [List.flatMap_append]
theorem toldR_take (e mode : Int) (l : List Int) (k : Nat) (n : Int) (h : l[k]? = some n) : M.toldR e mode (l.take (k + 1)) = M.toldR e mode (l.take k) ++ (if mode = 0 ∨ M.hasE e n = true then [n] else (M.numE n).map (fun c => (c.toNat : Int))) := by
  rw [List.take_add_one, h, toldR_app]
  simp [M.toldR]
theorem toldR_len (e mode : Int) (l : List Int) (h : ∀ n ∈ l, 0 ≤ n ∧ n ≤ 1114111) : (M.toldR e mode l).length ≤ 10 * l.length := by
  induction l with
  | nil => simp [M.toldR]
  | cons n l ih =>
    have h1 := ih (fun m hm => h m (by simp [hm]))
    have h2 := numE_len n (h n (by simp)).1 (h n (by simp)).2
    have h3 : M.toldR e mode (n :: l) = (if mode = 0 ∨ M.hasE e n = true then [n] else (M.numE n).map (fun c => (c.toNat : Int))) ++ M.toldR e mode l := by simp [M.toldR]
    rw [h3, List.length_append, List.length_cons]
    split
    · simp; omega
    · rw [List.length_map]; omega
theorem toldR_bd (e mode : Int) (l : List Int) (h : ∀ n ∈ l, 0 ≤ n ∧ n ≤ 1114111) : ∀ n ∈ M.toldR e mode l, 0 ≤ n ∧ n ≤ 1114111 := fun n hn => by
  unfold M.toldR at hn
  rw [List.mem_flatMap] at hn
  obtain ⟨m, hm, hn⟩ := hn
  split at hn
  · simp only [List.mem_singleton] at hn; subst hn; exact h _ hm
  · rw [List.mem_map] at hn
    obtain ⟨c, hc, rfl⟩ := hn
    have := c.toNat_lt
    omega
set_option maxHeartbeats 4000000 in
theorem encodeOf_to (e mode : Int) (v : Value) (xs : List Int) (w : World) (hv : IntSl w v xs) (l : List UInt8) (k : Int) (h : M.encE e mode xs = (l, k)) :
    Calls Tryd.prog 31 #[.int .i64 e, .int .i64 mode, v] w fun r w' => r = .returned (.tuple #[.string ⟨l.toArray⟩, .int .i64 k]) ∧ Bel w w' := by
  unfold M.encE at h
  cases hi : M.isEnc e with
  | false =>
    rw [hi, if_pos rfl] at h
    injection h with h1 h2
    subst h1; subst h2
    have HI := Lib.hid hi
    clear hi
    go_enter Tryd.func31, Tryd.ntmps31
    go_wp2_with (go_at_call 23; refine (isEncoding_any _ _).mono ?_; rintro e w' ⟨rfl, rfl⟩; rw [HI.out])
    go_ret2
    exact ⟨rfl, Bel.refl _⟩
  | true =>
    rw [hi, if_neg (by decide)] at h
    have HI := Lib.hid hi
    by_cases hm : mode ≠ 0 ∧ mode ≠ 1
    · rw [if_pos hm] at h
      injection h with h1 h2
      subst h1; subst h2
      have e1 : (mode != 0) = true := by simpa using hm.1
      have e2 : (mode != 1) = true := by simpa using hm.2
      clear hm hi
      go_enter Tryd.func31, Tryd.ntmps31
      go_wp2_with (go_at_call 23; refine (isEncoding_any _ _).mono ?_; rintro e w' ⟨rfl, rfl⟩; rw [HI.out])
      go_ret2
      exact ⟨rfl, Bel.refl _⟩
    · rw [if_neg hm] at h
      have hm2 : mode = 0 ∨ mode = 1 := by omega
      clear hm
      by_cases hp : M.points xs = 0
      · rw [if_neg (by simpa using hp), ← M.toldR_eq e mode xs hi hm2] at h
        have hOut := M.outE_cases e hi
        have hO4 : M.outE e = 4 → e = 4 := fun hh => by unfold M.outE at hh; split at hh <;> omega
        have hO5 : M.outE e = 5 → e = 5 := fun hh => by unfold M.outE at hh; split at hh <;> omega
        have hcs : xs.length ≤ 3000 ∧ ∀ n ∈ xs, M.scalar n = true := by
          unfold M.points at hp
          split at hp
          · cases hp
          · split at hp
            · rename_i h8 h9; exact ⟨by omega, List.all_eq_true.1 h9⟩
            · cases hp
        obtain ⟨hl, hs⟩ := hcs
        have hbd : ∀ n ∈ xs, 0 ≤ n ∧ n ≤ 1114111 := fun n hn => by have h9 := hs n hn; simp only [M.scalar, decide_eq_true_eq] at h9; omega
        have HBD := Lib.hid hbd
        have HW := Lib.hid h
        have HP := Lib.hid hp
        clear hp hs hi h hbd
        obtain ⟨a, ca, rfl, hc1, hc2, hn, hx⟩ := id hv
        unfold maxLen at hc2
        have HX := Lib.hid hx
        have HN := Lib.hid hn
        clear hx hn
        have hx0 := hv
        clear hv
        rcases hm2 with rfl | rfl
        · skip
          go_enter Tryd.func31, Tryd.ntmps31
          go_wp2_with (first | (go_at_call 23; refine (isEncoding_any _ _).mono ?_; rintro e w' ⟨rfl, rfl⟩; rw [HI.out]) | (go_at_call 66; refine (checkPoints_any _ xs _ hx0).mono ?_; rintro e w' ⟨rfl, rfl⟩; rw [HP.out]))
          go_loopw [9, 10] (fun v i wr => ∃ (k : Nat), k ≤ xs.length ∧ i = .int .i64 k ∧ Own w.heap.size 3 wr v ((M.toldR e 0 (xs.take k)).map (Value.int .i64)) ∧ Bel w wr) (fun _ i _ => xs.length - (intOf i).toNat)
          case atStart => exact ⟨0, by omega, rfl, Own.nil _ _ _, Bel.refl _⟩
          case round =>
            obtain ⟨k, hk, rfl, hown, hb⟩ := hrel
            by_cases hlt : k < xs.length
            · obtain ⟨n, hn⟩ : ∃ n, xs[k]? = some n := ⟨_, List.getElem?_eq_getElem hlt⟩
              cases a with
              | none => exfalso; have h3 := hlt; rw [HN.out rfl, List.length_nil] at h3; omega
              | some x =>
                have hcw : w.cell? (x.add k) = some (.int .i64 n) := HX.out x rfl k n hn
                have hcell : wr.cell? (x.add k) = some (.int .i64 n) := (hb.cell (World.block_lt_of_cell? w _ hcw)).trans hcw
                have hbk := World.block_lt_of_cell? wr _ hcell
                have HT := Lib.hid (toldR_take e 0 xs k n hn)
                have hl1 := toldR_len e 0 (xs.take k) (fun m hm => HBD.out m (List.mem_of_mem_take hm))
                rw [List.length_take] at hl1
                have hnb := HBD.out n (List.mem_of_getElem? hn)
                have hBs := hb.size
                clear hcw hn
                by_cases hh : (0 : Int) = 0 ∨ M.hasE e n = true
                · rw [if_pos hh] at HT
                  go_wp2_with (at_builtin; refine wpList_app rfl (.tmp 45) (.tmp 50) 36 rfl elemInt (by decide) w.heap.size _ _ _ rfl rfl hown rfl (by simp; omega) (by first | exact Nat.le_refl _ | assumption | (have := hb.size; omega)) ?_; intro v' w1 hown' hb1)
                  go_roundw
                  case rel => exact ⟨k + 1, by omega, by go_num, by rw [HT.out, List.map_append]; exact hown', hb.upto hb1 (Nat.le_refl _)⟩
                  case measure => simp [intOf]; omega
                · rw [if_neg hh] at HT
                  exfalso
                  exact absurd (.inl rfl) hh
            · obtain rfl : k = xs.length := by omega
              rw [List.take_length] at hown
              have hys := hown.ints
              have hl2 := toldR_len e 0 xs HBD.out
              have HB2 := Lib.hid (toldR_bd e 0 xs HBD.out)
              generalize M.toldR e 0 xs = ys at *
              clear HBD hown
              rcases hOut with h1 | h1 | h1 | h1
              · have HO := Lib.hid h1
                have hw := HW.out
                rw [h1, M.writeE, if_neg (by decide), if_neg (by decide)] at hw
                injection hw with hw1 hw2
                subst hw1; subst hw2
                clear h1
                go_wp2_with (first | (go_at_call 29; refine (outputOf_any _ _).mono ?_; rintro e w' ⟨rfl, rfl⟩; rw [HO.out]) | (go_at_call 68; refine (encodeUtf8_any _ ys _ hys (by omega) HB2.out).mono ?_; rintro e w' ⟨rfl, hb4⟩))
                go_ret2
                exact ⟨rfl, hb.trans hb4⟩
              · have HO := Lib.hid h1
                obtain rfl := hO4 h1
                have hw := HW.out
                rw [h1, M.writeE, if_pos (by decide)] at hw
                have hw : M.rawS false ys = (l, _) := hw
                clear h1 hO4 hO5
                rcases rawS_cases false ys with ⟨bb, hr⟩ | hr
                all_goals
                  rw [hr] at hw
                  injection hw with hw1 hw2
                  subst hw1; subst hw2
                  have HR := Lib.hid hr
                  clear hr
                  go_wp2_with (first | (go_at_call 29; refine (outputOf_any _ _).mono ?_; rintro e w' ⟨rfl, rfl⟩; rw [HO.out]) | (go_at_call 69; refine (encodeSingle_any false _ ys _ hys (by omega)).mono ?_; rintro e w' ⟨rfl, hb4⟩; rw [HR.out]))
                  go_ret2
                  exact ⟨rfl, hb.trans hb4⟩
              · have HO := Lib.hid h1
                obtain rfl := hO5 h1
                have hw := HW.out
                rw [h1, M.writeE, if_pos (by decide)] at hw
                have hw : M.rawS true ys = (l, _) := hw
                clear h1 hO4 hO5
                rcases rawS_cases true ys with ⟨bb, hr⟩ | hr
                all_goals
                  rw [hr] at hw
                  injection hw with hw1 hw2
                  subst hw1; subst hw2
                  have HR := Lib.hid hr
                  clear hr
                  go_wp2_with (first | (go_at_call 29; refine (outputOf_any _ _).mono ?_; rintro e w' ⟨rfl, rfl⟩; rw [HO.out]) | (go_at_call 69; refine (encodeSingle_any true _ ys _ hys (by omega)).mono ?_; rintro e w' ⟨rfl, hb4⟩; rw [HR.out]))
                  go_ret2
                  exact ⟨rfl, hb.trans hb4⟩
              · have HO := Lib.hid h1
                have hw := HW.out
                rw [h1, M.writeE, if_neg (by decide), if_pos rfl] at hw
                clear h1 hO4 hO5
                rcases rawK_cases ys with ⟨bb, hr⟩ | hr
                all_goals
                  rw [hr] at hw
                  injection hw with hw1 hw2
                  subst hw1; subst hw2
                  have HR := Lib.hid hr
                  clear hr
                  go_wp2_with (first | (go_at_call 29; refine (outputOf_any _ _).mono ?_; rintro e w' ⟨rfl, rfl⟩; rw [HO.out]) | (go_at_call 70; refine (encodeKana_any _ ys _ hys (by omega)).mono ?_; rintro e w' ⟨rfl, hb4⟩; rw [HR.out]))
                  go_ret2
                  exact ⟨rfl, hb.trans hb4⟩
        · skip
          go_enter Tryd.func31, Tryd.ntmps31
          go_wp2_with (first | (go_at_call 23; refine (isEncoding_any _ _).mono ?_; rintro e w' ⟨rfl, rfl⟩; rw [HI.out]) | (go_at_call 66; refine (checkPoints_any _ xs _ hx0).mono ?_; rintro e w' ⟨rfl, rfl⟩; rw [HP.out]))
          go_loopw [9, 10] (fun v i wr => ∃ (k : Nat), k ≤ xs.length ∧ i = .int .i64 k ∧ Own w.heap.size 3 wr v ((M.toldR e 1 (xs.take k)).map (Value.int .i64)) ∧ Bel w wr) (fun _ i _ => xs.length - (intOf i).toNat)
          case atStart => exact ⟨0, by omega, rfl, Own.nil _ _ _, Bel.refl _⟩
          case round =>
            obtain ⟨k, hk, rfl, hown, hb⟩ := hrel
            by_cases hlt : k < xs.length
            · obtain ⟨n, hn⟩ : ∃ n, xs[k]? = some n := ⟨_, List.getElem?_eq_getElem hlt⟩
              cases a with
              | none => exfalso; have h3 := hlt; rw [HN.out rfl, List.length_nil] at h3; omega
              | some x =>
                have hcw : w.cell? (x.add k) = some (.int .i64 n) := HX.out x rfl k n hn
                have hcell : wr.cell? (x.add k) = some (.int .i64 n) := (hb.cell (World.block_lt_of_cell? w _ hcw)).trans hcw
                have hbk := World.block_lt_of_cell? wr _ hcell
                have HT := Lib.hid (toldR_take e 1 xs k n hn)
                have hl1 := toldR_len e 1 (xs.take k) (fun m hm => HBD.out m (List.mem_of_mem_take hm))
                rw [List.length_take] at hl1
                have hnb := HBD.out n (List.mem_of_getElem? hn)
                have hBs := hb.size
                clear hcw hn
                by_cases hh : (1 : Int) = 0 ∨ M.hasE e n = true
                · rw [if_pos hh] at HT
                  have HH := Lib.hid (show M.hasE e n = true from hh.resolve_left (by decide))
                  clear hh
                  go_wp2_with (first | (go_at_call 33; refine (hasOf_any e n _).mono ?_; rintro e w' ⟨rfl, b1⟩; rw [HH.out]; have hown1 := hown.bel b1; have hcell1 := (b1.cell hbk).trans hcell; have hB1 := b1.size) | (at_builtin; refine wpList_app rfl (.tmp 45) (.tmp 50) 36 rfl elemInt (by decide) w.heap.size _ _ _ rfl rfl hown1 rfl (by simp; omega) (by first | exact Nat.le_refl _ | assumption | (have := hb.size; omega)) ?_; intro v' w1 hown' hb1))
                  go_roundw
                  case rel => exact ⟨k + 1, by omega, by go_num, by rw [HT.out, List.map_append]; exact hown', (hb.trans b1).upto hb1 (Nat.le_refl _)⟩
                  case measure => simp [intOf]; omega
                · rw [if_neg hh] at HT
                  have HH := Lib.hid (show M.hasE e n = false by cases hq : M.hasE e n with | true => exact absurd (.inr hq) hh | false => rfl)
                  clear hh
                  obtain ⟨u, rfl⟩ := Int.eq_ofNat_of_zero_le hnb.1
                  have hne := numE_len u hnb.1 hnb.2
                  have hdl := dec_len 6 u (by omega)
                  have hit : Lib.itoa (u : Int) = Lib.decDigits u := by rw [Lib.itoa, if_neg (by omega)]; rfl
                  have HZ := Lib.hid (show ((⟨#[38, 35]⟩ : ByteArray) ++ ⟨(Lib.decDigits u).toArray⟩ ++ ⟨#[59]⟩ : ByteArray).data.toList = M.numE u by simp [M.numE, hit])
                  have hzs : ((⟨#[38, 35]⟩ : ByteArray) ++ ⟨(Lib.decDigits u).toArray⟩ ++ ⟨#[59]⟩ : ByteArray).size = (M.numE u).length := by rw [Lib.size_eq, HZ.out]
                  clear hit
                  go_wp2_with (first | (go_at_call 33; refine (hasOf_any e u _).mono ?_; rintro e w' ⟨rfl, b1⟩; rw [HH.out]; have hown1 := hown.bel b1; have hcell1 := (b1.cell hbk).trans hcell) | (go_at_call 67; refine (digits_any u (by omega) _).mono ?_; rintro e w' ⟨rfl, b2⟩))
                  generalize hzz : ((⟨#[38, 35]⟩ : ByteArray) ++ ⟨(Lib.decDigits u).toArray⟩ ++ ⟨#[59]⟩ : ByteArray) = z at *
                  have hown2 := hown1.bel b2
                  have hbq := (hb.trans b1).trans b2
                  clear hzz hown hown1 hcell hcell1
                  go_loopw [9, 12] (fun v i wq => ∃ (j : Nat), j ≤ z.size ∧ i = .int .i64 j ∧ Own w.heap.size 3 wq v ((M.toldR e 1 (xs.take k) ++ ((M.numE u).take j).map (fun c => (c.toNat : Int))).map (Value.int .i64)) ∧ Bel w wq) (fun _ i _ => z.size - (intOf i).toNat)
                  case atStart => exact ⟨0, by omega, rfl, by simpa using hown2, hbq⟩
                  case round =>
                    clear hown2 hbq
                    obtain ⟨j, hj, rfl, hown, hbq⟩ := hrel
                    by_cases hjl : j < z.size
                    · have hzj : (M.numE u)[j]? = some z[j] := by rw [← HZ.out]; exact byte_at z j hjl
                      have hcl : z[j].toNat < 256 := z[j].toNat_lt
                      have hBq := hbq.size
                      have htl := List.length_take_le j (M.numE u)
                      have HTJ := Lib.hid (show (M.toldR e 1 (xs.take k) ++ ((M.numE u).take (j + 1)).map (fun c => (c.toNat : Int))).map (Value.int .i64) = (M.toldR e 1 (xs.take k) ++ ((M.numE u).take j).map (fun c => (c.toNat : Int))).map (Value.int .i64) ++ [.int .i64 (z[j].toNat : Int)] by
                        rw [List.take_add_one, hzj]; simp)
                      clear hzj
                      go_wp2_with (at_builtin; refine wpList_app rfl (.tmp 65) (.tmp 70) 36 rfl elemInt (by decide) w.heap.size _ _ _ rfl rfl hown rfl (by simp; omega) (by first | exact Nat.le_refl _ | assumption | (have := hb.size; omega)) ?_; intro v' w1 hown' hb1)
                      go_roundw
                      case rel => exact ⟨j + 1, by omega, by go_num, by rw [HTJ.out]; exact hown', hbq.upto hb1 (Nat.le_refl _)⟩
                      case measure => simp [intOf]; omega
                    · obtain rfl : j = z.size := by omega
                      have e1 : (M.numE u).take z.size = M.numE u := by rw [hzs, List.take_length]
                      rw [e1] at hown
                      have HT2 := Lib.hid (show (M.toldR e 1 (xs.take (k + 1))).map (Value.int .i64) = (M.toldR e 1 (xs.take k) ++ (M.numE u).map (fun c => (c.toNat : Int))).map (Value.int .i64) by rw [HT.out])
                      go_wp2_with fail
                      go_roundw
                      case rel => exact ⟨k + 1, by omega, by go_num, by rw [HT2.out]; exact hown, hbq⟩
                      case measure => simp [intOf]; omega
            · obtain rfl : k = xs.length := by omega
              rw [List.take_length] at hown
              have hys := hown.ints
              have hl2 := toldR_len e 1 xs HBD.out
              have HB2 := Lib.hid (toldR_bd e 1 xs HBD.out)
              generalize M.toldR e 1 xs = ys at *
              clear HBD hown
              rcases hOut with h1 | h1 | h1 | h1
              · have HO := Lib.hid h1
                have hw := HW.out
                rw [h1, M.writeE, if_neg (by decide), if_neg (by decide)] at hw
                injection hw with hw1 hw2
                subst hw1; subst hw2
                clear h1
                go_wp2_with (first | (go_at_call 29; refine (outputOf_any _ _).mono ?_; rintro e w' ⟨rfl, rfl⟩; rw [HO.out]) | (go_at_call 68; refine (encodeUtf8_any _ ys _ hys (by omega) HB2.out).mono ?_; rintro e w' ⟨rfl, hb4⟩))
                go_ret2
                exact ⟨rfl, hb.trans hb4⟩
              · have HO := Lib.hid h1
                obtain rfl := hO4 h1
                have hw := HW.out
                rw [h1, M.writeE, if_pos (by decide)] at hw
                have hw : M.rawS false ys = (l, _) := hw
                clear h1 hO4 hO5
                rcases rawS_cases false ys with ⟨bb, hr⟩ | hr
                all_goals
                  rw [hr] at hw
                  injection hw with hw1 hw2
                  subst hw1; subst hw2
                  have HR := Lib.hid hr
                  clear hr
                  go_wp2_with (first | (go_at_call 29; refine (outputOf_any _ _).mono ?_; rintro e w' ⟨rfl, rfl⟩; rw [HO.out]) | (go_at_call 69; refine (encodeSingle_any false _ ys _ hys (by omega)).mono ?_; rintro e w' ⟨rfl, hb4⟩; rw [HR.out]))
                  go_ret2
                  exact ⟨rfl, hb.trans hb4⟩
              · have HO := Lib.hid h1
                obtain rfl := hO5 h1
                have hw := HW.out
                rw [h1, M.writeE, if_pos (by decide)] at hw
                have hw : M.rawS true ys = (l, _) := hw
                clear h1 hO4 hO5
                rcases rawS_cases true ys with ⟨bb, hr⟩ | hr
                all_goals
                  rw [hr] at hw
                  injection hw with hw1 hw2
                  subst hw1; subst hw2
                  have HR := Lib.hid hr
                  clear hr
                  go_wp2_with (first | (go_at_call 29; refine (outputOf_any _ _).mono ?_; rintro e w' ⟨rfl, rfl⟩; rw [HO.out]) | (go_at_call 69; refine (encodeSingle_any true _ ys _ hys (by omega)).mono ?_; rintro e w' ⟨rfl, hb4⟩; rw [HR.out]))
                  go_ret2
                  exact ⟨rfl, hb.trans hb4⟩
              · have HO := Lib.hid h1
                have hw := HW.out
                rw [h1, M.writeE, if_neg (by decide), if_pos rfl] at hw
                clear h1 hO4 hO5
                rcases rawK_cases ys with ⟨bb, hr⟩ | hr
                all_goals
                  rw [hr] at hw
                  injection hw with hw1 hw2
                  subst hw1; subst hw2
                  have HR := Lib.hid hr
                  clear hr
                  go_wp2_with (first | (go_at_call 29; refine (outputOf_any _ _).mono ?_; rintro e w' ⟨rfl, rfl⟩; rw [HO.out]) | (go_at_call 70; refine (encodeKana_any _ ys _ hys (by omega)).mono ?_; rintro e w' ⟨rfl, hb4⟩; rw [HR.out]))
                  go_ret2
                  exact ⟨rfl, hb.trans hb4⟩
      · rw [if_pos (by simpa using hp)] at h
        injection h with h1 h2
        have hk : (k != 0) = true := by rw [← h2]; simpa using hp
        subst h1
        have HP := Lib.hid h2
        clear h2 hp hi
        rcases hm2 with rfl | rfl
        all_goals
          go_enter Tryd.func31, Tryd.ntmps31
          go_wp2_with (first | (go_at_call 23; refine (isEncoding_any _ _).mono ?_; rintro e w' ⟨rfl, rfl⟩; rw [HI.out]) | (go_at_call 66; refine (checkPoints_any v xs _ hv).mono ?_; rintro e w' ⟨rfl, rfl⟩; rw [HP.out]))
          go_ret2
          exact ⟨rfl, Bel.refl _⟩
end Go.Proofs.YtbddfefcgfenfaaDoor

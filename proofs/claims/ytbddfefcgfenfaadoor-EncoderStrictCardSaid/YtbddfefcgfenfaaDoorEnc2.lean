/-
  Package encoder: told, write, Encode.
-/
import Derived.Test.YtbddfefcgfenfaaDoorEnc
namespace Go.Proofs.YtbddfefcgfenfaaDoor
open Go.RowKit
set_option maxRecDepth 1000000

theorem cell_of_heap {w w' : World} {g : Nat} (h : w'.heap[g]? = w.heap[g]?) (o : Nat) : w'.cell? ⟨g, o, none⟩ = w.cell? ⟨g, o, none⟩ := by
  simp only [World.cell?, h]
/-- What 'put' does: the list grows by one; nothing else is turned. -/
structure Put (w w' : World) (g B : Nat) (v v' : Value) (xs : List Value) : Prop where
  box : Box w' g 36 [v']
  own : Own B 3 w' v' xs
  bel : Below g w w'
  keep : ∀ k, v.ownBlock ≠ some k → k < w.heap.size → k ≠ g → w'.heap[k]? = w.heap[k]?
  lies : ∀ k, v'.ownBlock = some k → v.ownBlock = some k ∨ w.heap.size ≤ k
theorem told1_any (n : Int) (g B : Nat) (v : Value) (xs : List Value) (w : World) (hbox : Box w g 36 [v]) (hown : Own B 3 w v xs) (hg : g < B) (hB : B ≤ w.heap.size) (hlen : xs.length < 68719476735) :
    Calls Tryd.prog 96 #[.int .i64 n, .pointer (some ⟨g, 0, none⟩)] w fun e w' => e = .returned (.tuple #[]) ∧ ∃ v', Put w w' g B v v' (xs ++ [.int .i64 n]) := by
  have hc0 := hbox.cell 0 _ rfl
  have hno : ∀ k, v.ownBlock = some k → B ≤ k := fun k hk => (hown.lt k hk).1
  have hgs : g < w.heap.size := hbox.lt
  go_enter Tryd.func96, Tryd.ntmps96
  go_wp2_with (at_builtin; refine wpList_appM (.tmp 3) (.tmp 5) 36 rfl elemInt (by decide) B v xs (.int .i64 n) hown rfl (by omega) hB rfl rfl rfl ?_; intro v' w1 hown' hb1 hk1 hl1; obtain ⟨A', c', rfl, _, _, _, _⟩ := hown'.form; simp only [List.length_append, List.length_singleton] at hown' hl1; have hbx := Box.keep hbox (hk1 g (fun h => by have := hno g h; omega) hgs); have hc1 := hbx.cell 0 _ rfl; have hf1 := hbx.frozen 0)
  go_end0
  refine ⟨rfl, _, hbx.set0, hown'.setCell hg _, ?_, ?_, hl1⟩
  · exact Below.setCell (Below.mono hb1 (by omega : g ≤ B)) (Nat.le_refl _) _
  · intro k h1 h2 h3
    rw [← hk1 k h1 h2]
    exact Below.heap_setCell w1 _ _ k h3
theorem toldE_take (e : Int) (l : List Int) (k : Nat) (n : Int) (h : l[k]? = some n) : M.toldE e (l.take (k + 1)) = M.toldE e (l.take k) ++ (if M.hasE e n = true then [n] else (M.numE n).map (fun c => (c.toNat : Int))) := by
  rw [List.take_add_one, h, M.toldE_app]
  simp [M.toldE]
theorem toldE_len (e : Int) (l : List Int) (h : ∀ n ∈ l, 0 ≤ n ∧ n ≤ 1114111) : (M.toldE e l).length ≤ 10 * l.length := by
  induction l with
  | nil => simp [M.toldE]
  | cons n l ih =>
    have h1 := ih (fun m hm => h m (by simp [hm]))
    have h2 := numE_len n (h n (by simp)).1 (h n (by simp)).2
    have h3 : M.toldE e (n :: l) = (if M.hasE e n = true then [n] else (M.numE n).map (fun c => (c.toNat : Int))) ++ M.toldE e l := by simp [M.toldE]
    rw [h3, List.length_append, List.length_cons]
    split
    · simp; omega
    · rw [List.length_map]; omega
def vint : Int → Value := Value.int .i64
theorem told_any (e : Int) (v : Value) (xs : List Int) (w : World) (hv : IntSl w v xs) (htab : Tab w) (hlen : xs.length ≤ 3000) (hbd : ∀ n ∈ xs, 0 ≤ n ∧ n ≤ 1114111) :
    Calls Tryd.prog 64 #[.int .i64 e, v] w fun r w' => ∃ v', r = .returned v' ∧ IntSl w' v' (M.toldE e xs) ∧ Bel w w' := by
  obtain ⟨a, ca, rfl, hc1, hc2, hn, hx⟩ := hv
  unfold maxLen at hc2
  have HX := Lib.hid hx
  have HN := Lib.hid hn
  clear hx hn
  have hbox0 := Box.new w 36 [.slice none 0 0]
  go_enter Tryd.func64, Tryd.ntmps64
  go_wp2_with fail
  go_loopw [14] (fun i wr => ∃ (k : Nat) (v : Value), k ≤ xs.length ∧ i = .int .i64 k ∧ Box wr w.heap.size 36 [v] ∧ Own (w.heap.size + 1) 3 wr v ((M.toldE e (xs.take k)).map (Value.int .i64)) ∧ Bel w wr) (fun i _ => xs.length - (intOf i).toNat)
  case atStart => exact ⟨0, _, by omega, rfl, hbox0, Own.nil _ _ _, (Bel.refl w).alloc _⟩
  case round =>
    obtain ⟨k, v, hk, rfl, hbox, hown, hb⟩ := hrel
    by_cases hlt : k < xs.length
    · obtain ⟨n, hn⟩ : ∃ n, xs[k]? = some n := ⟨_, List.getElem?_eq_getElem hlt⟩
      cases a with
      | none => exfalso; have h3 := hlt; rw [HN.out rfl, List.length_nil] at h3; omega
      | some x =>
        have hcw : w.cell? (x.add k) = some (.int .i64 n) := HX.out x rfl k n hn
        have hcell : wr.cell? (x.add k) = some (.int .i64 n) := (hb.cell (World.block_lt_of_cell? w _ hcw)).trans hcw
        have HT := Lib.hid (toldE_take e xs k n hn)
        have hl1 := toldE_len e (xs.take k) (fun m hm => hbd m (List.mem_of_mem_take hm))
        rw [List.length_take] at hl1
        have hnb := hbd n (List.mem_of_getElem? hn)
        have hgs := hbox.lt
        clear hcw hbox0 hn
        cases hh : M.hasE e n with
        | true =>
          rw [hh, if_pos rfl] at HT
          have HH := Lib.hid hh
          clear hh
          go_wp2_with (first | (go_at_call 62; refine (has_any _ _ _).mono ?_; rintro e w' ⟨rfl, b1⟩; rw [HH.out]; have hbox1 := hbox.bel b1; have hown1 := hown.bel b1; have hb1 := b1.size) | (go_at_call 96; refine (told1_any n w.heap.size (w.heap.size + 1) _ _ _ hbox1 hown1 (by omega) (by omega) (by rw [List.length_map]; omega)).mono ?_; rintro e w2 ⟨rfl, v', PT⟩))
          go_roundw
          case rel => exact ⟨k + 1, v', by omega, by go_num, PT.box, by rw [HT.out, List.map_append]; exact PT.own, (hb.trans b1).upto PT.bel (Nat.le_refl _)⟩
          case measure => simp [intOf]; omega
        | false =>
          rw [hh, if_neg (by decide)] at HT
          have HH := Lib.hid hh
          clear hh
          have hne := numE_len n hnb.1 hnb.2
          have hil := itoa_len n hnb.1 hnb.2
          have HZ := Lib.hid (show ((⟨#[38, 35]⟩ : ByteArray) ++ ⟨(Lib.itoa n).toArray⟩ ++ ⟨#[59]⟩ : ByteArray).data.toList = M.numE n by simp [M.numE])
          have hzs : ((⟨#[38, 35]⟩ : ByteArray) ++ ⟨(Lib.itoa n).toArray⟩ ++ ⟨#[59]⟩ : ByteArray).size = (M.numE n).length := by rw [Lib.size_eq, HZ.out]
          go_wp2_with (first | (go_at_call 62; refine (has_any _ _ _).mono ?_; rintro e w' ⟨rfl, b1⟩; rw [HH.out]; have hbox1 := hbox.bel b1; have hown1 := hown.bel b1; have hb1 := b1.size) | (go_at_call 97; refine (itoa_bel n (by omega) (by omega) _ (htab.bel (hb.trans b1))).mono ?_; rintro e w' ⟨rfl, b2⟩) | ((with_reducible show wpList _ _ _ _ _ _); refine wpList_toBytes rfl (.tmp 27) _ _ 5 rfl Tryd.underlying9 Tryd.underlying34 Tryd.underlying5 ((⟨#[38, 35]⟩ : ByteArray) ++ ⟨(Lib.itoa n).toArray⟩ ++ ⟨#[59]⟩ : ByteArray) rfl (by omega) ?_; intro cb w3 hb3 hg3 hcb1 hcb2 hcellb hfrz))
          have hbox3 := (hbox1.bel b2).bel hb3
          have hown3 := (hown1.bel b2).bel hb3
          have hbw3 := ((hb.trans b1).trans b2).trans hb3
          have hcl : ∀ (j : Nat) c, (M.numE n)[j]? = some c → w3.cell? ⟨w'.heap.size, j, none⟩ = some (.int .u8 (c.toNat : Int)) := fun j c hj => hcellb j c (by rw [HZ.out]; exact hj)
          have hs2 := b2.size
          have hown2 := fun j hj => ((hown1.bel b2).lt j hj).2
          have HCL := Lib.hid hcl
          generalize hzz : ((⟨#[38, 35]⟩ : ByteArray) ++ ⟨(Lib.itoa n).toArray⟩ ++ ⟨#[59]⟩ : ByteArray) = z at *
          clear hcellb hfrz hcl hzz hbox hbox1 hown hown1 HX HN hcell
          have hgG : w.heap.size < w'.heap.size := by omega
          have hnoG : ∀ kk, v.ownBlock = some kk → kk ≠ w'.heap.size := fun kk hkk => by have := hown2 kk hkk; omega
          go_loopw [30] (fun i wq => ∃ (j : Nat) (v : Value), j ≤ z.size ∧ i = .int .i64 j ∧ Box wq w.heap.size 36 [v] ∧ Own (w.heap.size + 1) 3 wq v ((M.toldE e (xs.take k) ++ ((M.numE n).take j).map (fun c => (c.toNat : Int))).map (Value.int .i64)) ∧ (∀ kk, v.ownBlock = some kk → kk ≠ w'.heap.size) ∧ Bel w wq ∧ w'.heap.size < wq.heap.size ∧ Hid (∀ (j : Nat) c, (M.numE n)[j]? = some c → wq.cell? ⟨w'.heap.size, j, none⟩ = some (.int .u8 (c.toNat : Int)))) (fun i _ => z.size - (intOf i).toNat)
          case atStart => exact ⟨0, v, by omega, rfl, hbox3, by simpa using hown3, hnoG, hbw3, hg3, HCL⟩
          case round =>
            clear hbox3 hown3 hnoG hbw3 hg3 HCL hown2
            obtain ⟨j, v, hj, rfl, hbox, hown, hno, hbq, hgq, HC⟩ := hrel
            by_cases hjl : j < z.size
            · obtain ⟨c, hc⟩ : ∃ c, (M.numE n)[j]? = some c := ⟨_, List.getElem?_eq_getElem (by omega)⟩
              have hcell := HC.out j c hc
              have hgs := hbox.lt
              have hcl : c.toNat < 256 := c.toNat_lt
              have HTJ := Lib.hid (show (M.toldE e (xs.take k) ++ ((M.numE n).take (j + 1)).map (fun c => (c.toNat : Int))).map (Value.int .i64) = (M.toldE e (xs.take k) ++ ((M.numE n).take j).map (fun c => (c.toNat : Int))).map (Value.int .i64) ++ [.int .i64 (c.toNat : Int)] by
                rw [List.take_add_one, hc]; simp)
              clear hc
              go_wp2_with (go_at_call 96; refine (told1_any (c.toNat : Int) w.heap.size (w.heap.size + 1) _ _ _ hbox hown (by omega) (by omega) (by rw [List.length_map, List.length_append, List.length_map]; have := List.length_take_le j (M.numE n); omega)).mono ?_; rintro e w2 ⟨rfl, v', PT⟩)
              go_roundw
              case rel =>
                refine ⟨j + 1, v', by omega, by go_num, PT.box, by rw [HTJ.out]; exact PT.own, fun kk hkk => ?_, hbq.upto PT.bel (Nat.le_refl _), by have := PT.bel.size; omega, Lib.hid (fun jj cc hcc => ?_)⟩
                · rcases PT.lies kk hkk with h9 | h9
                  · exact hno kk h9
                  · omega
                · rw [cell_of_heap (PT.keep w'.heap.size (fun h9 => hno _ h9 rfl) hgq (by omega))]
                  exact HC.out jj cc hcc
              case measure => simp [intOf]; omega
            · obtain rfl : j = z.size := by omega
              have e1 : (M.numE n).take z.size = M.numE n := by rw [hzs, List.take_length]
              rw [e1] at hown
              have HT2 := Lib.hid (show (M.toldE e (xs.take (k + 1))).map (Value.int .i64) = (M.toldE e (xs.take k) ++ (M.numE n).map (fun c => (c.toNat : Int))).map (Value.int .i64) by rw [HT.out])
              go_wp2_with fail
              go_roundw
              case rel => exact ⟨k + 1, v, by omega, by go_num, hbox, by rw [HT2.out]; exact hown, hbq⟩
              case measure => simp [intOf]; omega
    · obtain rfl : k = xs.length := by omega
      rw [List.take_length] at hown
      have hc0 := hbox.cell 0 _ rfl
      go_wp2_with fail
      go_ret
      exact ⟨_, rfl, hown.ints, hb⟩
theorem write_any (e : Int) (v : Value) (xs : List Int) (w : World) (hv : IntSl w v xs) (hlen : xs.length ≤ 1000000) (hbd : ∀ n ∈ xs, 0 ≤ n ∧ n ≤ 1114111) (l : List UInt8) (k : Int) (h : M.writeE e xs = (l, k)) :
    Calls Tryd.prog 65 #[.int .i64 e, v] w fun r w' => r = .returned (.tuple #[.string ⟨l.toArray⟩, .int .i64 k]) ∧ Bel w w' := by
  have hb2 : ∀ n ∈ xs, -9223372036854775808 ≤ n ∧ n ≤ 9223372036854775807 := fun n hn => by have := hbd n hn; omega
  have HB := Lib.hid hbd
  have HB2 := Lib.hid hb2
  clear hbd hb2
  unfold M.writeE at h
  by_cases h4 : e = 4
  · subst h4
    rw [if_pos (.inl rfl)] at h
    have h1 : (M.rawS false xs).1 = l := congrArg Prod.fst h
    have h2 : (M.rawS false xs).2 = k := congrArg Prod.snd h
    have H1 := Lib.hid h1
    have H2 := Lib.hid h2
    clear h h1 h2
    go_enter Tryd.func65, Tryd.ntmps65
    go_wp2_with (go_at_call 98; refine (raw_any false v xs _ hv hlen HB2.out).mono ?_; rintro e w' ⟨rfl, hb⟩; rw [H1.out, H2.out])
    go_ret2
    exact ⟨rfl, hb⟩
  · by_cases h5 : e = 5
    · subst h5
      rw [if_pos (.inr rfl)] at h
      have h1 : (M.rawS true xs).1 = l := congrArg Prod.fst h
      have h2 : (M.rawS true xs).2 = k := congrArg Prod.snd h
      have H1 := Lib.hid h1
      have H2 := Lib.hid h2
      clear h h1 h2
      go_enter Tryd.func65, Tryd.ntmps65
      go_wp2_with (go_at_call 98; refine (raw_any true v xs _ hv hlen HB2.out).mono ?_; rintro e w' ⟨rfl, hb⟩; rw [H1.out, H2.out])
      go_ret2
      exact ⟨rfl, hb⟩
    · have e1 : (e == 4) = false := by simpa using h4
      have e2 : (e == 5) = false := by simpa using h5
      rw [if_neg (by omega)] at h
      by_cases h6 : e = 6
      · subst h6
        rw [if_pos rfl] at h
        have h1 : (M.rawK xs).1 = l := congrArg Prod.fst h
        have h2 : (M.rawK xs).2 = k := congrArg Prod.snd h
        have H1 := Lib.hid h1
        have H2 := Lib.hid h2
        clear h h1 h2
        go_enter Tryd.func65, Tryd.ntmps65
        go_wp2_with (go_at_call 99; refine (rawK_any v xs _ hv hlen).mono ?_; rintro e w' ⟨rfl, hb⟩; rw [H1.out, H2.out])
        go_ret2
        exact ⟨rfl, hb⟩
      · have e3 : (e == 6) = false := by simpa using h6
        rw [if_neg h6] at h
        injection h with h1 h2
        subst h2
        have H1 := Lib.hid h1
        clear h1
        go_enter Tryd.func65, Tryd.ntmps65
        go_wp2_with (go_at_call 100; refine (bytes8_any v xs _ hv hlen HB.out).mono ?_; rintro e w' ⟨rfl, hb⟩; rw [H1.out])
        go_ret2
        exact ⟨rfl, hb⟩
theorem enc_to (e mode : Int) (v : Value) (xs : List Int) (w : World) (hv : IntSl w v xs) (htab : Tab w) (l : List UInt8) (k : Int) (h : M.encE e mode xs = (l, k)) :
    Calls Tryd.prog 28 #[.int .i64 e, .int .i64 mode, v] w fun r w' => r = .returned (.tuple #[.string ⟨l.toArray⟩, .int .i64 k]) ∧ Bel w w' := by
  unfold M.encE at h
  cases hi : M.isEnc e with
  | false =>
    rw [hi, if_pos rfl] at h
    injection h with h1 h2
    subst h1; subst h2
    have HI := Lib.hid hi
    clear hi
    go_enter Tryd.func28, Tryd.ntmps28
    go_wp2_with (go_at_call 56; refine (isEnc_any _ _).mono ?_; rintro e w' ⟨rfl, rfl⟩; rw [HI.out])
    go_ret2
    exact ⟨rfl, Bel.refl _⟩
  | true =>
    rw [hi, if_neg (by decide)] at h
    have HI := Lib.hid hi
    clear hi
    by_cases hm : mode ≠ 0 ∧ mode ≠ 1
    · rw [if_pos hm] at h
      injection h with h1 h2
      subst h1; subst h2
      have e1 : (mode != 0) = true := by simpa using hm.1
      have e2 : (mode != 1) = true := by simpa using hm.2
      clear hm
      go_enter Tryd.func28, Tryd.ntmps28
      go_wp2_with (go_at_call 56; refine (isEnc_any _ _).mono ?_; rintro e w' ⟨rfl, rfl⟩; rw [HI.out])
      go_ret2
      exact ⟨rfl, Bel.refl _⟩
    · rw [if_neg hm] at h
      have hm2 : mode = 0 ∨ mode = 1 := by omega
      clear hm
      by_cases hp : M.points xs = 0
      · rw [if_neg (by simpa using hp)] at h
        obtain ⟨hl, hs⟩ := points_scalars xs hp
        have hbd : ∀ n ∈ xs, 0 ≤ n ∧ n ≤ 1114111 := fun n hn => by have := scalar_bounds n (hs n hn); omega
        have HP := Lib.hid hp
        clear hp hs
        rcases hm2 with rfl | rfl
        · rw [if_neg (by decide)] at h
          have HW := Lib.hid h
          clear h
          go_enter Tryd.func28, Tryd.ntmps28
          go_wp2_with (first | (go_at_call 56; refine (isEnc_any _ _).mono ?_; rintro e w' ⟨rfl, rfl⟩; rw [HI.out]) | (go_at_call 63; refine (points_any v xs _ hv).mono ?_; rintro e w' ⟨rfl, rfl⟩; rw [HP.out]) | (go_at_call 60; refine (out_any _ _).mono ?_; rintro e w' ⟨rfl, rfl⟩) | (go_at_call 65; refine (write_any _ v xs _ hv (by omega) hbd l k HW.out).mono ?_; rintro e w' ⟨rfl, hb⟩))
          go_ret2
          exact ⟨rfl, hb⟩
        · rw [if_pos rfl] at h
          have HW := Lib.hid h
          have hl2 := toldE_len (M.outE e) xs hbd
          have hbd2 : ∀ n ∈ M.toldE (M.outE e) xs, 0 ≤ n ∧ n ≤ 1114111 := fun n hn => by
            unfold M.toldE at hn
            rw [List.mem_flatMap] at hn
            obtain ⟨m, hm, hn⟩ := hn
            split at hn
            · simp only [List.mem_singleton] at hn; subst hn; exact hbd _ hm
            · rw [List.mem_map] at hn
              obtain ⟨c, hc, rfl⟩ := hn
              have := c.toNat_lt
              omega
          have HB2 := Lib.hid hbd2
          have HB := Lib.hid hbd
          clear h hbd hbd2
          go_enter Tryd.func28, Tryd.ntmps28
          go_wp2_with (first | (go_at_call 56; refine (isEnc_any _ _).mono ?_; rintro e w' ⟨rfl, rfl⟩; rw [HI.out]) | (go_at_call 63; refine (points_any v xs _ hv).mono ?_; rintro e w' ⟨rfl, rfl⟩; rw [HP.out]) | (go_at_call 60; refine (out_any _ _).mono ?_; rintro e w' ⟨rfl, rfl⟩) | (go_at_call 64; refine (told_any (M.outE e) v xs _ hv htab hl HB.out).mono ?_; rintro r wt ⟨vt, rfl, hvt, bt⟩) | (go_at_call 65; refine (write_any _ vt _ _ hvt (by omega) HB2.out l k HW.out).mono ?_; rintro e w' ⟨rfl, hb⟩))
          go_ret2
          exact ⟨rfl, bt.trans hb⟩
      · rw [if_pos (by simpa using hp)] at h
        injection h with h1 h2
        have hk : (k != 0) = true := by rw [← h2]; simpa using hp
        subst h1
        have HP := Lib.hid h2
        clear h2 hp
        rcases hm2 with rfl | rfl
        all_goals
          go_enter Tryd.func28, Tryd.ntmps28
          go_wp2_with (first | (go_at_call 56; refine (isEnc_any _ _).mono ?_; rintro e w' ⟨rfl, rfl⟩; rw [HI.out]) | (go_at_call 63; refine (points_any v xs _ hv).mono ?_; rintro e w' ⟨rfl, rfl⟩; rw [HP.out]))
          go_ret2
          exact ⟨rfl, Bel.refl _⟩
end Go.Proofs.YtbddfefcgfenfaaDoor

/-
  Texts of the proof, laid together: Enc2, Text2, PlainBegun, RKana2, REnc, LawEnc, LawKit, Stream5, LawStream. No condition of its own.
-/
import Derived.Test.YteingkjdemlhgaaGreatDoorG9
import Derived.Test.YteingkjdemlhgaaGreatDoorG6
import Derived.Test.YteingkjdemlhgaaGreatDoorG2
import Derived.KernelRfl
import Derived.Test.YteingkjdemlhgaaGreatDoorG8
import Derived.Test.YteingkjdemlhgaaGreatDoorG3
import Derived.Test.YteingkjdemlhgaaGreatDoorG4

/-
  Package encoder: told, write, Encode.
-/
namespace Go.Proofs.YteingkjdemlhgaaGreatDoor
open Go.RowKit
set_option maxRecDepth 1000000
theorem cell_of_heap {w w' : World} {g : Nat} (h : w'.heap[g]? = w.heap[g]?) (o : Nat) : w'.cell? ⟨g, o, none⟩ = w.cell? ⟨g, o, none⟩ := by
  simp only [World.cell?, h]
/-- What 'put' does: the list grows by one; nothing else is turned. -/
structure Put (w w' : World) (g B : Nat) (v v' : Value) (xs : List Value) : Prop where
  box : Box w' g 30 [v']
  own : Own B 3 w' v' xs
  bel : Below g w w'
  keep : ∀ k, v.ownBlock ≠ some k → k < w.heap.size → k ≠ g → w'.heap[k]? = w.heap[k]?
  lies : ∀ k, v'.ownBlock = some k → v.ownBlock = some k ∨ w.heap.size ≤ k
theorem told1_any (n : Int) (g B : Nat) (v : Value) (xs : List Value) (w : World) (hbox : Box w g 30 [v]) (hown : Own B 3 w v xs) (hg : g < B) (hB : B ≤ w.heap.size) (hlen : xs.length < 68719476735) :
    Calls Tryz.prog 87 #[.int .i64 n, .pointer (some ⟨g, 0, none⟩)] w fun e w' => e = .returned (.tuple #[]) ∧ ∃ v', Put w w' g B v v' (xs ++ [.int .i64 n]) := by
  have hc0 := hbox.cell 0 _ rfl
  have hno : ∀ k, v.ownBlock = some k → B ≤ k := fun k hk => (hown.lt k hk).1
  have hgs : g < w.heap.size := hbox.lt
  go_enter Tryz.func87, Tryz.ntmps87
  go_wp2_with (at_builtin; refine wpList_appM (.tmp 3) (.tmp 5) 30 rfl elemInt (by decide) B v xs (.int .i64 n) hown rfl (by omega) hB rfl rfl rfl ?_; intro v' w1 hown' hb1 hk1 hl1; obtain ⟨A', c', rfl, _, _, _, _⟩ := hown'.form; simp only [List.length_append, List.length_singleton] at hown' hl1; have hbx := Box.keep hbox (hk1 g (fun h => by have := hno g h; omega) hgs); have hc1 := hbx.cell 0 _ rfl; have hf1 := hbx.frozen 0)
  go_end0
  refine ⟨rfl, _, hbx.set0, hown'.setCell hg _, ?_, ?_, hl1⟩
  · exact Below.setCell (Below.mono hb1 (by omega : g ≤ B)) (Nat.le_refl _) _
  · intro k h1 h2 h3
    rw [← hk1 k h1 h2]
    exact Below.heap_setCell w1 _ _ k h3
theorem toldE_take (e : Int) (l : List Int) (k : Nat) (n : Int) (h : l[k]? = some n) : M.toldE e (l.take (k + 1)) = M.toldE e (l.take k) ++ (if M.hasE e n = true then [n] else (M.numE n).map (fun c => (c.toNat : Int))) := by
  rw [List.take_add_one, h, M.toldE_app]
  simp [M.toldE]
theorem toldE_len (e : Int) (l : List Int) (h : ∀ n ∈ l, 0 ≤ n ∧ n ≤ 1114111) : (M.toldE e l).length ≤ 10 * l.length := by
  induction l with
  | nil => simp [M.toldE]
  | cons n l ih =>
    have h1 := ih (fun m hm => h m (by simp [hm]))
    have h2 := numE_len n (h n (by simp)).1 (h n (by simp)).2
    have h3 : M.toldE e (n :: l) = (if M.hasE e n = true then [n] else (M.numE n).map (fun c => (c.toNat : Int))) ++ M.toldE e l := by simp [M.toldE]
    rw [h3, List.length_append, List.length_cons]
    split
    · simp; omega
    · rw [List.length_map]; omega
theorem told_any (e : Int) (v : Value) (xs : List Int) (w : World) (hv : IntSl w v xs) (htab : Tab w) (hlen : xs.length ≤ 3000) (hbd : ∀ n ∈ xs, 0 ≤ n ∧ n ≤ 1114111) :
    Calls Tryz.prog 56 #[.int .i64 e, v] w fun r w' => ∃ v', r = .returned v' ∧ IntSl w' v' (M.toldE e xs) ∧ Bel w w' := by
  obtain ⟨a, ca, rfl, hc1, hc2, hn, hx⟩ := hv
  unfold maxLen at hc2
  have HX := Lib.hid hx
  have HN := Lib.hid hn
  clear hx hn
  have hbox0 := Box.new w 30 [.slice none 0 0]
  go_enter Tryz.func56, Tryz.ntmps56
  go_wp2_with fail
  go_loopw [14] (fun i wr => ∃ (k : Nat) (v : Value), k ≤ xs.length ∧ i = .int .i64 k ∧ Box wr w.heap.size 30 [v] ∧ Own (w.heap.size + 1) 3 wr v ((M.toldE e (xs.take k)).map (Value.int .i64)) ∧ Bel w wr) (fun i _ => xs.length - (intOf i).toNat)
  case atStart => exact ⟨0, _, by omega, rfl, hbox0, Own.nil _ _ _, (Bel.refl w).alloc _⟩
  case round =>
    obtain ⟨k, v, hk, rfl, hbox, hown, hb⟩ := hrel
    by_cases hlt : k < xs.length
    · obtain ⟨n, hn⟩ : ∃ n, xs[k]? = some n := ⟨_, List.getElem?_eq_getElem hlt⟩
      cases a with
      | none => exfalso; have h3 := hlt; rw [HN.out rfl, List.length_nil] at h3; omega
      | some x =>
        have hcw : w.cell? (x.add k) = some (.int .i64 n) := HX.out x rfl k n hn
        have hcell : wr.cell? (x.add k) = some (.int .i64 n) := (hb.cell (World.block_lt_of_cell? w _ hcw)).trans hcw
        have HT := Lib.hid (toldE_take e xs k n hn)
        have hl1 := toldE_len e (xs.take k) (fun m hm => hbd m (List.mem_of_mem_take hm))
        rw [List.length_take] at hl1
        have hnb := hbd n (List.mem_of_getElem? hn)
        have hgs := hbox.lt
        clear hcw hbox0 hn
        cases hh : M.hasE e n with
        | true =>
          rw [hh, if_pos rfl] at HT
          have HH := Lib.hid hh
          clear hh
          go_wp2_with (first | (go_at_call 67; refine (has_any _ _ _).mono ?_; rintro e w' ⟨rfl, b1⟩; rw [HH.out]; have hbox1 := hbox.bel b1; have hown1 := hown.bel b1; have hb1 := b1.size) | (go_at_call 87; refine (told1_any n w.heap.size (w.heap.size + 1) _ _ _ hbox1 hown1 (by omega) (by omega) (by rw [List.length_map]; omega)).mono ?_; rintro e w2 ⟨rfl, v', PT⟩))
          go_roundw
          case rel => exact ⟨k + 1, v', by omega, by go_num, PT.box, by rw [HT.out, List.map_append]; exact PT.own, (hb.trans b1).upto PT.bel (Nat.le_refl _)⟩
          case measure => simp [intOf]; omega
        | false =>
          rw [hh, if_neg (by decide)] at HT
          have HH := Lib.hid hh
          clear hh
          have hne := numE_len n hnb.1 hnb.2
          have hil := itoa_len n hnb.1 hnb.2
          have HZ := Lib.hid (show ((⟨#[38, 35]⟩ : ByteArray) ++ ⟨(Lib.itoa n).toArray⟩ ++ ⟨#[59]⟩ : ByteArray).data.toList = M.numE n by simp [M.numE])
          have hzs : ((⟨#[38, 35]⟩ : ByteArray) ++ ⟨(Lib.itoa n).toArray⟩ ++ ⟨#[59]⟩ : ByteArray).size = (M.numE n).length := by rw [Lib.size_eq, HZ.out]
          go_wp2_with (first | (go_at_call 67; refine (has_any _ _ _).mono ?_; rintro e w' ⟨rfl, b1⟩; rw [HH.out]; have hbox1 := hbox.bel b1; have hown1 := hown.bel b1; have hb1 := b1.size) | (go_at_call 88; refine (itoa_bel n (by omega) (by omega) _ (htab.bel (hb.trans b1))).mono ?_; rintro e w' ⟨rfl, b2⟩) | ((with_reducible show wpList _ _ _ _ _ _); refine wpList_toBytes rfl (.tmp 27) _ _ 5 rfl Tryz.underlying9 Tryz.underlying120 Tryz.underlying5 ((⟨#[38, 35]⟩ : ByteArray) ++ ⟨(Lib.itoa n).toArray⟩ ++ ⟨#[59]⟩ : ByteArray) rfl (by omega) ?_; intro cb w3 hb3 hg3 hcb1 hcb2 hcellb hfrz))
          have hbox3 := (hbox1.bel b2).bel hb3
          have hown3 := (hown1.bel b2).bel hb3
          have hbw3 := ((hb.trans b1).trans b2).trans hb3
          have hcl : ∀ (j : Nat) c, (M.numE n)[j]? = some c → w3.cell? ⟨w'.heap.size, j, none⟩ = some (.int .u8 (c.toNat : Int)) := fun j c hj => hcellb j c (by rw [HZ.out]; exact hj)
          have hs2 := b2.size
          have hown2 := fun j hj => ((hown1.bel b2).lt j hj).2
          have HCL := Lib.hid hcl
          generalize hzz : ((⟨#[38, 35]⟩ : ByteArray) ++ ⟨(Lib.itoa n).toArray⟩ ++ ⟨#[59]⟩ : ByteArray) = z at *
          clear hcellb hfrz hcl hzz hbox hbox1 hown hown1 HX HN hcell
          have hgG : w.heap.size < w'.heap.size := by omega
          have hnoG : ∀ kk, v.ownBlock = some kk → kk ≠ w'.heap.size := fun kk hkk => by have := hown2 kk hkk; omega
          go_loopw [30] (fun i wq => ∃ (j : Nat) (v : Value), j ≤ z.size ∧ i = .int .i64 j ∧ Box wq w.heap.size 30 [v] ∧ Own (w.heap.size + 1) 3 wq v ((M.toldE e (xs.take k) ++ ((M.numE n).take j).map (fun c => (c.toNat : Int))).map (Value.int .i64)) ∧ (∀ kk, v.ownBlock = some kk → kk ≠ w'.heap.size) ∧ Bel w wq ∧ w'.heap.size < wq.heap.size ∧ Hid (∀ (j : Nat) c, (M.numE n)[j]? = some c → wq.cell? ⟨w'.heap.size, j, none⟩ = some (.int .u8 (c.toNat : Int)))) (fun i _ => z.size - (intOf i).toNat)
          case atStart => exact ⟨0, v, by omega, rfl, hbox3, by simpa using hown3, hnoG, hbw3, hg3, HCL⟩
          case round =>
            clear hbox3 hown3 hnoG hbw3 hg3 HCL hown2
            obtain ⟨j, v, hj, rfl, hbox, hown, hno, hbq, hgq, HC⟩ := hrel
            by_cases hjl : j < z.size
            · obtain ⟨c, hc⟩ : ∃ c, (M.numE n)[j]? = some c := ⟨_, List.getElem?_eq_getElem (by omega)⟩
              have hcell := HC.out j c hc
              have hgs := hbox.lt
              have hcl : c.toNat < 256 := c.toNat_lt
              have HTJ := Lib.hid (show (M.toldE e (xs.take k) ++ ((M.numE n).take (j + 1)).map (fun c => (c.toNat : Int))).map (Value.int .i64) = (M.toldE e (xs.take k) ++ ((M.numE n).take j).map (fun c => (c.toNat : Int))).map (Value.int .i64) ++ [.int .i64 (c.toNat : Int)] by
                rw [List.take_add_one, hc]; simp)
              clear hc
              go_wp2_with (go_at_call 87; refine (told1_any (c.toNat : Int) w.heap.size (w.heap.size + 1) _ _ _ hbox hown (by omega) (by omega) (by rw [List.length_map, List.length_append, List.length_map]; have := List.length_take_le j (M.numE n); omega)).mono ?_; rintro e w2 ⟨rfl, v', PT⟩)
              go_roundw
              case rel =>
                refine ⟨j + 1, v', by omega, by go_num, PT.box, by rw [HTJ.out]; exact PT.own, fun kk hkk => ?_, hbq.upto PT.bel (Nat.le_refl _), by have := PT.bel.size; omega, Lib.hid (fun jj cc hcc => ?_)⟩
                · rcases PT.lies kk hkk with h9 | h9
                  · exact hno kk h9
                  · omega
                · rw [cell_of_heap (PT.keep w'.heap.size (fun h9 => hno _ h9 rfl) hgq (by omega))]
                  exact HC.out jj cc hcc
              case measure => simp [intOf]; omega
            · obtain rfl : j = z.size := by omega
              have e1 : (M.numE n).take z.size = M.numE n := by rw [hzs, List.take_length]
              rw [e1] at hown
              have HT2 := Lib.hid (show (M.toldE e (xs.take (k + 1))).map (Value.int .i64) = (M.toldE e (xs.take k) ++ (M.numE n).map (fun c => (c.toNat : Int))).map (Value.int .i64) by rw [HT.out])
              go_wp2_with fail
              go_roundw
              case rel => exact ⟨k + 1, v, by omega, by go_num, hbox, by rw [HT2.out]; exact hown, hbq⟩
              case measure => simp [intOf]; omega
    · obtain rfl : k = xs.length := by omega
      rw [List.take_length] at hown
      have hc0 := hbox.cell 0 _ rfl
      go_wp2_with fail
      go_ret
      exact ⟨_, rfl, hown.ints, hb⟩
theorem write_any (e : Int) (v : Value) (xs : List Int) (w : World) (hv : IntSl w v xs) (hlen : xs.length ≤ 1000000) (hbd : ∀ n ∈ xs, 0 ≤ n ∧ n ≤ 1114111) (l : List UInt8) (k : Int) (h : M.writeE e xs = (l, k)) :
    Calls Tryz.prog 58 #[.int .i64 e, v] w fun r w' => r = .returned (.tuple #[.string ⟨l.toArray⟩, .int .i64 k]) ∧ Bel w w' := by
  have hb2 : ∀ n ∈ xs, -9223372036854775808 ≤ n ∧ n ≤ 9223372036854775807 := fun n hn => by have := hbd n hn; omega
  have HB := Lib.hid hbd
  have HB2 := Lib.hid hb2
  clear hbd hb2
  unfold M.writeE at h
  by_cases h4 : e = 4
  · subst h4
    rw [if_pos (.inl rfl)] at h
    have h1 : (M.rawS false xs).1 = l := congrArg Prod.fst h
    have h2 : (M.rawS false xs).2 = k := congrArg Prod.snd h
    have H1 := Lib.hid h1
    have H2 := Lib.hid h2
    clear h h1 h2
    go_enter Tryz.func58, Tryz.ntmps58
    go_wp2_with (go_at_call 89; refine (raw_any false v xs _ hv hlen HB2.out).mono ?_; rintro e w' ⟨rfl, hb⟩; rw [H1.out, H2.out])
    go_ret2
    exact ⟨rfl, hb⟩
  · by_cases h5 : e = 5
    · subst h5
      rw [if_pos (.inr rfl)] at h
      have h1 : (M.rawS true xs).1 = l := congrArg Prod.fst h
      have h2 : (M.rawS true xs).2 = k := congrArg Prod.snd h
      have H1 := Lib.hid h1
      have H2 := Lib.hid h2
      clear h h1 h2
      go_enter Tryz.func58, Tryz.ntmps58
      go_wp2_with (go_at_call 89; refine (raw_any true v xs _ hv hlen HB2.out).mono ?_; rintro e w' ⟨rfl, hb⟩; rw [H1.out, H2.out])
      go_ret2
      exact ⟨rfl, hb⟩
    · have e1 : (e == 4) = false := by simpa using h4
      have e2 : (e == 5) = false := by simpa using h5
      rw [if_neg (by omega)] at h
      by_cases h6 : e = 6
      · subst h6
        rw [if_pos rfl] at h
        have h1 : (M.rawK xs).1 = l := congrArg Prod.fst h
        have h2 : (M.rawK xs).2 = k := congrArg Prod.snd h
        have H1 := Lib.hid h1
        have H2 := Lib.hid h2
        clear h h1 h2
        go_enter Tryz.func58, Tryz.ntmps58
        go_wp2_with (go_at_call 90; refine (rawK_any v xs _ hv hlen).mono ?_; rintro e w' ⟨rfl, hb⟩; rw [H1.out, H2.out])
        go_ret2
        exact ⟨rfl, hb⟩
      · have e3 : (e == 6) = false := by simpa using h6
        rw [if_neg h6] at h
        injection h with h1 h2
        subst h2
        have H1 := Lib.hid h1
        clear h1
        go_enter Tryz.func58, Tryz.ntmps58
        go_wp2_with (go_at_call 91; refine (bytes8_any v xs _ hv hlen HB.out).mono ?_; rintro e w' ⟨rfl, hb⟩; rw [H1.out])
        go_ret2
        exact ⟨rfl, hb⟩
theorem enc_to (e mode : Int) (v : Value) (xs : List Int) (w : World) (hv : IntSl w v xs) (htab : Tab w) (l : List UInt8) (k : Int) (h : M.encE e mode xs = (l, k)) :
    Calls Tryz.prog 22 #[.int .i64 e, .int .i64 mode, v] w fun r w' => r = .returned (.tuple #[.string ⟨l.toArray⟩, .int .i64 k]) ∧ Bel w w' := by
  unfold M.encE at h
  cases hi : M.isEnc e with
  | false =>
    rw [hi, if_pos rfl] at h
    injection h with h1 h2
    subst h1; subst h2
    have HI := Lib.hid hi
    clear hi
    go_enter Tryz.func22, Tryz.ntmps22
    go_wp2_with (go_at_call 54; refine (isEnc_any _ _).mono ?_; rintro e w' ⟨rfl, rfl⟩; rw [HI.out])
    go_ret2
    exact ⟨rfl, Bel.refl _⟩
  | true =>
    rw [hi, if_neg (by decide)] at h
    have HI := Lib.hid hi
    clear hi
    by_cases hm : mode ≠ 0 ∧ mode ≠ 1
    · rw [if_pos hm] at h
      injection h with h1 h2
      subst h1; subst h2
      have e1 : (mode != 0) = true := by simpa using hm.1
      have e2 : (mode != 1) = true := by simpa using hm.2
      clear hm
      go_enter Tryz.func22, Tryz.ntmps22
      go_wp2_with (go_at_call 54; refine (isEnc_any _ _).mono ?_; rintro e w' ⟨rfl, rfl⟩; rw [HI.out])
      go_ret2
      exact ⟨rfl, Bel.refl _⟩
    · rw [if_neg hm] at h
      have hm2 : mode = 0 ∨ mode = 1 := by omega
      clear hm
      by_cases hp : M.points xs = 0
      · rw [if_neg (by simpa using hp)] at h
        obtain ⟨hl, hs⟩ := points_scalars xs hp
        have hbd : ∀ n ∈ xs, 0 ≤ n ∧ n ≤ 1114111 := fun n hn => by have := scalar_bounds n (hs n hn); omega
        have HP := Lib.hid hp
        clear hp hs
        rcases hm2 with rfl | rfl
        · rw [if_neg (by decide)] at h
          have HW := Lib.hid h
          clear h
          go_enter Tryz.func22, Tryz.ntmps22
          go_wp2_with (first | (go_at_call 54; refine (isEnc_any _ _).mono ?_; rintro e w' ⟨rfl, rfl⟩; rw [HI.out]) | (go_at_call 55; refine (points_any v xs _ hv).mono ?_; rintro e w' ⟨rfl, rfl⟩; rw [HP.out]) | (go_at_call 57; refine (out_any _ _).mono ?_; rintro e w' ⟨rfl, rfl⟩) | (go_at_call 58; refine (write_any _ v xs _ hv (by omega) hbd l k HW.out).mono ?_; rintro e w' ⟨rfl, hb⟩))
          go_ret2
          exact ⟨rfl, hb⟩
        · rw [if_pos rfl] at h
          have HW := Lib.hid h
          have hl2 := toldE_len (M.outE e) xs hbd
          have hbd2 : ∀ n ∈ M.toldE (M.outE e) xs, 0 ≤ n ∧ n ≤ 1114111 := fun n hn => by
            unfold M.toldE at hn
            rw [List.mem_flatMap] at hn
            obtain ⟨m, hm, hn⟩ := hn
            split at hn
            · simp only [List.mem_singleton] at hn; subst hn; exact hbd _ hm
            · rw [List.mem_map] at hn
              obtain ⟨c, hc, rfl⟩ := hn
              have := c.toNat_lt
              omega
          have HB2 := Lib.hid hbd2
          have HB := Lib.hid hbd
          clear h hbd hbd2
          go_enter Tryz.func22, Tryz.ntmps22
          go_wp2_with (first | (go_at_call 54; refine (isEnc_any _ _).mono ?_; rintro e w' ⟨rfl, rfl⟩; rw [HI.out]) | (go_at_call 55; refine (points_any v xs _ hv).mono ?_; rintro e w' ⟨rfl, rfl⟩; rw [HP.out]) | (go_at_call 57; refine (out_any _ _).mono ?_; rintro e w' ⟨rfl, rfl⟩) | (go_at_call 56; refine (told_any (M.outE e) v xs _ hv htab hl HB.out).mono ?_; rintro r wt ⟨vt, rfl, hvt, bt⟩) | (go_at_call 58; refine (write_any _ vt _ _ hvt (by omega) HB2.out l k HW.out).mono ?_; rintro e w' ⟨rfl, hb⟩))
          go_ret2
          exact ⟨rfl, bt.trans hb⟩
      · rw [if_pos (by simpa using hp)] at h
        injection h with h1 h2
        have hk : (k != 0) = true := by rw [← h2]; simpa using hp
        subst h1
        have HP := Lib.hid h2
        clear h2 hp
        rcases hm2 with rfl | rfl
        all_goals
          go_enter Tryz.func22, Tryz.ntmps22
          go_wp2_with (first | (go_at_call 54; refine (isEnc_any _ _).mono ?_; rintro e w' ⟨rfl, rfl⟩; rw [HI.out]) | (go_at_call 55; refine (points_any v xs _ hv).mono ?_; rintro e w' ⟨rfl, rfl⟩; rw [HP.out]))
          go_ret2
          exact ⟨rfl, Bel.refl _⟩
end Go.Proofs.YteingkjdemlhgaaGreatDoor

/-
  Whole texts: Recode, Count.
-/
namespace Go.Proofs.YteingkjdemlhgaaGreatDoor
open Go.RowKit
set_option maxRecDepth 1000000
set_option maxHeartbeats 2000000
theorem shiftB_len (a b : Int) : (M.shiftB a b).length ≤ 3 := by unfold M.shiftB; split <;> simp
theorem encK_len : ∀ (l : List Int) (now : Int) (b : List UInt8), M.encK now l = some b → b.length ≤ 4 * l.length + 3
  | [], now, b, h => by
    injection h with h; subst h
    have := shiftB_len now 0
    omega
  | n :: l, now, b, h => by
    rw [M.encK] at h
    split at h
    · cases h
    · obtain ⟨c, hc, rfl⟩ := Option.map_eq_some_iff.1 h
      have h1 := encK_len l _ c hc
      have h2 := shiftB_len now (M.findK now n)
      rw [List.length_append, List.length_cons, List.length_cons]
      omega
theorem encS_len (user : Bool) : ∀ (l : List Int) (b : List UInt8), M.encodeS user l = some b → b.length = l.length
  | [], b, h => by injection h with h; subst h; rfl
  | n :: l, b, h => by
    rw [M.encodeS] at h
    split at h
    · cases h
    · obtain ⟨c, hc, rfl⟩ := Option.map_eq_some_iff.1 h
      rw [List.length_cons, List.length_cons, encS_len user l c hc]
theorem row8T_len (n : Int) : (M.row8 n).length ≤ 4 := by unfold M.row8; (repeat' split) <;> simp
theorem bytes8T_len (l : List Int) : (M.bytes8 l).length ≤ 4 * l.length := by
  induction l with
  | nil => exact Nat.zero_le _
  | cons n l ih =>
    have h : M.bytes8 (n :: l) = M.row8 n ++ M.bytes8 l := rfl
    rw [h, List.length_append, List.length_cons]
    have := row8T_len n
    omega
theorem writeT_len (e : Int) (l : List Int) : (M.writeE e l).1.length ≤ 4 * l.length + 3 := by
  unfold M.writeE
  split
  · unfold M.rawS
    split
    · rename_i c hc
      have := encS_len _ _ _ hc
      simp only; omega
    · exact Nat.zero_le _
  · split
    · unfold M.rawK
      split
      · rename_i c hc
        exact encK_len _ _ _ hc
      · exact Nat.zero_le _
    · have := bytes8T_len l
      simp only; omega
theorem encT_len (e m : Int) (l : List Int) : (M.encE e m l).1.length ≤ 200000 := by
  unfold M.encE
  split
  · exact Nat.zero_le _
  · split
    · exact Nat.zero_le _
    · split
      · exact Nat.zero_le _
      · rename_i hp
        have hp : M.points l = 0 := by omega
        obtain ⟨h1, h2⟩ := points_scalar l hp
        have h3 := toldE_len (M.outE e) l h2
        have h4 := writeT_len (M.outE e) (if m = 1 then M.toldE (M.outE e) l else l)
        have h5 : (if m = 1 then M.toldE (M.outE e) l else l).length ≤ 30000 := by split <;> omega
        omega
theorem markOf_len (n : Int) : (M.markOf n).length ≤ 3 := by unfold M.markOf; (repeat' split) <;> simp
theorem aheadT_to (n : Int) (l : List UInt8) (h : M.markOf n = l) (w : World) : Calls Tryz.prog 64 #[.int .i64 n] w fun e w' => e = .returned (.string ⟨l.toArray⟩) ∧ Bel w w' := by
  have := ahead_any n w; rw [h] at this; exact this
theorem outT_to (n m : Int) (h : M.outE n = m) (w : World) : Calls Tryz.prog 57 #[.int .i64 n] w fun e w' => e = .returned (.int .i64 m) ∧ w = w' := by
  have := out_any n w; rw [h] at this; exact this
theorem recode_to (nm s : ByteArray) (e : Int) (l : List UInt8) (k : Int) (h : M.recT nm.data.toList s.data.toList e = (l, k)) (w : World) (hL : Len w) (htab : Tab w) : Calls Tryz.prog 30 #[.string nm, .string s, .int .i64 e] w fun r w' => r = .returned (.tuple #[.string ⟨l.toArray⟩, .int .i64 k]) ∧ Bel w w' := by
  by_cases hl : 3000 < nm.size ∨ 3000 < s.size
  · have HD := Lib.hid (show M.decT nm.data.toList s.data.toList = ([], 0, 0, 2) by rw [M.decT, ← Lib.size_eq, ← Lib.size_eq, if_pos hl])
    rw [M.recT, ← Lib.size_eq, ← Lib.size_eq, if_pos hl] at h
    simp only [Prod.mk.injEq] at h
    obtain ⟨rfl, rfl⟩ := h
    clear hl
    go_enter Tryz.func30, Tryz.ntmps30
    go_wp2_with fail
    refine (decodeT_to nm s _ _ _ _ HD.out _ hL).mono ?_
    rintro r w1 ⟨v, rfl, o1, b1⟩
    go_wp2_with fail
    go_ret2
    exact ⟨rfl, b1⟩
  · obtain ⟨xs, n, y, hw⟩ : ∃ xs n y, M.wholeM nm.data.toList s.data.toList = (xs, n, y) := ⟨_, _, _, rfl⟩
    have HD := Lib.hid (show M.decT nm.data.toList s.data.toList = (xs, n, y, 0) by rw [M.decT, ← Lib.size_eq, ← Lib.size_eq, if_neg hl, hw])
    rw [M.recT, ← Lib.size_eq, ← Lib.size_eq, if_neg hl, hw] at h
    simp only at h
    obtain ⟨t, x, ht⟩ : ∃ t x, M.encE e 1 xs = (t, x) := ⟨_, _, rfl⟩
    have hlen := encT_len e 1 xs
    rw [ht] at h hlen
    simp only at h hlen
    have HT := Lib.hid ht
    by_cases hx : x = 0
    · rw [if_neg (by simp [hx])] at h
      subst hx
      obtain ⟨o, ho⟩ : ∃ o, M.outE e = o := ⟨_, rfl⟩
      obtain ⟨mk, hm⟩ : ∃ mk, M.markOf o = mk := ⟨_, rfl⟩
      rw [ho, hm] at h
      have hml := markOf_len o
      rw [hm] at hml
      have HO := Lib.hid ho
      have HM := Lib.hid hm
      simp only [Prod.mk.injEq] at h
      obtain ⟨rfl, rfl⟩ := h
      have hsz1 : (⟨mk.toArray⟩ : ByteArray).size ≤ 3 := by rw [size_str]; exact hml
      have hsz2 : (⟨t.toArray⟩ : ByteArray).size ≤ 200000 := by rw [size_str]; exact hlen
      have hcat : (⟨mk.toArray⟩ : ByteArray) ++ ⟨t.toArray⟩ = ⟨(mk ++ t).toArray⟩ := by
        apply ByteArray.ext
        simp
      have HC := Lib.hid hcat
      clear hl hw ht ho hm hml hlen hcat
      go_enter Tryz.func30, Tryz.ntmps30
      go_wp2_with fail
      refine (decodeT_to nm s _ _ _ _ HD.out _ hL).mono ?_
      rintro r w1 ⟨v, rfl, o1, b1⟩
      go_wp2_with fail
      refine (enc_to e 1 v xs _ o1.ints (htab.bel b1) _ _ HT.out).mono ?_
      rintro r w2 ⟨rfl, b2⟩
      have b2 := b1.trans b2
      go_wp2_with fail
      refine (outT_to e _ HO.out _).mono ?_
      rintro r _ ⟨rfl, rfl⟩
      go_wp2_with fail
      refine (aheadT_to _ _ HM.out _).mono ?_
      rintro r w3 ⟨rfl, b3⟩
      have b3 := b2.trans b3
      go_wp2_with fail
      go_ret2
      exact ⟨by first | rfl | rw [HC.out], b3⟩
    · rw [if_pos hx] at h
      simp only [Prod.mk.injEq] at h
      obtain ⟨rfl, rfl⟩ := h
      have g1 : (x != 0) = true := by simpa using hx
      have g2 : (x == 0) = false := by simpa using hx
      clear hl hw ht hx hlen
      go_enter Tryz.func30, Tryz.ntmps30
      go_wp2_with fail
      refine (decodeT_to nm s _ _ _ _ HD.out _ hL).mono ?_
      rintro r w1 ⟨v, rfl, o1, b1⟩
      go_wp2_with fail
      refine (enc_to e 1 v xs _ o1.ints (htab.bel b1) _ _ HT.out).mono ?_
      rintro r w2 ⟨rfl, b2⟩
      have b2 := b1.trans b2
      go_wp2_with fail
      go_ret2
      exact ⟨rfl, b2⟩
end Go.Proofs.YteingkjdemlhgaaGreatDoor

/-
  What must be in any case, of fronts and whole texts: plain facts on constants.
-/
namespace Go.Proofs.YteingkjdemlhgaaGreatDoor.M
open Go
abbrev lab8 : Bs := [117, 116, 102, 45, 56]
theorem fb1 : chooseE [108, 97, 116, 105, 110, 49] [239, 187, 191, 97] = (1, 1, 3, 0) := by decide +kernel
theorem fb2 : feedFE (bgn lab8) [97, 98] false = ([], ⟨lab8, 0, 0, [97, 98], zst⟩, 0) := by kernel_rfl
theorem fb3 : feedFE ⟨lab8, 0, 0, [97, 98], zst⟩ [99, 226] false = ([97, 98, 99], ⟨lab8, 1, 2, [], ⟨1, [226], 0, false, false⟩⟩, 0) := by kernel_rfl
theorem fb4 : feedFE ⟨lab8, 1, 2, [], ⟨1, [226], 0, false, false⟩⟩ [] true = ([65533], bgn lab8, 0) := by kernel_rfl
theorem fb5 : checkF ⟨lab8, 1, 2, [], ⟨1, [226], 0, false, false⟩⟩ = 0 := by decide +kernel
theorem tb1 : decT [] [255, 254, 97, 0] = ([97], 2, 1, 0) := by decide +kernel
theorem tb2 : recT lab8 [226, 130, 172] 6 = ([38, 35, 56, 51, 54, 52, 59], 0) := by decide +kernel
theorem tb3 : countE [97, 65533, 228] = (1, 2, 0) := by decide +kernel
end Go.Proofs.YteingkjdemlhgaaGreatDoor.M

/-
  The document's answers on signs that are shifted: HasKana, EncodeKana.
-/
namespace Go.Proofs.YteingkjdemlhgaaGreatDoor
open Go.RowKit
set_option maxRecDepth 1000000
theorem hasKana_any (n : Int) (w : World) : Calls Tryz.prog 78 #[.int .i64 n] w fun e w' => e = .returned (.bool (M.hasK n)) ∧ w = w' := by
  obtain ⟨b0, h0⟩ : ∃ b, M.byteK 0 n = b := ⟨_, rfl⟩
  obtain ⟨b1, h1⟩ : ∃ b, M.byteK 1 n = b := ⟨_, rfl⟩
  obtain ⟨b2, h2⟩ : ∃ b, M.byteK 2 n = b := ⟨_, rfl⟩
  have H0 := Lib.hid h0
  have H1 := Lib.hid h1
  have H2 := Lib.hid h2
  by_cases a0 : 0 ≤ b0
  · have HF := Lib.hid (show M.hasK n = true by simp [M.hasK, M.findK, h0, a0])
    clear h0 h1 h2
    go_enter Tryz.func78, Tryz.ntmps78
    go_wp2_with (first | (go_at_call 80; (first | with_reducible refine (kanaByte_to 0 n _ H0.out _).mono ?_ | with_reducible refine (kanaByte_to 1 n _ H1.out _).mono ?_ | with_reducible refine (kanaByte_to 2 n _ H2.out _).mono ?_); rintro e w' ⟨rfl, rfl⟩))
    go_ret
    rw [HF.out]
    refine ⟨?_, rfl⟩
    first | rfl | exact ret_bool (by simp; omega)
  · by_cases a1 : 0 ≤ b1
    · have HF := Lib.hid (show M.hasK n = true by simp [M.hasK, M.findK, h0, h1, a0, a1])
      clear h0 h1 h2
      go_enter Tryz.func78, Tryz.ntmps78
      go_wp2_with (first | (go_at_call 80; (first | with_reducible refine (kanaByte_to 0 n _ H0.out _).mono ?_ | with_reducible refine (kanaByte_to 1 n _ H1.out _).mono ?_ | with_reducible refine (kanaByte_to 2 n _ H2.out _).mono ?_); rintro e w' ⟨rfl, rfl⟩))
      go_ret
      rw [HF.out]
      refine ⟨?_, rfl⟩
      first | rfl | exact ret_bool (by simp; omega)
    · by_cases a2 : 0 ≤ b2
      · have HF := Lib.hid (show M.hasK n = true by simp [M.hasK, M.findK, h0, h1, h2, a0, a1, a2])
        clear h0 h1 h2
        go_enter Tryz.func78, Tryz.ntmps78
        go_wp2_with (first | (go_at_call 80; (first | with_reducible refine (kanaByte_to 0 n _ H0.out _).mono ?_ | with_reducible refine (kanaByte_to 1 n _ H1.out _).mono ?_ | with_reducible refine (kanaByte_to 2 n _ H2.out _).mono ?_); rintro e w' ⟨rfl, rfl⟩))
        go_ret
        rw [HF.out]
        refine ⟨?_, rfl⟩
        first | rfl | exact ret_bool (by simp; omega)
      · have HF := Lib.hid (show M.hasK n = false by simp [M.hasK, M.findK, h0, h1, h2, a0, a1, a2])
        clear h0 h1 h2
        go_enter Tryz.func78, Tryz.ntmps78
        go_wp2_with (first | (go_at_call 80; (first | with_reducible refine (kanaByte_to 0 n _ H0.out _).mono ?_ | with_reducible refine (kanaByte_to 1 n _ H1.out _).mono ?_ | with_reducible refine (kanaByte_to 2 n _ H2.out _).mono ?_); rintro e w' ⟨rfl, rfl⟩))
        go_ret
        rw [HF.out]
        refine ⟨?_, rfl⟩
        first | rfl | exact ret_bool (by simp; omega)
theorem hasKana_to (n : Int) (b : Bool) (h : M.hasK n = b) (w : World) : Calls Tryz.prog 78 #[.int .i64 n] w fun e w' => e = .returned (.bool b) ∧ w = w' := by
  have := hasKana_any n w; rw [h] at this; exact this
set_option maxHeartbeats 8000000 in
theorem encodeKana_any (v : Value) (xs : List Int) (w : World) (hv : IntSl w v xs) (hlen : xs.length ≤ 1000000) : Calls Tryz.prog 51 #[v] w fun e w' => e = .returned (.tuple #[.string ⟨(M.rawK xs).1.toArray⟩, .bool ((M.rawK xs).2 == 0)]) ∧ Bel w w' := by
  obtain ⟨a, ca, rfl, hc1, hc2, hn, hx⟩ := hv
  unfold maxLen at hc2
  go_enter Tryz.func51, Tryz.ntmps51
  go_wp2_with fail
  go_loopw [4, 5, 6] (fun vs vg i wr => ∃ (k : Nat) (now : Int) (acc : List UInt8), k ≤ xs.length ∧ i = .int .i64 k ∧ vg = .int .i64 now ∧ 0 ≤ now ∧ now ≤ 2 ∧ vs = .string ⟨acc.toArray⟩ ∧ acc.length ≤ 4 * k ∧ Hid (M.encK 0 xs = (M.encK now (xs.drop k)).map (acc ++ ·)) ∧ Bel w wr) (fun _ _ i _ => xs.length - (intOf i).toNat)
  case atStart => exact ⟨0, 0, [], by omega, rfl, rfl, by omega, by omega, rfl, by simp, Lib.hid (by rw [List.drop_zero]; cases M.encK 0 xs <;> rfl), Bel.refl _⟩
  case round =>
    obtain ⟨k, now, acc, hk, rfl, rfl, hg0, hg1, rfl, hal, HT, hb⟩ := hrel
    by_cases hlt : k < xs.length
    · obtain ⟨n, hy⟩ : ∃ n, xs[k]? = some n := ⟨_, List.getElem?_eq_getElem hlt⟩
      have hdr : xs.drop k = n :: xs.drop (k + 1) := by
        rw [List.drop_eq_getElem_cons hlt]
        rw [List.getElem?_eq_getElem hlt] at hy
        injection hy with hy
        rw [hy]
      cases a with
      | none => exfalso; have h3 := hlt; rw [hn rfl, List.length_nil] at h3; omega
      | some x =>
        have hcw := hx x rfl k n hy
        have hcell : wr.cell? (x.add k) = some (.int .i64 n) := (Bel.cell hb (World.block_lt_of_cell? w _ hcw)).trans hcw
        have i1 : (k : Int) < (xs.length : Int) := by omega
        obtain ⟨bn, hbn⟩ : ∃ b, M.byteK now n = b := ⟨_, rfl⟩
        obtain ⟨b0, hb0⟩ : ∃ b, M.byteK 0 n = b := ⟨_, rfl⟩
        obtain ⟨b1, hb1⟩ : ∃ b, M.byteK 1 n = b := ⟨_, rfl⟩
        obtain ⟨b2, hb2⟩ : ∃ b, M.byteK 2 n = b := ⟨_, rfl⟩
        have HN := Lib.hid hbn
        have H0 := Lib.hid hb0
        have H1 := Lib.hid hb1
        have H2 := Lib.hid hb2
        have hnow : now = 0 ∨ now = 1 ∨ now = 2 := by omega
        have hh : M.hasK n = decide (0 ≤ M.findK now n) := by
          unfold M.hasK M.findK
          congr 1
          rw [hbn, hb0, hb1, hb2]
          have : bn = b0 ∨ bn = b1 ∨ bn = b2 := by
            rcases hnow with rfl | rfl | rfl
            · exact .inl (hbn.symm.trans hb0)
            · exact .inr (.inl (hbn.symm.trans hb1))
            · exact .inr (.inr (hbn.symm.trans hb2))
          simp only [eq_iff_iff]
          (repeat' split) <;> omega
        rcases M.findK_or now n with ⟨hf, _⟩ | ⟨g, c, hf, hg, hbk, hc, h27⟩
        · have HF := Lib.hid (show M.rawK xs = ([], 5) by
            rw [M.rawK, HT.out, hdr, M.encK, if_pos (by rw [hf]; decide)]; rfl)
          have HH := Lib.hid (show M.hasK n = false by rw [hh, hf]; rfl)
          clear hx hn hy hdr hcw hf hh hbn hb0 hb1 hb2 hnow
          go_wp2_with (first | (go_at_call 78; refine (hasKana_to n _ HH.out _).mono ?_; rintro e w' ⟨rfl, rfl⟩))
          go_ret2
          rw [HF.out]
          exact ⟨rfl, hb⟩
        · have hg2 : g = 0 ∨ g = 1 ∨ g = 2 := by omega
          have hgn : 0 ≤ g := by omega
          have hgm : g ≤ 2 := by omega
          have HH := Lib.hid (show M.hasK n = true by rw [hh, hf]; simpa using hgn)
          have HS := Lib.hid (M.encK_step now g n c (xs.drop (k + 1)) acc hf hgn hbk)
          have HT2 := Lib.hid (show M.encK 0 xs = (M.encK g (xs.drop (k + 1))).map ((acc ++ M.shiftB now g ++ [UInt8.ofNat c]) ++ ·) by
            rw [HT.out, hdr, HS.out])
          have HV := Lib.hid (show [UInt8.ofNat c].map byteVal = [.int .u8 (c : Int)] by simp [byteVal]; omega)
          have hcv : (UInt8.ofNat c).toNat = c := UInt8.toNat_ofNat_of_lt' (show c < 256 by omega)
          by_cases an : 0 ≤ bn
          · have hgw : g = now := by rw [M.findK, hbn, if_pos an] at hf; exact hf.symm
            subst hgw
            obtain rfl : bn = (c : Int) := hbn.symm.trans hbk
            have HL := Lib.hid (show acc ++ M.shiftB g g ++ [UInt8.ofNat c] = acc ++ [UInt8.ofNat c] by simp [M.shiftB])
            rw [HL.out] at HT2
            clear hx hn hy hdr hcw hf hg hbk HS hg2 hh hbn hb0 hb1 hb2 hnow hcv H0 H1 H2
            go_wp2_with (first | (go_at_call 78; refine (hasKana_to n _ HH.out _).mono ?_; rintro e w' ⟨rfl, rfl⟩) | (go_at_call 80; refine (kanaByte_to _ n _ HN.out _).mono ?_; rintro e w' ⟨rfl, rfl⟩) | ((with_reducible show wpList _ _ _ _ _ _); refine wpList_toString rfl (.tmp 56) _ _ 5 rfl Tryz.underlying120 Tryz.underlying5 Tryz.underlying9 _ _ [UInt8.ofNat c] rfl (own_row _ [UInt8.ofNat c] _ HV.out (by simp)) ?_))
            go_roundw
            case rel => exact ⟨k + 1, g, acc ++ [UInt8.ofNat c], by omega, by go_num, rfl, by omega, by omega, by simp [str_append], by rw [List.length_append, List.length_singleton]; omega, HT2, (by repeat (first | exact Bel.refl _ | refine Bel.drewN ?_ _ | refine Bel.drew ?_ | refine Bel.alloc ?_ _ | refine Bel.trans ?_ (by assumption) | refine Bel.setCell ?_ (by simp; omega) _))⟩
            case measure => simp [intOf]; omega
          · have e1 : (g != now) = true := by
              rw [bne_iff_ne]; rintro rfl
              apply an; rw [← hbn, hbk]; omega
            have hbneg : bn < 0 := by omega
            have he : g ≠ now := by simpa using e1
            obtain ⟨p, hp⟩ : ∃ p, [27, 40, M.escB g] = p := ⟨_, rfl⟩
            have HL := Lib.hid (show acc ++ M.shiftB now g ++ [UInt8.ofNat c] = acc ++ p ++ [UInt8.ofNat c] by rw [M.shiftB, if_neg he, hp])
            rw [HL.out] at HT2
            have hpl : p.length = 3 := by rw [← hp]; rfl
            have hf2 : M.findK now n = if 0 ≤ b0 then 0 else if 0 ≤ b1 then 1 else if 0 ≤ b2 then 2 else -1 := by
              rw [M.findK, hbn, hb0, hb1, hb2, if_neg an]
            rw [hf] at hf2
            rcases hg2 with rfl | rfl | rfl
            · have X := Lib.hid (show (⟨#[27, 40]⟩ : ByteArray) ++ (⟨#[66, 74, 73]⟩ : ByteArray).extract 0 1 = ⟨p.toArray⟩ by rw [← hp]; rfl)
              have HC := Lib.hid (show M.byteK 0 n = (c : Int) from hbk)
              clear hx hn hy hdr hcw hf hg hbk HS hh hbn hb0 hb1 hb2 hnow he hp hf2 hcv H0
              have H0 := HC
              go_wp2_with (first | (go_at_call 78; refine (hasKana_to n _ HH.out _).mono ?_; rintro e w' ⟨rfl, rfl⟩) | (go_at_call 80; (first | with_reducible refine (kanaByte_to now n _ HN.out _).mono ?_ | with_reducible refine (kanaByte_to 0 n _ H0.out _).mono ?_ | with_reducible refine (kanaByte_to 1 n _ H1.out _).mono ?_ | with_reducible refine (kanaByte_to 2 n _ H2.out _).mono ?_); rintro e w' ⟨rfl, rfl⟩) | ((with_reducible show wpList _ _ _ _ _ _); refine wpList_toString rfl (.tmp 56) _ _ 5 rfl Tryz.underlying120 Tryz.underlying5 Tryz.underlying9 _ _ [UInt8.ofNat c] rfl (own_row _ [UInt8.ofNat c] _ HV.out (by simp)) ?_))
              refine wp_loop_rounds 4 ?_
              rw [rounds_succ]
              go_wp2_with (first | (go_at_call 78; refine (hasKana_to n _ HH.out _).mono ?_; rintro e w' ⟨rfl, rfl⟩) | (go_at_call 80; (first | with_reducible refine (kanaByte_to now n _ HN.out _).mono ?_ | with_reducible refine (kanaByte_to 0 n _ H0.out _).mono ?_ | with_reducible refine (kanaByte_to 1 n _ H1.out _).mono ?_ | with_reducible refine (kanaByte_to 2 n _ H2.out _).mono ?_); rintro e w' ⟨rfl, rfl⟩) | ((with_reducible show wpList _ _ _ _ _ _); refine wpList_toString rfl (.tmp 56) _ _ 5 rfl Tryz.underlying120 Tryz.underlying5 Tryz.underlying9 _ _ [UInt8.ofNat c] rfl (own_row _ [UInt8.ofNat c] _ HV.out (by simp)) ?_))
              all_goals try (rw [rounds_succ]; go_wp2_with (first | (go_at_call 78; refine (hasKana_to n _ HH.out _).mono ?_; rintro e w' ⟨rfl, rfl⟩) | (go_at_call 80; (first | with_reducible refine (kanaByte_to now n _ HN.out _).mono ?_ | with_reducible refine (kanaByte_to 0 n _ H0.out _).mono ?_ | with_reducible refine (kanaByte_to 1 n _ H1.out _).mono ?_ | with_reducible refine (kanaByte_to 2 n _ H2.out _).mono ?_); rintro e w' ⟨rfl, rfl⟩) | ((with_reducible show wpList _ _ _ _ _ _); refine wpList_toString rfl (.tmp 56) _ _ 5 rfl Tryz.underlying120 Tryz.underlying5 Tryz.underlying9 _ _ [UInt8.ofNat c] rfl (own_row _ [UInt8.ofNat c] _ HV.out (by simp)) ?_)))
              all_goals try (rw [rounds_succ]; go_wp2_with (first | (go_at_call 78; refine (hasKana_to n _ HH.out _).mono ?_; rintro e w' ⟨rfl, rfl⟩) | (go_at_call 80; (first | with_reducible refine (kanaByte_to now n _ HN.out _).mono ?_ | with_reducible refine (kanaByte_to 0 n _ H0.out _).mono ?_ | with_reducible refine (kanaByte_to 1 n _ H1.out _).mono ?_ | with_reducible refine (kanaByte_to 2 n _ H2.out _).mono ?_); rintro e w' ⟨rfl, rfl⟩) | ((with_reducible show wpList _ _ _ _ _ _); refine wpList_toString rfl (.tmp 56) _ _ 5 rfl Tryz.underlying120 Tryz.underlying5 Tryz.underlying9 _ _ [UInt8.ofNat c] rfl (own_row _ [UInt8.ofNat c] _ HV.out (by simp)) ?_)))
              go_roundw
              case rel => exact ⟨k + 1, _, acc ++ p ++ [UInt8.ofNat c], by omega, by go_num, rfl, by omega, by omega, by rw [X.out]; simp [str_append], by rw [List.length_append, List.length_append, List.length_singleton]; omega, HT2, (by repeat (first | exact Bel.refl _ | refine Bel.drewN ?_ _ | refine Bel.drew ?_ | refine Bel.alloc ?_ _ | refine Bel.trans ?_ (by assumption) | refine Bel.setCell ?_ (by simp; omega) _))⟩
              case measure => simp [intOf]; omega
            · have X := Lib.hid (show (⟨#[27, 40]⟩ : ByteArray) ++ (⟨#[66, 74, 73]⟩ : ByteArray).extract 1 2 = ⟨p.toArray⟩ by rw [← hp]; rfl)
              have HC := Lib.hid (show M.byteK 1 n = (c : Int) from hbk)
              have hb0n : b0 < 0 := by split at hf2 <;> omega
              clear hx hn hy hdr hcw hf hg hbk HS hh hbn hb0 hb1 hb2 hnow he hp hf2 hcv H1
              have H1 := HC
              go_wp2_with (first | (go_at_call 78; refine (hasKana_to n _ HH.out _).mono ?_; rintro e w' ⟨rfl, rfl⟩) | (go_at_call 80; (first | with_reducible refine (kanaByte_to now n _ HN.out _).mono ?_ | with_reducible refine (kanaByte_to 0 n _ H0.out _).mono ?_ | with_reducible refine (kanaByte_to 1 n _ H1.out _).mono ?_ | with_reducible refine (kanaByte_to 2 n _ H2.out _).mono ?_); rintro e w' ⟨rfl, rfl⟩) | ((with_reducible show wpList _ _ _ _ _ _); refine wpList_toString rfl (.tmp 56) _ _ 5 rfl Tryz.underlying120 Tryz.underlying5 Tryz.underlying9 _ _ [UInt8.ofNat c] rfl (own_row _ [UInt8.ofNat c] _ HV.out (by simp)) ?_))
              refine wp_loop_rounds 4 ?_
              rw [rounds_succ]
              go_wp2_with (first | (go_at_call 78; refine (hasKana_to n _ HH.out _).mono ?_; rintro e w' ⟨rfl, rfl⟩) | (go_at_call 80; (first | with_reducible refine (kanaByte_to now n _ HN.out _).mono ?_ | with_reducible refine (kanaByte_to 0 n _ H0.out _).mono ?_ | with_reducible refine (kanaByte_to 1 n _ H1.out _).mono ?_ | with_reducible refine (kanaByte_to 2 n _ H2.out _).mono ?_); rintro e w' ⟨rfl, rfl⟩) | ((with_reducible show wpList _ _ _ _ _ _); refine wpList_toString rfl (.tmp 56) _ _ 5 rfl Tryz.underlying120 Tryz.underlying5 Tryz.underlying9 _ _ [UInt8.ofNat c] rfl (own_row _ [UInt8.ofNat c] _ HV.out (by simp)) ?_))
              all_goals try (rw [rounds_succ]; go_wp2_with (first | (go_at_call 78; refine (hasKana_to n _ HH.out _).mono ?_; rintro e w' ⟨rfl, rfl⟩) | (go_at_call 80; (first | with_reducible refine (kanaByte_to now n _ HN.out _).mono ?_ | with_reducible refine (kanaByte_to 0 n _ H0.out _).mono ?_ | with_reducible refine (kanaByte_to 1 n _ H1.out _).mono ?_ | with_reducible refine (kanaByte_to 2 n _ H2.out _).mono ?_); rintro e w' ⟨rfl, rfl⟩) | ((with_reducible show wpList _ _ _ _ _ _); refine wpList_toString rfl (.tmp 56) _ _ 5 rfl Tryz.underlying120 Tryz.underlying5 Tryz.underlying9 _ _ [UInt8.ofNat c] rfl (own_row _ [UInt8.ofNat c] _ HV.out (by simp)) ?_)))
              all_goals try (rw [rounds_succ]; go_wp2_with (first | (go_at_call 78; refine (hasKana_to n _ HH.out _).mono ?_; rintro e w' ⟨rfl, rfl⟩) | (go_at_call 80; (first | with_reducible refine (kanaByte_to now n _ HN.out _).mono ?_ | with_reducible refine (kanaByte_to 0 n _ H0.out _).mono ?_ | with_reducible refine (kanaByte_to 1 n _ H1.out _).mono ?_ | with_reducible refine (kanaByte_to 2 n _ H2.out _).mono ?_); rintro e w' ⟨rfl, rfl⟩) | ((with_reducible show wpList _ _ _ _ _ _); refine wpList_toString rfl (.tmp 56) _ _ 5 rfl Tryz.underlying120 Tryz.underlying5 Tryz.underlying9 _ _ [UInt8.ofNat c] rfl (own_row _ [UInt8.ofNat c] _ HV.out (by simp)) ?_)))
              go_roundw
              case rel => exact ⟨k + 1, _, acc ++ p ++ [UInt8.ofNat c], by omega, by go_num, rfl, by omega, by omega, by rw [X.out]; simp [str_append], by rw [List.length_append, List.length_append, List.length_singleton]; omega, HT2, (by repeat (first | exact Bel.refl _ | refine Bel.drewN ?_ _ | refine Bel.drew ?_ | refine Bel.alloc ?_ _ | refine Bel.trans ?_ (by assumption) | refine Bel.setCell ?_ (by simp; omega) _))⟩
              case measure => simp [intOf]; omega
            · have X := Lib.hid (show (⟨#[27, 40]⟩ : ByteArray) ++ (⟨#[66, 74, 73]⟩ : ByteArray).extract 2 3 = ⟨p.toArray⟩ by rw [← hp]; rfl)
              have HC := Lib.hid (show M.byteK 2 n = (c : Int) from hbk)
              have hb0n : b0 < 0 := by split at hf2 <;> omega
              have hb1n : b1 < 0 := by split at hf2; omega; split at hf2 <;> omega
              clear hx hn hy hdr hcw hf hg hbk HS hh hbn hb0 hb1 hb2 hnow he hp hf2 hcv H2
              have H2 := HC
              go_wp2_with (first | (go_at_call 78; refine (hasKana_to n _ HH.out _).mono ?_; rintro e w' ⟨rfl, rfl⟩) | (go_at_call 80; (first | with_reducible refine (kanaByte_to now n _ HN.out _).mono ?_ | with_reducible refine (kanaByte_to 0 n _ H0.out _).mono ?_ | with_reducible refine (kanaByte_to 1 n _ H1.out _).mono ?_ | with_reducible refine (kanaByte_to 2 n _ H2.out _).mono ?_); rintro e w' ⟨rfl, rfl⟩) | ((with_reducible show wpList _ _ _ _ _ _); refine wpList_toString rfl (.tmp 56) _ _ 5 rfl Tryz.underlying120 Tryz.underlying5 Tryz.underlying9 _ _ [UInt8.ofNat c] rfl (own_row _ [UInt8.ofNat c] _ HV.out (by simp)) ?_))
              refine wp_loop_rounds 4 ?_
              rw [rounds_succ]
              go_wp2_with (first | (go_at_call 78; refine (hasKana_to n _ HH.out _).mono ?_; rintro e w' ⟨rfl, rfl⟩) | (go_at_call 80; (first | with_reducible refine (kanaByte_to now n _ HN.out _).mono ?_ | with_reducible refine (kanaByte_to 0 n _ H0.out _).mono ?_ | with_reducible refine (kanaByte_to 1 n _ H1.out _).mono ?_ | with_reducible refine (kanaByte_to 2 n _ H2.out _).mono ?_); rintro e w' ⟨rfl, rfl⟩) | ((with_reducible show wpList _ _ _ _ _ _); refine wpList_toString rfl (.tmp 56) _ _ 5 rfl Tryz.underlying120 Tryz.underlying5 Tryz.underlying9 _ _ [UInt8.ofNat c] rfl (own_row _ [UInt8.ofNat c] _ HV.out (by simp)) ?_))
              all_goals try (rw [rounds_succ]; go_wp2_with (first | (go_at_call 78; refine (hasKana_to n _ HH.out _).mono ?_; rintro e w' ⟨rfl, rfl⟩) | (go_at_call 80; (first | with_reducible refine (kanaByte_to now n _ HN.out _).mono ?_ | with_reducible refine (kanaByte_to 0 n _ H0.out _).mono ?_ | with_reducible refine (kanaByte_to 1 n _ H1.out _).mono ?_ | with_reducible refine (kanaByte_to 2 n _ H2.out _).mono ?_); rintro e w' ⟨rfl, rfl⟩) | ((with_reducible show wpList _ _ _ _ _ _); refine wpList_toString rfl (.tmp 56) _ _ 5 rfl Tryz.underlying120 Tryz.underlying5 Tryz.underlying9 _ _ [UInt8.ofNat c] rfl (own_row _ [UInt8.ofNat c] _ HV.out (by simp)) ?_)))
              all_goals try (rw [rounds_succ]; go_wp2_with (first | (go_at_call 78; refine (hasKana_to n _ HH.out _).mono ?_; rintro e w' ⟨rfl, rfl⟩) | (go_at_call 80; (first | with_reducible refine (kanaByte_to now n _ HN.out _).mono ?_ | with_reducible refine (kanaByte_to 0 n _ H0.out _).mono ?_ | with_reducible refine (kanaByte_to 1 n _ H1.out _).mono ?_ | with_reducible refine (kanaByte_to 2 n _ H2.out _).mono ?_); rintro e w' ⟨rfl, rfl⟩) | ((with_reducible show wpList _ _ _ _ _ _); refine wpList_toString rfl (.tmp 56) _ _ 5 rfl Tryz.underlying120 Tryz.underlying5 Tryz.underlying9 _ _ [UInt8.ofNat c] rfl (own_row _ [UInt8.ofNat c] _ HV.out (by simp)) ?_)))
              go_roundw
              case rel => exact ⟨k + 1, _, acc ++ p ++ [UInt8.ofNat c], by omega, by go_num, rfl, by omega, by omega, by rw [X.out]; simp [str_append], by rw [List.length_append, List.length_append, List.length_singleton]; omega, HT2, (by repeat (first | exact Bel.refl _ | refine Bel.drewN ?_ _ | refine Bel.drew ?_ | refine Bel.alloc ?_ _ | refine Bel.trans ?_ (by assumption) | refine Bel.setCell ?_ (by simp; omega) _))⟩
              case measure => simp [intOf]; omega
    · obtain rfl : k = xs.length := by omega
      have HE := Lib.hid (show M.encK 0 xs = some (acc ++ M.shiftB now 0) by rw [HT.out, List.drop_length, M.encK]; rfl)
      by_cases h0 : now = 0
      · subst h0
        have HF := Lib.hid (show M.rawK xs = (acc, 0) by rw [M.rawK, HE.out]; simp [M.shiftB])
        go_wp2_with fail
        go_ret2
        rw [HF.out]
        exact ⟨rfl, hb⟩
      · have e1 : (now != 0) = true := by simpa using h0
        have HF := Lib.hid (show M.rawK xs = (acc ++ [27, 40, 66], 0) by rw [M.rawK, HE.out, M.shiftB, if_neg (by omega)]; rfl)
        clear h0
        go_wp2_with fail
        go_ret2
        rw [HF.out]
        exact ⟨by simp [str_append], hb⟩
end Go.Proofs.YteingkjdemlhgaaGreatDoor

/-
  The document's answers on encoders: Digits, OutputOf, HasOf, EncodeOf.
-/
namespace Go.Proofs.YteingkjdemlhgaaGreatDoor
open Go.RowKit
set_option maxRecDepth 1000000
theorem outputOf_any (n : Int) (w : World) : Calls Tryz.prog 33 #[.int .i64 n] w fun e w' => e = .returned (.int .i64 (M.outE n)) ∧ w = w' := by
  by_cases h1 : n = 2
  · have H := Lib.hid (show M.outE n = 1 by rw [M.outE, if_pos (.inl h1)])
    go_enter Tryz.func33, Tryz.ntmps33
    go_wp2
    go_ret
    exact ⟨by rw [H.out]; rfl, rfl⟩
  · by_cases h2 : n = 3
    · have H := Lib.hid (show M.outE n = 1 by rw [M.outE, if_pos (.inr (.inl h2))])
      have e1 : (n == 2) = false := by simpa using h1
      go_enter Tryz.func33, Tryz.ntmps33
      go_wp2
      go_ret
      exact ⟨by rw [H.out]; rfl, rfl⟩
    · by_cases h3 : n = 7
      · have H := Lib.hid (show M.outE n = 1 by rw [M.outE, if_pos (.inr (.inr h3))])
        have e1 : (n == 2) = false := by simpa using h1
        have e2 : (n == 3) = false := by simpa using h2
        go_enter Tryz.func33, Tryz.ntmps33
        go_wp2
        go_ret
        exact ⟨by rw [H.out]; rfl, rfl⟩
      · have H := Lib.hid (show M.outE n = n by rw [M.outE, if_neg (by omega)])
        have e1 : (n == 2) = false := by simpa using h1
        have e2 : (n == 3) = false := by simpa using h2
        have e3 : (n == 7) = false := by simpa using h3
        go_enter Tryz.func33, Tryz.ntmps33
        go_wp2
        go_ret
        exact ⟨by rw [H.out]; rfl, rfl⟩
theorem hasOf_any (e n : Int) (w : World) : Calls Tryz.prog 47 #[.int .i64 e, .int .i64 n] w fun r w' => r = .returned (.bool (M.hasE e n)) ∧ Bel w w' := by
  by_cases h4 : e = 4
  · subst h4
    obtain ⟨q, hq⟩ : ∃ q, M.byteOf false n = q := ⟨_, rfl⟩
    have H := Lib.hid (show M.hasE 4 n = decide (0 ≤ q) by rw [M.hasE, if_pos (.inl rfl), ← hq]; rfl)
    have HQ := Lib.hid hq
    clear hq
    go_enter Tryz.func47, Tryz.ntmps47
    go_wp2_with (go_at_call 77; refine (byteOf_any false n _).mono ?_; rintro e w' ⟨rfl, hb⟩; rw [HQ.out])
    go_ret
    exact ⟨by rw [H.out]; exact ret_bool (by simp), hb⟩
  · by_cases h5 : e = 5
    · subst h5
      obtain ⟨q, hq⟩ : ∃ q, M.byteOf true n = q := ⟨_, rfl⟩
      have H := Lib.hid (show M.hasE 5 n = decide (0 ≤ q) by rw [M.hasE, if_pos (.inr rfl), ← hq]; rfl)
      have HQ := Lib.hid hq
      clear hq
      go_enter Tryz.func47, Tryz.ntmps47
      go_wp2_with (go_at_call 77; refine (byteOf_any true n _).mono ?_; rintro e w' ⟨rfl, hb⟩; rw [HQ.out])
      go_ret
      exact ⟨by rw [H.out]; exact ret_bool (by simp), hb⟩
    · have e1 : (e == 4) = false := by simpa using h4
      have e2 : (e == 5) = false := by simpa using h5
      by_cases h6 : e = 6
      · subst h6
        have H := Lib.hid (show M.hasE 6 n = M.hasK n by rw [M.hasE, if_neg (by omega), if_pos rfl])
        go_enter Tryz.func47, Tryz.ntmps47
        go_wp2_with (go_at_call 78; refine (hasKana_any _ _).mono ?_; rintro e w' ⟨rfl, rfl⟩)
        go_ret
        exact ⟨by rw [H.out]; rfl, Bel.refl _⟩
      · have e3 : (e == 6) = false := by simpa using h6
        have H := Lib.hid (show M.hasE e n = true by rw [M.hasE, if_neg (by omega), if_neg h6])
        go_enter Tryz.func47, Tryz.ntmps47
        go_wp2_with fail
        go_ret
        exact ⟨by rw [H.out]; rfl, Bel.refl _⟩
theorem digits_any (u : Nat) (hu : u ≤ 1114111) : ∀ (w : World), Calls Tryz.prog 48 #[.int .i64 (u : Int)] w fun e w' => e = .returned (.string ⟨(Lib.decDigits u).toArray⟩) ∧ Bel w w' := by
  induction u using Nat.strongRecOn with
  | _ u ih =>
    intro w
    by_cases h : u < 10
    · obtain ⟨d, hd⟩ : ∃ d, d = UInt8.ofNat (48 + u) := ⟨_, rfl⟩
      have hv : d.toNat = 48 + u := by rw [hd]; exact UInt8.toNat_ofNat_of_lt' (show 48 + u < 256 by omega)
      have HD := Lib.hid (show Lib.decDigits u = [d] by rw [Lib.decDigits, dif_pos h, hd])
      have HV := Lib.hid (show [d].map byteVal = [.int .u8 (48 + (u : Int))] by simp [byteVal, hv])
      clear hv ih hd
      go_enter Tryz.func48, Tryz.ntmps48
      go_wp2_with ((with_reducible show wpList _ _ _ _ _ _); refine wpList_toString rfl (.tmp 8) _ _ 5 rfl Tryz.underlying120 Tryz.underlying5 Tryz.underlying9 _ _ [d] rfl (own_row _ [d] _ HV.out (by simp)) ?_)
      go_ret
      exact ⟨by rw [HD.out]; rfl, (by repeat (first | exact Bel.refl _ | refine Bel.drewN ?_ _ | refine Bel.drew ?_ | refine Bel.alloc ?_ _ | refine Bel.trans ?_ (by assumption) | refine Bel.setCell ?_ (by simp; omega) _))⟩
    · have HD := Lib.hid (show Lib.decDigits u = Lib.decDigits (u / 10) ++ Lib.decDigits (u % 10) by
        rw [Lib.decDigits, dif_neg h]
        congr 1
        rw [Lib.decDigits, dif_pos (by omega)])
      have i1 := ih (u / 10) (by omega) (by omega)
      have i2 := ih (u % 10) (by omega) (by omega)
      have l1 := dec_len 6 (u / 10) (by omega)
      have l2 := dec_len 6 (u % 10) (by omega)
      have I1 := Lib.hid i1
      have I2 := Lib.hid i2
      clear ih i1 i2
      go_enter Tryz.func48, Tryz.ntmps48
      go_wp2_with fail
      have c1 : (u : Int) / 10 = ((u / 10 : Nat) : Int) := by omega
      have c2 : (u : Int) % 10 = ((u % 10 : Nat) : Int) := by omega
      have C2 := Lib.hid c2
      rw [c1]
      refine (I1.out _).mono ?_
      rintro e w1 ⟨rfl, b1⟩
      clear c1 c2
      go_wp2_with fail
      rw [C2.out]
      refine (I2.out _).mono ?_
      rintro e w2 ⟨rfl, b2⟩
      go_wp2_with fail
      go_ret
      refine ⟨?_, b1.trans b2⟩
      rw [HD.out]
      exact ret_one (congrArg Value.string (by rw [str_append]))
theorem rawS_cases (user : Bool) (xs : List Int) : (∃ b, M.rawS user xs = (b, 0)) ∨ M.rawS user xs = ([], 5) := by
  unfold M.rawS; cases M.encodeS user xs with
  | none => exact .inr rfl
  | some b => exact .inl ⟨b, rfl⟩
theorem rawK_cases (xs : List Int) : (∃ b, M.rawK xs = (b, 0)) ∨ M.rawK xs = ([], 5) := by
  unfold M.rawK; cases M.encK 0 xs with
  | none => exact .inr rfl
  | some b => exact .inl ⟨b, rfl⟩
theorem toldR_app (e mode : Int) (l m : List Int) : M.toldR e mode (l ++ m) = M.toldR e mode l ++ M.toldR e mode m := by unfold M.toldR; rw [List.flatMap_append]
theorem toldR_take (e mode : Int) (l : List Int) (k : Nat) (n : Int) (h : l[k]? = some n) : M.toldR e mode (l.take (k + 1)) = M.toldR e mode (l.take k) ++ (if mode = 0 ∨ M.hasE e n = true then [n] else (M.numE n).map (fun c => (c.toNat : Int))) := by
  rw [List.take_add_one, h, toldR_app]
  simp [M.toldR]
theorem toldR_len (e mode : Int) (l : List Int) (h : ∀ n ∈ l, 0 ≤ n ∧ n ≤ 1114111) : (M.toldR e mode l).length ≤ 10 * l.length := by
  induction l with
  | nil => simp [M.toldR]
  | cons n l ih =>
    have h1 := ih (fun m hm => h m (by simp [hm]))
    have h2 := numE_len n (h n (by simp)).1 (h n (by simp)).2
    have h3 : M.toldR e mode (n :: l) = (if mode = 0 ∨ M.hasE e n = true then [n] else (M.numE n).map (fun c => (c.toNat : Int))) ++ M.toldR e mode l := by simp [M.toldR]
    rw [h3, List.length_append, List.length_cons]
    split
    · simp; omega
    · rw [List.length_map]; omega
theorem toldR_bd (e mode : Int) (l : List Int) (h : ∀ n ∈ l, 0 ≤ n ∧ n ≤ 1114111) : ∀ n ∈ M.toldR e mode l, 0 ≤ n ∧ n ≤ 1114111 := fun n hn => by
  unfold M.toldR at hn
  rw [List.mem_flatMap] at hn
  obtain ⟨m, hm, hn⟩ := hn
  split at hn
  · simp only [List.mem_singleton] at hn; subst hn; exact h _ hm
  · rw [List.mem_map] at hn
    obtain ⟨c, hc, rfl⟩ := hn
    have := c.toNat_lt
    omega
set_option maxHeartbeats 4000000 in
theorem encodeOf_to (e mode : Int) (v : Value) (xs : List Int) (w : World) (hv : IntSl w v xs) (l : List UInt8) (k : Int) (h : M.encE e mode xs = (l, k)) :
    Calls Tryz.prog 19 #[.int .i64 e, .int .i64 mode, v] w fun r w' => r = .returned (.tuple #[.string ⟨l.toArray⟩, .int .i64 k]) ∧ Bel w w' := by
  unfold M.encE at h
  cases hi : M.isEnc e with
  | false =>
    rw [hi, if_pos rfl] at h
    injection h with h1 h2
    subst h1; subst h2
    have HI := Lib.hid hi
    clear hi
    go_enter Tryz.func19, Tryz.ntmps19
    go_wp2_with (go_at_call 46; refine (isEncoding_any _ _).mono ?_; rintro e w' ⟨rfl, rfl⟩; rw [HI.out])
    go_ret2
    exact ⟨rfl, Bel.refl _⟩
  | true =>
    rw [hi, if_neg (by decide)] at h
    have HI := Lib.hid hi
    by_cases hm : mode ≠ 0 ∧ mode ≠ 1
    · rw [if_pos hm] at h
      injection h with h1 h2
      subst h1; subst h2
      have e1 : (mode != 0) = true := by simpa using hm.1
      have e2 : (mode != 1) = true := by simpa using hm.2
      clear hm hi
      go_enter Tryz.func19, Tryz.ntmps19
      go_wp2_with (go_at_call 46; refine (isEncoding_any _ _).mono ?_; rintro e w' ⟨rfl, rfl⟩; rw [HI.out])
      go_ret2
      exact ⟨rfl, Bel.refl _⟩
    · rw [if_neg hm] at h
      have hm2 : mode = 0 ∨ mode = 1 := by omega
      clear hm
      by_cases hp : M.points xs = 0
      · rw [if_neg (by simpa using hp), ← M.toldR_eq e mode xs hi hm2] at h
        have hOut := M.outE_cases e hi
        have hO4 : M.outE e = 4 → e = 4 := fun hh => by unfold M.outE at hh; split at hh <;> omega
        have hO5 : M.outE e = 5 → e = 5 := fun hh => by unfold M.outE at hh; split at hh <;> omega
        have hcs : xs.length ≤ 3000 ∧ ∀ n ∈ xs, M.scalar n = true := by
          unfold M.points at hp
          split at hp
          · cases hp
          · split at hp
            · rename_i h8 h9; exact ⟨by omega, List.all_eq_true.1 h9⟩
            · cases hp
        obtain ⟨hl, hs⟩ := hcs
        have hbd : ∀ n ∈ xs, 0 ≤ n ∧ n ≤ 1114111 := fun n hn => by have h9 := hs n hn; simp only [M.scalar, decide_eq_true_eq] at h9; omega
        have HBD := Lib.hid hbd
        have HW := Lib.hid h
        have HP := Lib.hid hp
        clear hp hs hi h hbd
        obtain ⟨a, ca, rfl, hc1, hc2, hn, hx⟩ := id hv
        unfold maxLen at hc2
        have HX := Lib.hid hx
        have HN := Lib.hid hn
        clear hx hn
        have hx0 := hv
        clear hv
        rcases hm2 with rfl | rfl
        · skip
          go_enter Tryz.func19, Tryz.ntmps19
          go_wp2_with (first | (go_at_call 46; refine (isEncoding_any _ _).mono ?_; rintro e w' ⟨rfl, rfl⟩; rw [HI.out]) | (go_at_call 31; refine (checkPoints_any _ xs _ hx0).mono ?_; rintro e w' ⟨rfl, rfl⟩; rw [HP.out]))
          go_loopw [9, 10] (fun v i wr => ∃ (k : Nat), k ≤ xs.length ∧ i = .int .i64 k ∧ Own w.heap.size 3 wr v ((M.toldR e 0 (xs.take k)).map (Value.int .i64)) ∧ Bel w wr) (fun _ i _ => xs.length - (intOf i).toNat)
          case atStart => exact ⟨0, by omega, rfl, Own.nil _ _ _, Bel.refl _⟩
          case round =>
            obtain ⟨k, hk, rfl, hown, hb⟩ := hrel
            by_cases hlt : k < xs.length
            · obtain ⟨n, hn⟩ : ∃ n, xs[k]? = some n := ⟨_, List.getElem?_eq_getElem hlt⟩
              cases a with
              | none => exfalso; have h3 := hlt; rw [HN.out rfl, List.length_nil] at h3; omega
              | some x =>
                have hcw : w.cell? (x.add k) = some (.int .i64 n) := HX.out x rfl k n hn
                have hcell : wr.cell? (x.add k) = some (.int .i64 n) := (hb.cell (World.block_lt_of_cell? w _ hcw)).trans hcw
                have hbk := World.block_lt_of_cell? wr _ hcell
                have HT := Lib.hid (toldR_take e 0 xs k n hn)
                have hl1 := toldR_len e 0 (xs.take k) (fun m hm => HBD.out m (List.mem_of_mem_take hm))
                rw [List.length_take] at hl1
                have hnb := HBD.out n (List.mem_of_getElem? hn)
                have hBs := hb.size
                clear hcw hn
                by_cases hh : (0 : Int) = 0 ∨ M.hasE e n = true
                · rw [if_pos hh] at HT
                  go_wp2_with (at_builtin; refine wpList_app rfl (.tmp 45) (.tmp 50) 30 rfl elemInt (by decide) w.heap.size _ _ _ rfl rfl hown rfl (by simp; omega) (by first | exact Nat.le_refl _ | assumption | (have := hb.size; omega)) ?_; intro v' w1 hown' hb1)
                  go_roundw
                  case rel => exact ⟨k + 1, by omega, by go_num, by rw [HT.out, List.map_append]; exact hown', hb.upto hb1 (Nat.le_refl _)⟩
                  case measure => simp [intOf]; omega
                · rw [if_neg hh] at HT
                  exfalso
                  exact absurd (.inl rfl) hh
            · obtain rfl : k = xs.length := by omega
              rw [List.take_length] at hown
              have hys := hown.ints
              have hl2 := toldR_len e 0 xs HBD.out
              have HB2 := Lib.hid (toldR_bd e 0 xs HBD.out)
              generalize M.toldR e 0 xs = ys at *
              clear HBD hown
              rcases hOut with h1 | h1 | h1 | h1
              · have HO := Lib.hid h1
                have hw := HW.out
                rw [h1, M.writeE, if_neg (by decide), if_neg (by decide)] at hw
                injection hw with hw1 hw2
                subst hw1; subst hw2
                clear h1
                go_wp2_with (first | (go_at_call 33; refine (outputOf_any _ _).mono ?_; rintro e w' ⟨rfl, rfl⟩; rw [HO.out]) | (go_at_call 49; refine (encodeUtf8_any _ ys _ hys (by omega) HB2.out).mono ?_; rintro e w' ⟨rfl, hb4⟩))
                go_ret2
                exact ⟨rfl, hb.trans hb4⟩
              · have HO := Lib.hid h1
                obtain rfl := hO4 h1
                have hw := HW.out
                rw [h1, M.writeE, if_pos (by decide)] at hw
                have hw : M.rawS false ys = (l, _) := hw
                clear h1 hO4 hO5
                rcases rawS_cases false ys with ⟨bb, hr⟩ | hr
                all_goals
                  rw [hr] at hw
                  injection hw with hw1 hw2
                  subst hw1; subst hw2
                  have HR := Lib.hid hr
                  clear hr
                  go_wp2_with (first | (go_at_call 33; refine (outputOf_any _ _).mono ?_; rintro e w' ⟨rfl, rfl⟩; rw [HO.out]) | (go_at_call 50; refine (encodeSingle_any false _ ys _ hys (by omega)).mono ?_; rintro e w' ⟨rfl, hb4⟩; rw [HR.out]))
                  go_ret2
                  exact ⟨rfl, hb.trans hb4⟩
              · have HO := Lib.hid h1
                obtain rfl := hO5 h1
                have hw := HW.out
                rw [h1, M.writeE, if_pos (by decide)] at hw
                have hw : M.rawS true ys = (l, _) := hw
                clear h1 hO4 hO5
                rcases rawS_cases true ys with ⟨bb, hr⟩ | hr
                all_goals
                  rw [hr] at hw
                  injection hw with hw1 hw2
                  subst hw1; subst hw2
                  have HR := Lib.hid hr
                  clear hr
                  go_wp2_with (first | (go_at_call 33; refine (outputOf_any _ _).mono ?_; rintro e w' ⟨rfl, rfl⟩; rw [HO.out]) | (go_at_call 50; refine (encodeSingle_any true _ ys _ hys (by omega)).mono ?_; rintro e w' ⟨rfl, hb4⟩; rw [HR.out]))
                  go_ret2
                  exact ⟨rfl, hb.trans hb4⟩
              · have HO := Lib.hid h1
                have hw := HW.out
                rw [h1, M.writeE, if_neg (by decide), if_pos rfl] at hw
                clear h1 hO4 hO5
                rcases rawK_cases ys with ⟨bb, hr⟩ | hr
                all_goals
                  rw [hr] at hw
                  injection hw with hw1 hw2
                  subst hw1; subst hw2
                  have HR := Lib.hid hr
                  clear hr
                  go_wp2_with (first | (go_at_call 33; refine (outputOf_any _ _).mono ?_; rintro e w' ⟨rfl, rfl⟩; rw [HO.out]) | (go_at_call 51; refine (encodeKana_any _ ys _ hys (by omega)).mono ?_; rintro e w' ⟨rfl, hb4⟩; rw [HR.out]))
                  go_ret2
                  exact ⟨rfl, hb.trans hb4⟩
        · skip
          go_enter Tryz.func19, Tryz.ntmps19
          go_wp2_with (first | (go_at_call 46; refine (isEncoding_any _ _).mono ?_; rintro e w' ⟨rfl, rfl⟩; rw [HI.out]) | (go_at_call 31; refine (checkPoints_any _ xs _ hx0).mono ?_; rintro e w' ⟨rfl, rfl⟩; rw [HP.out]))
          go_loopw [9, 10] (fun v i wr => ∃ (k : Nat), k ≤ xs.length ∧ i = .int .i64 k ∧ Own w.heap.size 3 wr v ((M.toldR e 1 (xs.take k)).map (Value.int .i64)) ∧ Bel w wr) (fun _ i _ => xs.length - (intOf i).toNat)
          case atStart => exact ⟨0, by omega, rfl, Own.nil _ _ _, Bel.refl _⟩
          case round =>
            obtain ⟨k, hk, rfl, hown, hb⟩ := hrel
            by_cases hlt : k < xs.length
            · obtain ⟨n, hn⟩ : ∃ n, xs[k]? = some n := ⟨_, List.getElem?_eq_getElem hlt⟩
              cases a with
              | none => exfalso; have h3 := hlt; rw [HN.out rfl, List.length_nil] at h3; omega
              | some x =>
                have hcw : w.cell? (x.add k) = some (.int .i64 n) := HX.out x rfl k n hn
                have hcell : wr.cell? (x.add k) = some (.int .i64 n) := (hb.cell (World.block_lt_of_cell? w _ hcw)).trans hcw
                have hbk := World.block_lt_of_cell? wr _ hcell
                have HT := Lib.hid (toldR_take e 1 xs k n hn)
                have hl1 := toldR_len e 1 (xs.take k) (fun m hm => HBD.out m (List.mem_of_mem_take hm))
                rw [List.length_take] at hl1
                have hnb := HBD.out n (List.mem_of_getElem? hn)
                have hBs := hb.size
                clear hcw hn
                by_cases hh : (1 : Int) = 0 ∨ M.hasE e n = true
                · rw [if_pos hh] at HT
                  have HH := Lib.hid (show M.hasE e n = true from hh.resolve_left (by decide))
                  clear hh
                  go_wp2_with (first | (go_at_call 47; refine (hasOf_any e n _).mono ?_; rintro e w' ⟨rfl, b1⟩; rw [HH.out]; have hown1 := hown.bel b1; have hcell1 := (b1.cell hbk).trans hcell; have hB1 := b1.size) | (at_builtin; refine wpList_app rfl (.tmp 45) (.tmp 50) 30 rfl elemInt (by decide) w.heap.size _ _ _ rfl rfl hown1 rfl (by simp; omega) (by first | exact Nat.le_refl _ | assumption | (have := hb.size; omega)) ?_; intro v' w1 hown' hb1))
                  go_roundw
                  case rel => exact ⟨k + 1, by omega, by go_num, by rw [HT.out, List.map_append]; exact hown', (hb.trans b1).upto hb1 (Nat.le_refl _)⟩
                  case measure => simp [intOf]; omega
                · rw [if_neg hh] at HT
                  have HH := Lib.hid (show M.hasE e n = false by cases hq : M.hasE e n with | true => exact absurd (.inr hq) hh | false => rfl)
                  clear hh
                  obtain ⟨u, rfl⟩ := Int.eq_ofNat_of_zero_le hnb.1
                  have hne := numE_len u hnb.1 hnb.2
                  have hdl := dec_len 6 u (by omega)
                  have hit : Lib.itoa (u : Int) = Lib.decDigits u := by rw [Lib.itoa, if_neg (by omega)]; rfl
                  have HZ := Lib.hid (show ((⟨#[38, 35]⟩ : ByteArray) ++ ⟨(Lib.decDigits u).toArray⟩ ++ ⟨#[59]⟩ : ByteArray).data.toList = M.numE u by simp [M.numE, hit])
                  have hzs : ((⟨#[38, 35]⟩ : ByteArray) ++ ⟨(Lib.decDigits u).toArray⟩ ++ ⟨#[59]⟩ : ByteArray).size = (M.numE u).length := by rw [Lib.size_eq, HZ.out]
                  clear hit
                  go_wp2_with (first | (go_at_call 47; refine (hasOf_any e u _).mono ?_; rintro e w' ⟨rfl, b1⟩; rw [HH.out]; have hown1 := hown.bel b1; have hcell1 := (b1.cell hbk).trans hcell) | (go_at_call 48; refine (digits_any u (by omega) _).mono ?_; rintro e w' ⟨rfl, b2⟩))
                  generalize hzz : ((⟨#[38, 35]⟩ : ByteArray) ++ ⟨(Lib.decDigits u).toArray⟩ ++ ⟨#[59]⟩ : ByteArray) = z at *
                  have hown2 := hown1.bel b2
                  have hbq := (hb.trans b1).trans b2
                  clear hzz hown hown1 hcell hcell1
                  go_loopw [9, 12] (fun v i wq => ∃ (j : Nat), j ≤ z.size ∧ i = .int .i64 j ∧ Own w.heap.size 3 wq v ((M.toldR e 1 (xs.take k) ++ ((M.numE u).take j).map (fun c => (c.toNat : Int))).map (Value.int .i64)) ∧ Bel w wq) (fun _ i _ => z.size - (intOf i).toNat)
                  case atStart => exact ⟨0, by omega, rfl, by simpa using hown2, hbq⟩
                  case round =>
                    clear hown2 hbq
                    obtain ⟨j, hj, rfl, hown, hbq⟩ := hrel
                    by_cases hjl : j < z.size
                    · have hzj : (M.numE u)[j]? = some z[j] := by rw [← HZ.out]; exact byte_at z j hjl
                      have hcl : z[j].toNat < 256 := z[j].toNat_lt
                      have hBq := hbq.size
                      have htl := List.length_take_le j (M.numE u)
                      have HTJ := Lib.hid (show (M.toldR e 1 (xs.take k) ++ ((M.numE u).take (j + 1)).map (fun c => (c.toNat : Int))).map (Value.int .i64) = (M.toldR e 1 (xs.take k) ++ ((M.numE u).take j).map (fun c => (c.toNat : Int))).map (Value.int .i64) ++ [.int .i64 (z[j].toNat : Int)] by
                        rw [List.take_add_one, hzj]; simp)
                      clear hzj
                      go_wp2_with (at_builtin; refine wpList_app rfl (.tmp 65) (.tmp 70) 30 rfl elemInt (by decide) w.heap.size _ _ _ rfl rfl hown rfl (by simp; omega) (by first | exact Nat.le_refl _ | assumption | (have := hb.size; omega)) ?_; intro v' w1 hown' hb1)
                      go_roundw
                      case rel => exact ⟨j + 1, by omega, by go_num, by rw [HTJ.out]; exact hown', hbq.upto hb1 (Nat.le_refl _)⟩
                      case measure => simp [intOf]; omega
                    · obtain rfl : j = z.size := by omega
                      have e1 : (M.numE u).take z.size = M.numE u := by rw [hzs, List.take_length]
                      rw [e1] at hown
                      have HT2 := Lib.hid (show (M.toldR e 1 (xs.take (k + 1))).map (Value.int .i64) = (M.toldR e 1 (xs.take k) ++ (M.numE u).map (fun c => (c.toNat : Int))).map (Value.int .i64) by rw [HT.out])
                      go_wp2_with fail
                      go_roundw
                      case rel => exact ⟨k + 1, by omega, by go_num, by rw [HT2.out]; exact hown, hbq⟩
                      case measure => simp [intOf]; omega
            · obtain rfl : k = xs.length := by omega
              rw [List.take_length] at hown
              have hys := hown.ints
              have hl2 := toldR_len e 1 xs HBD.out
              have HB2 := Lib.hid (toldR_bd e 1 xs HBD.out)
              generalize M.toldR e 1 xs = ys at *
              clear HBD hown
              rcases hOut with h1 | h1 | h1 | h1
              · have HO := Lib.hid h1
                have hw := HW.out
                rw [h1, M.writeE, if_neg (by decide), if_neg (by decide)] at hw
                injection hw with hw1 hw2
                subst hw1; subst hw2
                clear h1
                go_wp2_with (first | (go_at_call 33; refine (outputOf_any _ _).mono ?_; rintro e w' ⟨rfl, rfl⟩; rw [HO.out]) | (go_at_call 49; refine (encodeUtf8_any _ ys _ hys (by omega) HB2.out).mono ?_; rintro e w' ⟨rfl, hb4⟩))
                go_ret2
                exact ⟨rfl, hb.trans hb4⟩
              · have HO := Lib.hid h1
                obtain rfl := hO4 h1
                have hw := HW.out
                rw [h1, M.writeE, if_pos (by decide)] at hw
                have hw : M.rawS false ys = (l, _) := hw
                clear h1 hO4 hO5
                rcases rawS_cases false ys with ⟨bb, hr⟩ | hr
                all_goals
                  rw [hr] at hw
                  injection hw with hw1 hw2
                  subst hw1; subst hw2
                  have HR := Lib.hid hr
                  clear hr
                  go_wp2_with (first | (go_at_call 33; refine (outputOf_any _ _).mono ?_; rintro e w' ⟨rfl, rfl⟩; rw [HO.out]) | (go_at_call 50; refine (encodeSingle_any false _ ys _ hys (by omega)).mono ?_; rintro e w' ⟨rfl, hb4⟩; rw [HR.out]))
                  go_ret2
                  exact ⟨rfl, hb.trans hb4⟩
              · have HO := Lib.hid h1
                obtain rfl := hO5 h1
                have hw := HW.out
                rw [h1, M.writeE, if_pos (by decide)] at hw
                have hw : M.rawS true ys = (l, _) := hw
                clear h1 hO4 hO5
                rcases rawS_cases true ys with ⟨bb, hr⟩ | hr
                all_goals
                  rw [hr] at hw
                  injection hw with hw1 hw2
                  subst hw1; subst hw2
                  have HR := Lib.hid hr
                  clear hr
                  go_wp2_with (first | (go_at_call 33; refine (outputOf_any _ _).mono ?_; rintro e w' ⟨rfl, rfl⟩; rw [HO.out]) | (go_at_call 50; refine (encodeSingle_any true _ ys _ hys (by omega)).mono ?_; rintro e w' ⟨rfl, hb4⟩; rw [HR.out]))
                  go_ret2
                  exact ⟨rfl, hb.trans hb4⟩
              · have HO := Lib.hid h1
                have hw := HW.out
                rw [h1, M.writeE, if_neg (by decide), if_pos rfl] at hw
                clear h1 hO4 hO5
                rcases rawK_cases ys with ⟨bb, hr⟩ | hr
                all_goals
                  rw [hr] at hw
                  injection hw with hw1 hw2
                  subst hw1; subst hw2
                  have HR := Lib.hid hr
                  clear hr
                  go_wp2_with (first | (go_at_call 33; refine (outputOf_any _ _).mono ?_; rintro e w' ⟨rfl, rfl⟩; rw [HO.out]) | (go_at_call 51; refine (encodeKana_any _ ys _ hys (by omega)).mono ?_; rintro e w' ⟨rfl, hb4⟩; rw [HR.out]))
                  go_ret2
                  exact ⟨rfl, hb.trans hb4⟩
      · rw [if_pos (by simpa using hp)] at h
        injection h with h1 h2
        have hk : (k != 0) = true := by rw [← h2]; simpa using hp
        subst h1
        have HP := Lib.hid h2
        clear h2 hp hi
        rcases hm2 with rfl | rfl
        all_goals
          go_enter Tryz.func19, Tryz.ntmps19
          go_wp2_with (first | (go_at_call 46; refine (isEncoding_any _ _).mono ?_; rintro e w' ⟨rfl, rfl⟩; rw [HI.out]) | (go_at_call 31; refine (checkPoints_any v xs _ hv).mono ?_; rintro e w' ⟨rfl, rfl⟩; rw [HP.out]))
          go_ret2
          exact ⟨rfl, Bel.refl _⟩
end Go.Proofs.YteingkjdemlhgaaGreatDoor

/-
  The laws on encoders: encoderBegun, EncoderTells.
-/
namespace Go.Proofs.YteingkjdemlhgaaGreatDoor
open Go.RowKit
set_option maxRecDepth 1000000
theorem itoa_12354 : Lib.itoa 12354 = [49, 50, 51, 53, 52] := by
  show Lib.decDigits 12354 = _
  rw [Lib.decDigits, dif_neg (by decide), Lib.decDigits, dif_neg (by decide), Lib.decDigits, dif_neg (by decide), Lib.decDigits, dif_neg (by decide), Lib.decDigits, dif_pos (by decide)]
  decide +kernel
theorem told_begun : M.encE 4 1 [8364, 12354] = ([128, 38, 35, 49, 50, 51, 53, 52, 59], 0) := by
  have h1 : M.hasE 4 8364 = true := by decide +kernel
  have h2 : M.hasE 4 12354 = false := by decide +kernel
  have hT : M.toldE (M.outE 4) [8364, 12354] = [8364, 38, 35, 49, 50, 51, 53, 52, 59] := by
    rw [show M.outE 4 = 4 from rfl]
    unfold M.toldE
    simp only [List.flatMap_cons, List.flatMap_nil, h1, h2, M.numE, itoa_12354]
    rfl
  rw [M.encE, if_neg (by decide), if_neg (by decide), if_neg (by decide), if_pos rfl, hT]
  decide +kernel
theorem encoderBegun_any (w : World) (htab : Tab w) : Calls Tryz.prog 18 #[] w fun e w' => e = .returned (.bool true) ∧ Bel w w' := by
  have h1 := output_to 3 1 0 (by decide)
  have h2 := has_to 4 8364 true 0 (by decide +kernel)
  have h3 := has_to 6 8364 false 0 (by decide +kernel)
  have h5 : M.encE 4 0 [12354] = ([], 5) := by decide +kernel
  have H1 := Lib.hid h1
  have H2 := Lib.hid h2
  have H3 := Lib.hid h3
  have H5 := Lib.hid h5
  clear h1 h2 h3 h5
  go_enter Tryz.func18, Tryz.ntmps18
  go_wp2_with fail
  refine (H1.out _).mono ?_
  rintro e w1 ⟨rfl, rfl⟩
  go_wp2_with fail
  refine (H2.out _).mono ?_
  rintro e w2 ⟨rfl, b2⟩
  go_wp2_with fail
  refine (H3.out _).mono ?_
  rintro e w3 ⟨rfl, b3⟩
  go_wp2_with fail
  have bA := b2.trans b3
  have i4 := IntSl.lit w3 3 [8364, 12354] (by decide)
  refine (enc_to 4 1 _ [8364, 12354] _ i4 (htab.bel (bA.alloc _)) _ _ told_begun).mono ?_
  rintro e w4 ⟨rfl, b4⟩
  have bB := (bA.alloc (.cells #[.int .i64 8364, .int .i64 12354] 3)).trans b4
  go_wp2_with fail
  have i5 := IntSl.lit w4 3 [12354] (by decide)
  refine (enc_to 4 0 _ [12354] _ i5 (htab.bel (bB.alloc _)) _ _ H5.out).mono ?_
  rintro e w5 ⟨rfl, b5⟩
  have bC := (bB.alloc (.cells #[.int .i64 12354] 3)).trans b5
  go_wp2_with fail
  go_ret
  exact ⟨rfl, bC⟩
end Go.Proofs.YteingkjdemlhgaaGreatDoor

/-
  Small answers that several laws ask.
-/
namespace Go.Proofs.YteingkjdemlhgaaGreatDoor
open Go.RowKit
set_option maxRecDepth 1000000
theorem long_to (s : ByteArray) (n : Int) (h : M.long s.data.toList = n) (w : World) : Calls Tryz.prog 20 #[.string s] w fun e w' => e = .returned (.int .i64 n) ∧ w = w' := by
  have := tooLong_any s w; rw [h] at this; exact this
theorem long_cases (s : ByteArray) : (3000 < s.size ∧ M.long s.data.toList = 2) ∨ (s.size ≤ 3000 ∧ M.long s.data.toList = 0) := by
  by_cases h : 3000 < s.size
  · exact .inl ⟨h, by rw [M.long, if_pos (by rw [← Lib.size_eq]; exact h)]⟩
  · exact .inr ⟨by omega, by rw [M.long, if_neg (by rw [← Lib.size_eq]; exact h)]⟩
end Go.Proofs.YteingkjdemlhgaaGreatDoor

/-
  Package stream: Feed.
-/
namespace Go.Proofs.YteingkjdemlhgaaGreatDoor
open Go.RowKit
set_option maxRecDepth 1000000
theorem check_to (n : Int) (r : ByteArray) (sg : Int) (fr st : Bool) (k : Int) (hk : M.checkM ⟨n, r.data.toList, sg, fr, st⟩ = k) (w : World) : Calls Tryz.prog 42 #[.agg #[.int .i64 n, .string r, .int .i64 sg, .bool fr, .bool st]] w fun e w' => e = .returned (.int .i64 k) ∧ Bel w w' := check_any n r sg fr st k hk w
set_option maxHeartbeats 4000000 in
theorem feed_any (n : Int) (r : ByteArray) (sg : Int) (fr st : Bool) (b : ByteArray) (last : Bool) (xs : List Int) (d2 : M.St) (k : Int) (hf : M.feedE ⟨n, r.data.toList, sg, fr, st⟩ b.data.toList last = (xs, d2, k)) (w : World) :
    Calls Tryz.prog 26 #[.agg #[.int .i64 n, .string r, .int .i64 sg, .bool fr, .bool st], .string b, .bool last] w fun e w' => ∃ v, e = .returned (.tuple #[v, stV d2, .int .i64 k]) ∧ Own w.heap.size 3 w' v (xs.map (Value.int .i64)) ∧ Bel w w' := by
  obtain ⟨q, hq⟩ : ∃ q, M.checkM ⟨n, r.data.toList, sg, fr, st⟩ = q := ⟨_, rfl⟩
  have HQ := Lib.hid hq
  have hR0 : Box ((w.alloc (.cells #[.int .i64 n, .string r, .int .i64 sg, .bool fr, .bool st] 23)).alloc (.cells #[.int .i64 0, .string ⟨#[]⟩, .int .i64 0, .bool false, .bool false] 23)) (w.heap.size + 1) 23 [.int .i64 0, .string ⟨#[]⟩, .int .i64 0, .bool false, .bool false] := by have := Box.new (w.alloc (.cells #[.int .i64 n, .string r, .int .i64 sg, .bool fr, .bool st] 23)) 23 [.int .i64 0, .string ⟨#[]⟩, .int .i64 0, .bool false, .bool false]; simpa using this
  have hS0 : Box ((w.alloc (.cells #[.int .i64 n, .string r, .int .i64 sg, .bool fr, .bool st] 23)).alloc (.cells #[.int .i64 0, .string ⟨#[]⟩, .int .i64 0, .bool false, .bool false] 23)) w.heap.size 23 [.int .i64 n, .string r, .int .i64 sg, .bool fr, .bool st] := (Box.new w _ _).bel ((Bel.refl _).alloc _)
  have hb0 : Bel w ((w.alloc (.cells #[.int .i64 n, .string r, .int .i64 sg, .bool fr, .bool st] 23)).alloc (.cells #[.int .i64 0, .string ⟨#[]⟩, .int .i64 0, .bool false, .bool false] 23)) := (by repeat (first | exact Bel.refl _ | refine Bel.drewN ?_ _ | refine Bel.drew ?_ | refine Bel.alloc ?_ _ | refine Bel.trans ?_ (by assumption) | refine Bel.setCell ?_ (by simp; omega) _))
  by_cases h0 : q = 0
  · subst h0
    have hr := (M.check_right _).1 hq
    by_cases hb : 3000 < b.size
    · have e : (([] : List Int), (⟨0, [], 0, false, false⟩ : M.St), (2 : Int)) = (xs, d2, k) := by rw [← hf, M.feedE, if_pos hq, if_pos (by rw [← Lib.size_eq]; exact hb)]
      injection e with e1 e2
      injection e2 with e2 e3
      subst e1
      subst e2
      subst e3
      clear hf hr hq
      go_enter Tryz.func26, Tryz.ntmps26
      go_wp2_with (first | (go_at_call 42; refine (check_to n r sg fr st 0 HQ.out _).mono ?_; rintro e w' ⟨rfl, hb1⟩; have hR1 := hR0.bel hb1; have f0 := hR1.cell 0 _ rfl; have f1 := hR1.cell 1 _ rfl; have f2 := hR1.cell 2 _ rfl; have f3 := hR1.cell 3 _ rfl; have f4 := hR1.cell 4 _ rfl; have y0 := hR1.frozen 0; have y1 := hR1.frozen 1; have y2 := hR1.frozen 2; have y3 := hR1.frozen 3; have y4 := hR1.frozen 4))
      have hF := ((((hR1.set 0 (.int .i64 0)).set 1 (.string ⟨#[]⟩)).set 2 (.int .i64 0)).set 3 (.bool false)).set 4 (.bool false)
      have u0 := hF.cell 0 _ rfl
      have u1 := hF.cell 1 _ rfl
      have u2 := hF.cell 2 _ rfl
      have u3 := hF.cell 3 _ rfl
      have u4 := hF.cell 4 _ rfl
      refine bodyPost_ret (v := .tuple #[.slice none 0 0, .agg #[.int .i64 0, .string ⟨#[]⟩, .int .i64 0, .bool false, .bool false], .int .i64 2]) (by simp [results, Tryz.results26, go_sem, u0, u1, u2, u3, u4]) rfl ?_
      have hbw := hb0.trans hb1
      exact ⟨_, rfl, Own.nil _ _ _, ((((hbw.setCell (p := ⟨w.heap.size + 1, 0, none⟩) (by simp) _).setCell (p := ⟨w.heap.size + 1, 1, none⟩) (by simp) _).setCell (p := ⟨w.heap.size + 1, 2, none⟩) (by simp) _).setCell (p := ⟨w.heap.size + 1, 3, none⟩) (by simp) _).setCell (p := ⟨w.heap.size + 1, 4, none⟩) (by simp) _⟩
    · obtain ⟨⟨ys, d3⟩, hw⟩ : ∃ q, M.rawM ⟨n, r.data.toList, sg, fr, st⟩ b.data.toList last = q := ⟨_, rfl⟩
      have e : (ys, d3, (0 : Int)) = (xs, d2, k) := by rw [← hf, M.feedE, if_pos hq, if_neg (by rw [← Lib.size_eq]; exact hb), hw]
      injection e with e1 e2
      injection e2 with e2 e3
      subst e1
      subst e2
      subst e3
      obtain ⟨n2, l2, sg2, fr2, st2⟩ := d3
      have HW := Lib.hid hw
      have HR := Lib.hid hr
      have hb4 : b.size ≤ 3000 := by omega
      have hb3 : b.size ≤ 9000 := by omega
      clear hf hr hq hw hb
      go_enter Tryz.func26, Tryz.ntmps26
      go_wp2_with (first | (go_at_call 42; refine (check_to n r sg fr st 0 HQ.out _).mono ?_; rintro e w' ⟨rfl, hb1⟩; have hS1 := hS0.bel hb1; have f0 := hS1.cell 0 _ rfl; have f1 := hS1.cell 1 _ rfl; have f2 := hS1.cell 2 _ rfl; have f3 := hS1.cell 3 _ rfl; have f4 := hS1.cell 4 _ rfl) | (go_at_call 61; refine (rawS_any n r sg fr st b last HR.out hb3 _ _ HW.out _).mono ?_; rintro e w' ⟨v2, rfl, o2, hb2⟩; rw [stV]; have hR2 := Box.bel (Box.bel hR0 hb1) hb2; have r0 := hR2.cell 0 _ rfl; have r1 := hR2.cell 1 _ rfl; have r2 := hR2.cell 2 _ rfl; have r3 := hR2.cell 3 _ rfl; have r4 := hR2.cell 4 _ rfl; have y0 := hR2.frozen 0; have y1 := hR2.frozen 1; have y2 := hR2.frozen 2; have y3 := hR2.frozen 3; have y4 := hR2.frozen 4; have hlt2 := hR2.lt))
      have hN := Box.new w' 23 [.int .i64 n2, .string ⟨l2.toArray⟩, .int .i64 sg2, .bool fr2, .bool st2]
      have hR3 := hR2.bel ((Bel.refl w').alloc (.cells #[.int .i64 n2, .string ⟨l2.toArray⟩, .int .i64 sg2, .bool fr2, .bool st2] 23))
      have hbW : Bel w (w'.alloc (.cells #[.int .i64 n2, .string ⟨l2.toArray⟩, .int .i64 sg2, .bool fr2, .bool st2] 23)) := ((hb0.trans hb1).trans hb2).alloc _
      have hOW := (o2.mono (show w.heap.size + 1 + 1 ≤ _ from (hR0.bel hb1).lt)).alloc (.cells #[.int .i64 n2, .string ⟨l2.toArray⟩, .int .i64 sg2, .bool fr2, .bool st2] 23)
      have hs2 : w.heap.size + 2 ≤ w'.heap.size := hlt2
      clear f0 f1 f2 f3 f4 r0 r1 r2 r3 r4 y0 y1 y2 y3 y4 hS1 hR2 hlt2 hR0 hS0 hb0 o2 hb1 hb2
      generalize w'.alloc (.cells #[.int .i64 n2, .string ⟨l2.toArray⟩, .int .i64 sg2, .bool fr2, .bool st2] 23) = W at *
      generalize w'.heap.size = q at *
      have gq : ¬ q = w.heap.size + 1 := by omega
      have qg : ¬ w.heap.size + 1 = q := by omega
      have d0 := hN.cell 0 _ rfl
      have d1 := hN.cell 1 _ rfl
      have d2 := hN.cell 2 _ rfl
      have d3 := hN.cell 3 _ rfl
      have d4 := hN.cell 4 _ rfl
      have r0 := hR3.cell 0 _ rfl
      have r1 := hR3.cell 1 _ rfl
      have r2 := hR3.cell 2 _ rfl
      have r3 := hR3.cell 3 _ rfl
      have r4 := hR3.cell 4 _ rfl
      have q0 := hR3.frozen 0
      have q1 := hR3.frozen 1
      have q2 := hR3.frozen 2
      have q3 := hR3.frozen 3
      have q4 := hR3.frozen 4
      clear hs2 hb3 hb4
      go_region
      go_wp2_with fail
      have hF := Box.drew (((((hR3.set 0 (.int .i64 n2)).set 1 (.string ⟨l2.toArray⟩)).set 2 (.int .i64 sg2)).set 3 (.bool fr2)).set 4 (.bool st2))
      have u0 := hF.cell 0 _ rfl
      have u1 := hF.cell 1 _ rfl
      have u2 := hF.cell 2 _ rfl
      have u3 := hF.cell 3 _ rfl
      have u4 := hF.cell 4 _ rfl
      refine bodyPost_ret (v := .tuple #[v2, stV ⟨n2, l2, sg2, fr2, st2⟩, .int .i64 0]) (by simp [results, Tryz.results26, go_sem, stV, u0, u1, u2, u3, u4]) rfl ?_
      exact ⟨_, rfl, ((((((hOW.setCell (p := ⟨w.heap.size + 1, 0, none⟩) (by simp) _).setCell (p := ⟨w.heap.size + 1, 1, none⟩) (by simp) _).setCell (p := ⟨w.heap.size + 1, 2, none⟩) (by simp) _).setCell (p := ⟨w.heap.size + 1, 3, none⟩) (by simp) _).setCell (p := ⟨w.heap.size + 1, 4, none⟩) (by simp) _).drew.mono (by first | omega | (simp; omega) | simp)), ((((((hbW.setCell (p := ⟨w.heap.size + 1, 0, none⟩) (by simp) _).setCell (p := ⟨w.heap.size + 1, 1, none⟩) (by simp) _).setCell (p := ⟨w.heap.size + 1, 2, none⟩) (by simp) _).setCell (p := ⟨w.heap.size + 1, 3, none⟩) (by simp) _).setCell (p := ⟨w.heap.size + 1, 4, none⟩) (by simp) _).drew)⟩
  · have e : (([] : List Int), (⟨0, [], 0, false, false⟩ : M.St), q) = (xs, d2, k) := by rw [← hf, M.feedE, hq, if_neg h0]
    injection e with e1 e2
    injection e2 with e2 e3
    subst e1
    subst e2
    subst e3
    have e4 : (q == 0) = false := by simpa using h0
    have e5 : (q != 0) = true := by simpa using h0
    clear hf hq h0
    go_enter Tryz.func26, Tryz.ntmps26
    go_wp2_with (first | (go_at_call 42; refine (check_to n r sg fr st _ HQ.out _).mono ?_; rintro e w' ⟨rfl, hb1⟩; have hR1 := hR0.bel hb1; have f0 := hR1.cell 0 _ rfl; have f1 := hR1.cell 1 _ rfl; have f2 := hR1.cell 2 _ rfl; have f3 := hR1.cell 3 _ rfl; have f4 := hR1.cell 4 _ rfl; have y0 := hR1.frozen 0; have y1 := hR1.frozen 1; have y2 := hR1.frozen 2; have y3 := hR1.frozen 3; have y4 := hR1.frozen 4))
    have hF := ((((hR1.set 0 (.int .i64 0)).set 1 (.string ⟨#[]⟩)).set 2 (.int .i64 0)).set 3 (.bool false)).set 4 (.bool false)
    have u0 := hF.cell 0 _ rfl
    have u1 := hF.cell 1 _ rfl
    have u2 := hF.cell 2 _ rfl
    have u3 := hF.cell 3 _ rfl
    have u4 := hF.cell 4 _ rfl
    refine bodyPost_ret (v := .tuple #[.slice none 0 0, .agg #[.int .i64 0, .string ⟨#[]⟩, .int .i64 0, .bool false, .bool false], .int .i64 q]) (by simp [results, Tryz.results26, go_sem, u0, u1, u2, u3, u4]) rfl ?_
    have hbw := hb0.trans hb1
    exact ⟨_, rfl, Own.nil _ _ _, ((((hbw.setCell (p := ⟨w.heap.size + 1, 0, none⟩) (by simp) _).setCell (p := ⟨w.heap.size + 1, 1, none⟩) (by simp) _).setCell (p := ⟨w.heap.size + 1, 2, none⟩) (by simp) _).setCell (p := ⟨w.heap.size + 1, 3, none⟩) (by simp) _).setCell (p := ⟨w.heap.size + 1, 4, none⟩) (by simp) _⟩
end Go.Proofs.YteingkjdemlhgaaGreatDoor

/-
  The laws of streams: streamBegun.
-/
namespace Go.Proofs.YteingkjdemlhgaaGreatDoor
open Go.RowKit
set_option maxRecDepth 1000000
theorem decE_sl (n : Int) (s : ByteArray) (xs : List Int) (k : Int) (h : M.decE n s.data.toList = (xs, k)) (w : World) : Calls Tryz.prog 24 #[.int .i64 n, .string s] w fun e w' => ∃ A c, e = .returned (.tuple #[.slice A xs.length c, .int .i64 k]) ∧ Own w.heap.size 3 w' (.slice A xs.length c) (xs.map (Value.int .i64)) ∧ Bel w w' := by
  have := decE_any n s w
  rw [h] at this
  refine this.mono ?_
  rintro e w' ⟨v, rfl, ho, hb⟩
  obtain ⟨A, c, hv, _⟩ := ho.form
  rw [List.length_map] at hv
  subst hv
  exact ⟨A, c, rfl, ho, hb⟩
theorem open_yes (n : Int) (h : M.isEnc n = true) (w : World) : Calls Tryz.prog 25 #[.int .i64 n] w fun e w' => e = .returned (.tuple #[.agg #[.int .i64 n, .string ⟨#[]⟩, .int .i64 0, .bool false, .bool false], .int .i64 0]) ∧ Bel w w' := by
  have := open_any n w
  rw [M.openE, if_pos h] at this
  exact this
theorem open_no (n : Int) (h : M.isEnc n = false) (w : World) : Calls Tryz.prog 25 #[.int .i64 n] w fun e w' => e = .returned (.tuple #[.agg #[.int .i64 0, .string ⟨#[]⟩, .int .i64 0, .bool false, .bool false], .int .i64 6]) ∧ Bel w w' := by
  have := open_any n w
  rw [M.openE, if_neg (by rw [h]; decide)] at this
  exact this
theorem feed_sl (n : Int) (r : ByteArray) (sg : Int) (fr st : Bool) (b : ByteArray) (last : Bool) (xs : List Int) (n2 : Int) (l2 : List UInt8) (sg2 : Int) (fr2 st2 : Bool) (k : Int) (hf : M.feedE ⟨n, r.data.toList, sg, fr, st⟩ b.data.toList last = (xs, ⟨n2, l2, sg2, fr2, st2⟩, k)) (w : World) :
    Calls Tryz.prog 26 #[.agg #[.int .i64 n, .string r, .int .i64 sg, .bool fr, .bool st], .string b, .bool last] w fun e w' => ∃ A c, e = .returned (.tuple #[.slice A xs.length c, .agg #[.int .i64 n2, .string ⟨l2.toArray⟩, .int .i64 sg2, .bool fr2, .bool st2], .int .i64 k]) ∧ Own w.heap.size 3 w' (.slice A xs.length c) (xs.map (Value.int .i64)) ∧ Bel w w' := by
  refine (feed_any n r sg fr st b last xs _ k hf w).mono ?_
  rintro e w' ⟨v, rfl, ho, hb⟩
  obtain ⟨A, c, hv, _⟩ := ho.form
  rw [List.length_map] at hv
  subst hv
  exact ⟨A, c, rfl, ho, hb⟩
set_option maxHeartbeats 2000000 in
theorem streamBegun_any (w : World) : Calls Tryz.prog 16 #[] w fun e w' => e = .returned (.bool true) ∧ Bel w w' := by
  have f2 := Lib.hid (show M.feedE ⟨1, [], 0, false, false⟩ [97, 226, 130] false = ([97], ⟨1, [226, 130], 0, false, false⟩, 0) by decide +kernel)
  have f3 := Lib.hid (show M.feedE ⟨1, [226, 130], 0, false, false⟩ [172, 226] true = ([8364, 65533], ⟨1, [], 0, false, false⟩, 0) by decide +kernel)
  have f4 := Lib.hid (show M.decE 7 [120, 121, 122] = ([65533], 0) by decide +kernel)
  have f5 := Lib.hid (show M.checkM ⟨1, [226, 130], 0, false, false⟩ = 0 by decide +kernel)
  go_enter Tryz.func16, Tryz.ntmps16
  go_wp2_with fail
  refine (open_yes 1 rfl _).mono ?_
  rintro e w1 ⟨rfl, b1⟩
  go_wp2_with fail
  refine (feed_sl 1 ⟨#[]⟩ 0 false false _ false _ _ _ _ _ _ _ f2.out _).mono ?_
  rintro e w2 ⟨A2, c2, rfl, o2, b2⟩
  go_wp2_with fail
  refine (feed_sl 1 ⟨#[226, 130]⟩ 0 false false _ true _ _ _ _ _ _ _ f3.out _).mono ?_
  rintro e w3 ⟨A3, c3, rfl, o3, b3⟩
  go_wp2_with fail
  refine (decE_sl 7 _ _ _ f4.out _).mono ?_
  rintro e w4 ⟨A4, c4, rfl, o4, b4⟩
  have hS := Box.bel (Box.bel (Box.bel (Box.bel (Box.bel (Box.new w1 _ _) b2) ((Bel.refl _).alloc _)) b3) ((Bel.refl _).alloc _)) b4
  have hT := Box.bel (Box.bel (Box.bel (Box.new w2 _ _) b3) ((Bel.refl _).alloc _)) b4
  have hU := Box.bel (Box.new w3 _ _) b4
  have sc0 := hS.cell 0 _ rfl; have sc1 := hS.cell 1 _ rfl; have sc2 := hS.cell 2 _ rfl; have sc3 := hS.cell 3 _ rfl; have sc4 := hS.cell 4 _ rfl; have tc0 := hT.cell 0 _ rfl; have tc1 := hT.cell 1 _ rfl; have tc2 := hT.cell 2 _ rfl; have tc3 := hT.cell 3 _ rfl; have tc4 := hT.cell 4 _ rfl; have uc0 := hU.cell 0 _ rfl; have uc1 := hU.cell 1 _ rfl; have uc2 := hU.cell 2 _ rfl; have uc3 := hU.cell 3 _ rfl; have uc4 := hU.cell 4 _ rfl
  go_wp2_with fail
  refine (check_any 1 ⟨#[226, 130]⟩ 0 false false 0 f5.out _).mono ?_
  rintro e w5 ⟨rfl, b5⟩
  have hS := Box.bel hS b5; have hT := Box.bel hT b5; have hU := Box.bel hU b5; have sc0 := hS.cell 0 _ rfl; have sc1 := hS.cell 1 _ rfl; have sc2 := hS.cell 2 _ rfl; have sc3 := hS.cell 3 _ rfl; have sc4 := hS.cell 4 _ rfl; have tc0 := hT.cell 0 _ rfl; have tc1 := hT.cell 1 _ rfl; have tc2 := hT.cell 2 _ rfl; have tc3 := hT.cell 3 _ rfl; have tc4 := hT.cell 4 _ rfl; have uc0 := hU.cell 0 _ rfl; have uc1 := hU.cell 1 _ rfl; have uc2 := hU.cell 2 _ rfl; have uc3 := hU.cell 3 _ rfl; have uc4 := hU.cell 4 _ rfl
  go_wp2_with fail
  refine (sameInts_yes _ _ _ _ _ (o2.ints.bel (by repeat (first | exact Bel.refl _ | refine Bel.drewN ?_ _ | refine Bel.drew ?_ | refine Bel.alloc ?_ _ | refine Bel.trans ?_ (by assumption) | refine Bel.setCell ?_ (by simp; omega) _))) (IntSl.lit _ _ [97] (by decide)) rfl).mono ?_
  rintro e w6 ⟨rfl, b6⟩
  have b56 : Bel w5 w6 := ((Bel.refl w5).alloc _).trans b6
  have hS := Box.bel hS b56; have hT := Box.bel hT b56; have hU := Box.bel hU b56; have sc0 := hS.cell 0 _ rfl; have sc1 := hS.cell 1 _ rfl; have sc2 := hS.cell 2 _ rfl; have sc3 := hS.cell 3 _ rfl; have sc4 := hS.cell 4 _ rfl; have tc0 := hT.cell 0 _ rfl; have tc1 := hT.cell 1 _ rfl; have tc2 := hT.cell 2 _ rfl; have tc3 := hT.cell 3 _ rfl; have tc4 := hT.cell 4 _ rfl; have uc0 := hU.cell 0 _ rfl; have uc1 := hU.cell 1 _ rfl; have uc2 := hU.cell 2 _ rfl; have uc3 := hU.cell 3 _ rfl; have uc4 := hU.cell 4 _ rfl
  go_wp2_with fail
  refine (sameInts_yes _ _ _ _ _ (o3.ints.bel (by repeat (first | exact Bel.refl _ | refine Bel.drewN ?_ _ | refine Bel.drew ?_ | refine Bel.alloc ?_ _ | refine Bel.trans ?_ (by assumption) | refine Bel.setCell ?_ (by simp; omega) _))) (IntSl.lit _ _ [8364, 65533] (by decide)) rfl).mono ?_
  rintro e w7 ⟨rfl, b7⟩
  have b67 : Bel w6 w7 := ((Bel.refl w6).alloc _).trans b7
  have hS := Box.bel hS b67; have hT := Box.bel hT b67; have hU := Box.bel hU b67; have sc0 := hS.cell 0 _ rfl; have sc1 := hS.cell 1 _ rfl; have sc2 := hS.cell 2 _ rfl; have sc3 := hS.cell 3 _ rfl; have sc4 := hS.cell 4 _ rfl; have tc0 := hT.cell 0 _ rfl; have tc1 := hT.cell 1 _ rfl; have tc2 := hT.cell 2 _ rfl; have tc3 := hT.cell 3 _ rfl; have tc4 := hT.cell 4 _ rfl; have uc0 := hU.cell 0 _ rfl; have uc1 := hU.cell 1 _ rfl; have uc2 := hU.cell 2 _ rfl; have uc3 := hU.cell 3 _ rfl; have uc4 := hU.cell 4 _ rfl
  go_wp2_with fail
  refine (sameInts_yes _ _ _ _ _ (o4.ints.bel (by repeat (first | exact Bel.refl _ | refine Bel.drewN ?_ _ | refine Bel.drew ?_ | refine Bel.alloc ?_ _ | refine Bel.trans ?_ (by assumption) | refine Bel.setCell ?_ (by simp; omega) _))) (IntSl.lit _ _ [65533] (by decide)) rfl).mono ?_
  rintro e w8 ⟨rfl, b8⟩
  go_wp2_with fail
  go_ret
  exact ⟨rfl, (by repeat (first | exact Bel.refl _ | refine Bel.drewN ?_ _ | refine Bel.drew ?_ | refine Bel.alloc ?_ _ | refine Bel.trans ?_ (by assumption) | refine Bel.setCell ?_ (by simp; omega) _))⟩
end Go.Proofs.YteingkjdemlhgaaGreatDoor

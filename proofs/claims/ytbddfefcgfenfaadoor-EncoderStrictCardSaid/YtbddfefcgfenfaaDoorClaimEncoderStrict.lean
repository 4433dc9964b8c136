/-
  The card of the statement EncoderStrictSaid: for every input the law answers true. The row lists package-level variables; the card ties them to the program's text. No condition. The walk is lifted to the row.
-/
import Derived.Test.YtbddfefcgfenfaaDoorCards
import Derived.Test.YtbddfefcgfenfaaDoorTie
import Derived.Test.YtbddfefcgfenfaaDoorLawEnc
import Derived.Test.YtbddfefcgfenfaaDoorLawStream
import Derived.WalkKit
import Derived.ProofKit
import Derived.OpenShut
import Derived.ShutString
import Derived.ChangeOld
import Derived.SizedLaws
import Derived.Deep.DeepHandedRow
import Derived.Lib.LaidTab
namespace Go.Proofs.YtbddfefcgfenfaaDoor
open Go.RowKit
set_option maxRecDepth 1000000

theorem points_vals2 (xs : List Int) : M.points xs = 0 ∨ M.points xs = 2 ∨ M.points xs = 3 := by
  unfold M.points; (repeat' split) <;> simp
theorem strict_pre (e : Int) (v : Value) (xs : List Int) (w : World) (hv : IntSl w v xs) (htab : Tab w) (k : Int) (_g1 : (k != 0) = true) (_g2 : (k != 5) = true) (H : Hid (M.encE e 0 xs = ([], k))) :
    Calls Tryd.prog 15 #[.int .i64 e, v] w fun r w' => r = .returned (.bool true) ∧ Bel w w' := by
  go_enter Tryd.func15, Tryd.ntmps15
  go_wp2_with (first | (go_at_call 32; refine (encoderBegun_any _ htab).mono ?_; rintro r w1 ⟨rfl, b1⟩) | (go_at_call 49; refine (streamBegun_any _).mono ?_; rintro r w2 ⟨rfl, b2⟩) | (go_at_call 28; refine (enc_to e 0 v xs _ (hv.bel (b1.trans b2)) (htab.bel (b1.trans b2)) _ _ H.out).mono ?_; rintro r w3 ⟨rfl, b3⟩))
  go_ret
  exact ⟨rfl, (b1.trans b2).trans b3⟩
theorem strict_no (e : Int) (v : Value) (xs : List Int) (w : World) (hv : IntSl w v xs) (htab : Tab w) (HS : Hid (∀ n ∈ xs, M.hasEE e n = (M.hasE (M.outE e) n, 0))) (HA : Hid (xs.all (M.hasE (M.outE e)) = false)) (H : Hid (M.encE e 0 xs = ([], 5))) :
    Calls Tryd.prog 15 #[.int .i64 e, v] w fun r w' => r = .returned (.bool true) ∧ Bel w w' := by
  go_enter Tryd.func15, Tryd.ntmps15
  go_wp2_with (first | (go_at_call 32; refine (encoderBegun_any _ htab).mono ?_; rintro r w1 ⟨rfl, b1⟩) | (go_at_call 49; refine (streamBegun_any _).mono ?_; rintro r w2 ⟨rfl, b2⟩) | (go_at_call 28; refine (enc_to e 0 v xs _ (hv.bel (b1.trans b2)) (htab.bel (b1.trans b2)) _ _ H.out).mono ?_; rintro r w3 ⟨rfl, b3⟩))
  have bA := (b1.trans b2).trans b3
  clear b1 b2 b3 htab
  have hx0 := hv
  obtain ⟨a, ca, rfl, hc1, hc2, hn, hx⟩ := hv
  unfold maxLen at hc2
  have HX := Lib.hid hx
  have HN := Lib.hid hn
  clear hx hn
  go_loopw [7, 8] (fun v i wr => ∃ (k : Nat), k ≤ xs.length ∧ i = .int .i64 k ∧ v = .bool ((xs.take k).all (M.hasE (M.outE e))) ∧ Bel w wr) (fun _ i _ => xs.length - (intOf i).toNat)
  case atStart => exact ⟨0, by omega, rfl, rfl, bA⟩
  case round =>
    clear bA
    obtain ⟨k, hk, rfl, rfl, hb⟩ := hrel
    by_cases hlt : k < xs.length
    · obtain ⟨n, hn⟩ : ∃ n, xs[k]? = some n := ⟨_, List.getElem?_eq_getElem hlt⟩
      cases a with
      | none => exfalso; have h3 := hlt; rw [HN.out rfl, List.length_nil] at h3; omega
      | some x =>
        have hcw : w.cell? (x.add k) = some (.int .i64 n) := HX.out x rfl k n hn
        have hcell : wr.cell? (x.add k) = some (.int .i64 n) := (hb.cell (World.block_lt_of_cell? w _ hcw)).trans hcw
        have HH := Lib.hid (HS.out n (List.mem_of_getElem? hn))
        have HT := Lib.hid (show (xs.take (k + 1)).all (M.hasE (M.outE e)) = ((xs.take k).all (M.hasE (M.outE e)) && M.hasE (M.outE e) n) by
          rw [List.take_add_one, hn, List.all_append]; simp)
        clear hcw hn
        generalize (xs.take k).all (M.hasE (M.outE e)) = q at *
        generalize M.hasE (M.outE e) n = p at *
        cases q
        · go_wp2_with (go_at_call 27; refine (has_to e n _ _ HH.out _).mono ?_; rintro e w' ⟨rfl, b4⟩)
          go_roundw
          case rel => exact ⟨k + 1, by omega, by go_num, by rw [HT.out]; rfl, hb.trans b4⟩
          case measure => simp [intOf]; omega
        · go_wp2_with (go_at_call 27; refine (has_to e n _ _ HH.out _).mono ?_; rintro e w' ⟨rfl, b4⟩)
          go_roundw
          case rel => exact ⟨k + 1, by omega, by go_num, by rw [HT.out, Bool.true_and], hb.trans b4⟩
          case measure => simp [intOf]; omega
    · obtain rfl : k = xs.length := by omega
      rw [List.take_length, HA.out]
      go_wp2_with fail
      go_ret
      exact ⟨rfl, hb⟩
theorem strict_long (e : Int) (v : Value) (xs : List Int) (w : World) (hv : IntSl w v xs) (htab : Tab w) (HS : Hid (∀ n ∈ xs, M.hasEE e n = (M.hasE (M.outE e) n, 0))) (HA : Hid (xs.all (M.hasE (M.outE e)) = true)) (b : List UInt8) (hl : 3000 < b.length) (H : Hid (M.encE e 0 xs = (b, 0))) :
    Calls Tryd.prog 15 #[.int .i64 e, v] w fun r w' => r = .returned (.bool true) ∧ Bel w w' := by
  go_enter Tryd.func15, Tryd.ntmps15
  go_wp2_with (first | (go_at_call 32; refine (encoderBegun_any _ htab).mono ?_; rintro r w1 ⟨rfl, b1⟩) | (go_at_call 49; refine (streamBegun_any _).mono ?_; rintro r w2 ⟨rfl, b2⟩) | (go_at_call 28; refine (enc_to e 0 v xs _ (hv.bel (b1.trans b2)) (htab.bel (b1.trans b2)) _ _ H.out).mono ?_; rintro r w3 ⟨rfl, b3⟩))
  have bA := (b1.trans b2).trans b3
  clear b1 b2 b3 htab
  have hx0 := hv
  obtain ⟨a, ca, rfl, hc1, hc2, hn, hx⟩ := hv
  unfold maxLen at hc2
  have HX := Lib.hid hx
  have HN := Lib.hid hn
  clear hx hn
  go_loopw [7, 8] (fun v i wr => ∃ (k : Nat), k ≤ xs.length ∧ i = .int .i64 k ∧ v = .bool ((xs.take k).all (M.hasE (M.outE e))) ∧ Bel w wr) (fun _ i _ => xs.length - (intOf i).toNat)
  case atStart => exact ⟨0, by omega, rfl, rfl, bA⟩
  case round =>
    clear bA
    obtain ⟨k, hk, rfl, rfl, hb⟩ := hrel
    by_cases hlt : k < xs.length
    · obtain ⟨n, hn⟩ : ∃ n, xs[k]? = some n := ⟨_, List.getElem?_eq_getElem hlt⟩
      cases a with
      | none => exfalso; have h3 := hlt; rw [HN.out rfl, List.length_nil] at h3; omega
      | some x =>
        have hcw : w.cell? (x.add k) = some (.int .i64 n) := HX.out x rfl k n hn
        have hcell : wr.cell? (x.add k) = some (.int .i64 n) := (hb.cell (World.block_lt_of_cell? w _ hcw)).trans hcw
        have HH := Lib.hid (HS.out n (List.mem_of_getElem? hn))
        have HT := Lib.hid (show (xs.take (k + 1)).all (M.hasE (M.outE e)) = ((xs.take k).all (M.hasE (M.outE e)) && M.hasE (M.outE e) n) by
          rw [List.take_add_one, hn, List.all_append]; simp)
        clear hcw hn
        generalize (xs.take k).all (M.hasE (M.outE e)) = q at *
        generalize M.hasE (M.outE e) n = p at *
        cases q
        · go_wp2_with (go_at_call 27; refine (has_to e n _ _ HH.out _).mono ?_; rintro e w' ⟨rfl, b4⟩)
          go_roundw
          case rel => exact ⟨k + 1, by omega, by go_num, by rw [HT.out]; rfl, hb.trans b4⟩
          case measure => simp [intOf]; omega
        · go_wp2_with (go_at_call 27; refine (has_to e n _ _ HH.out _).mono ?_; rintro e w' ⟨rfl, b4⟩)
          go_roundw
          case rel => exact ⟨k + 1, by omega, by go_num, by rw [HT.out, Bool.true_and], hb.trans b4⟩
          case measure => simp [intOf]; omega
    · obtain rfl : k = xs.length := by omega
      rw [List.take_length, HA.out]
      go_wp2_with fail
      go_ret
      exact ⟨rfl, hb⟩
theorem strict_yes (e : Int) (v : Value) (xs : List Int) (w : World) (hv : IntSl w v xs) (htab : Tab w) (HS : Hid (∀ n ∈ xs, M.hasEE e n = (M.hasE (M.outE e) n, 0))) (HA : Hid (xs.all (M.hasE (M.outE e)) = true)) (b : List UInt8) (hl : ¬ 3000 < b.length) (H : Hid (M.encE e 0 xs = (b, 0)))
    (HO : Hid (M.outputE e = (M.outE e, 0))) (HD : Hid (M.decE (M.outE e) (⟨b.toArray⟩ : ByteArray).data.toList = (xs, 0))) :
    Calls Tryd.prog 15 #[.int .i64 e, v] w fun r w' => r = .returned (.bool true) ∧ Bel w w' := by
  go_enter Tryd.func15, Tryd.ntmps15
  go_wp2_with (first | (go_at_call 32; refine (encoderBegun_any _ htab).mono ?_; rintro r w1 ⟨rfl, b1⟩) | (go_at_call 49; refine (streamBegun_any _).mono ?_; rintro r w2 ⟨rfl, b2⟩) | (go_at_call 28; refine (enc_to e 0 v xs _ (hv.bel (b1.trans b2)) (htab.bel (b1.trans b2)) _ _ H.out).mono ?_; rintro r w3 ⟨rfl, b3⟩))
  have bA := (b1.trans b2).trans b3
  clear b1 b2 b3 htab
  have hx0 := hv
  obtain ⟨a, ca, rfl, hc1, hc2, hn, hx⟩ := hv
  unfold maxLen at hc2
  have HX := Lib.hid hx
  have HN := Lib.hid hn
  clear hx hn
  go_loopw [7, 8] (fun v i wr => ∃ (k : Nat), k ≤ xs.length ∧ i = .int .i64 k ∧ v = .bool ((xs.take k).all (M.hasE (M.outE e))) ∧ Bel w wr) (fun _ i _ => xs.length - (intOf i).toNat)
  case atStart => exact ⟨0, by omega, rfl, rfl, bA⟩
  case round =>
    clear bA
    obtain ⟨k, hk, rfl, rfl, hb⟩ := hrel
    by_cases hlt : k < xs.length
    · obtain ⟨n, hn⟩ : ∃ n, xs[k]? = some n := ⟨_, List.getElem?_eq_getElem hlt⟩
      cases a with
      | none => exfalso; have h3 := hlt; rw [HN.out rfl, List.length_nil] at h3; omega
      | some x =>
        have hcw : w.cell? (x.add k) = some (.int .i64 n) := HX.out x rfl k n hn
        have hcell : wr.cell? (x.add k) = some (.int .i64 n) := (hb.cell (World.block_lt_of_cell? w _ hcw)).trans hcw
        have HH := Lib.hid (HS.out n (List.mem_of_getElem? hn))
        have HT := Lib.hid (show (xs.take (k + 1)).all (M.hasE (M.outE e)) = ((xs.take k).all (M.hasE (M.outE e)) && M.hasE (M.outE e) n) by
          rw [List.take_add_one, hn, List.all_append]; simp)
        clear hcw hn
        generalize (xs.take k).all (M.hasE (M.outE e)) = q at *
        generalize M.hasE (M.outE e) n = p at *
        cases q
        · go_wp2_with (go_at_call 27; refine (has_to e n _ _ HH.out _).mono ?_; rintro e w' ⟨rfl, b4⟩)
          go_roundw
          case rel => exact ⟨k + 1, by omega, by go_num, by rw [HT.out]; rfl, hb.trans b4⟩
          case measure => simp [intOf]; omega
        · go_wp2_with (go_at_call 27; refine (has_to e n _ _ HH.out _).mono ?_; rintro e w' ⟨rfl, b4⟩)
          go_roundw
          case rel => exact ⟨k + 1, by omega, by go_num, by rw [HT.out, Bool.true_and], hb.trans b4⟩
          case measure => simp [intOf]; omega
    · obtain rfl : k = xs.length := by omega
      rw [List.take_length, HA.out]
      go_wp2_with (first | (go_at_call 26; refine (output_to e _ _ HO.out _).mono ?_; rintro r w4 ⟨rfl, rfl⟩) | (go_at_call 50; refine (decE_sl (M.outE e) ⟨b.toArray⟩ xs 0 HD.out _).mono ?_; rintro r w5 ⟨A5, c5, rfl, o5, b5⟩) | (go_at_call 51; refine (sameInts_yes _ _ xs xs _ o5.ints (hx0.bel (hb.trans b5)) rfl).mono ?_; rintro r w6 ⟨rfl, b6⟩))
      go_ret
      exact ⟨rfl, (hb.trans b5).trans b6⟩
theorem encoderStrictTrue (e : Int) (v : Value) (xs : List Int) (w : World) (_ : -9223372036854775808 ≤ e ∧ e ≤ 9223372036854775807) (hv : IntSl w v xs) (_ : xs.length * 8 ≤ reachBytes) (_ : ∀ n ∈ xs, -9223372036854775808 ≤ n ∧ n ≤ 9223372036854775807) (htab : Tab w) :
    Calls Tryd.prog 15 #[.int .i64 e, v] w fun r w' => r = .returned (.bool true) ∧ Bel w w' := by
  cases hi : M.isEnc e with
  | false => exact strict_pre e v xs w hv htab 6 rfl rfl (Lib.hid (by rw [M.encE, hi, if_pos rfl]))
  | true =>
    have hE : M.encE e 0 xs = if M.points xs ≠ 0 then ([], M.points xs) else M.writeE (M.outE e) xs := by
      rw [M.encE, hi, if_neg (by decide), if_neg (by omega), if_neg (show ¬ (0 : Int) = 1 by decide)]
    by_cases hp : M.points xs = 0
    · have hq := points_scalars xs hp
      rw [if_neg (by simpa using hp)] at hE
      have HS := Lib.hid (show ∀ n ∈ xs, M.hasEE e n = (M.hasE (M.outE e) n, 0) from fun n hn => by
        rw [M.hasEE, hi, if_neg (by decide), hq.2 n hn, if_neg (by decide)])
      rcases M.writeE_cases (M.outE e) xs with ⟨h8, b, h9⟩ | ⟨h8, h9⟩
      · by_cases hl : 3000 < b.length
        · exact strict_long e v xs w hv htab HS (Lib.hid h8) b hl (Lib.hid (by rw [hE, h9]))
        · have h7 := M.allE_write (M.outE e) xs b (M.outE_cases e hi) hq.2 h9
          have h6 : M.readyE (M.outE e) b = 0 := by
            rw [M.readyE, M.outE_enc e hi]; simp; omega
          exact strict_yes e v xs w hv htab HS (Lib.hid h8) b hl (Lib.hid (by rw [hE, h9])) (Lib.hid (by rw [M.outputE, hi, if_pos rfl])) (Lib.hid (by rw [M.decE, if_pos h6, h7]))
      · exact strict_no e v xs w hv htab HS (Lib.hid h8) (Lib.hid (by rw [hE, h9]))
    · rw [if_pos hp] at hE
      rcases points_vals2 xs with h | h | h
      · exact absurd h hp
      · exact strict_pre e v xs w hv htab 2 rfl rfl (Lib.hid (by rw [hE, h]))
      · exact strict_pre e v xs w hv htab 3 rfl rfl (Lib.hid (by rw [hE, h]))
end Go.Proofs.YtbddfefcgfenfaaDoor

namespace Go.Proofs.YtbddfefcgfenfaaDoor.encoderStrict
open Go.ChangeShapes Go.WideShapes Go.ChangeAt Go.RowKit
open Go.ChangeMaps (open_string shut_string)
set_option linter.unusedVariables false

theorem own : ownKnob Tryd.prog.godebug = none := by kernel_rfl
theorem laidOut : laidOutB Tryd.prog = true := by kernel_rfl
theorem bytesInt : Tryd.prog.bytesOf 3 = 8 := by kernel_rfl
theorem gTabType : (Tryd.prog.globals[3]?).map (·.type) = some 194 := by kernel_rfl
theorem cellsArr : Tryd.prog.cellsOf 194 = 20 := by kernel_rfl
theorem cellsOne : Tryd.prog.cellsOf 177 = 1 := by kernel_rfl
/-- What the row's list gives: the powers of ten lie there. -/
theorem table {W : World} (h : laidMetH Tryd.prog Rows.encoderStrictRow.laid W) : Tab W := by
  obtain ⟨ps, ⟨_, _, _, _, _, _, _, _, _, _, ⟨_, _, _, _, _, _, _, _, _, _, ⟨g', t', cs, fuel, p, q, hg', ht', hvar, hd, _, _⟩, _⟩, _⟩, _⟩ := (show laidMet Tryd.prog Rows.encoderStrictRow.laid W from h)
  obtain rfl := Option.some.inj (gTab.symm.trans hg')
  obtain rfl := Option.some.inj (gTabType.symm.trans ht')
  have hd2 : DataW.trod (fun _ => ()) Tryd.prog W 0 (fun _ => true) false fuel 194 cs.toList = some (Lib.tabData .u64 Lib.pow10Tab, p) := hd
  have := Lib.cells_of_tab Tryd.underlying194 Tryd.underlying177 cellsOne cellsArr hd2
  unfold Tab Lib.TabIs
  rw [hvar, ← this]
set_option maxRecDepth 100000 in
theorem contract (H : Type) (enc : TypeId × Value → H) (W : World) (base : Nat) (args : Array Value) (ds gs : List (DataW H)) (before : List MemPlace)
    (hval0 : ∀ (j : Nat) t v, Tryd.f15.params[j]? = some t → args[j]? = some v → Value.okWide Tryd.prog W .any base t v)
    (hW : DataW.Whole enc Tryd.prog Tryd.f15.params.toList Rows.encoderStrictSpec.vars false W args.toList ds gs before)
    (hsz0 : (DataW.weightsEach Tryd.prog (Tryd.f15.params.toList ++ (OpenSpec.ofChange Rows.encoderStrictSpec).bare.plain.varTypes Tryd.prog) (ds ++ gs)).all (· ≤ reachBytes) = true)
    (hL : laidMetH Tryd.prog Rows.encoderStrictRow.laid W) (hSh : W.ShapedOpen Tryd.prog) :
    Calls Tryd.prog 15 args W fun e W' => ∃ v, e = .returned v ∧ Rows.encoderStrictSpec.post enc Tryd.prog Tryd.f15 false true false false W args v W' := by
  have hval : ∀ (j : Nat) t v, Tryd.f15.params[j]? = some t → args[j]? = some v → Value.okWide Tryd.prog W .any base t v := hval0
  have hsz1 : (DataW.weightsEach Tryd.prog (Tryd.f15.params.toList ++ (OpenSpec.ofChange Rows.encoderStrictSpec).bare.plain.varTypes Tryd.prog) (ds ++ gs)).all (· ≤ reachBytes) = true := hsz0
  have hW' := hW
  obtain ⟨p, q, hA0, hV, rfl, hfz, hnd⟩ := hW
  have hA : DataW.TrodAll enc Tryd.prog W 0 (fun _ => true) true Tryd.f15.params.toList args.toList ds p := hA0
  rw [Tryd.params15] at hA hval hsz1
  obtain ⟨v0, vs0, d0, ds0, p0, q0, hargs, rfl, rfl, h0, r0⟩ := trodAll_cons hA
  obtain ⟨v1, vs1, d1, ds1, p1, q1, rfl, rfl, rfl, h1, r1⟩ := trodAll_cons r0
  obtain ⟨rfl, rfl, rfl⟩ := trodAll_nil r1
  obtain rfl : args = #[v0, v1] := by cases args; simp_all
  obtain ⟨rfl, rfl⟩ := trodVars_none hV
  obtain ⟨a0, rfl, rfl, rfl, w0⟩ := open_int Tryd.underlying3 (hval 0 3 v0 rfl rfl) h0
  have s0 : -9223372036854775808 ≤ a0 ∧ a0 ≤ 9223372036854775807 := by have := w0; simp only [Lit.wf, Bool.and_eq_true, decide_eq_true_eq] at this; exact this
  obtain ⟨a1, len1, cap1, rfl⟩ := okWide_slice Tryd.underlying36 (hval 1 36 v1 rfl rfl)
  have k1 := h1
  have lt1 : ∀ x ∈ p1, x.block < W.heap.size := by obtain ⟨m, hm⟩ := k1; exact DataW.trod_lt m _ _ _ hm
  obtain ⟨z1, w1, s1, f1⟩ : ∃ zs, IntSl W (.slice a1 len1 cap1) zs ∧ zs.length * 8 ≤ reachBytes ∧ ∀ n ∈ zs, -9223372036854775808 ≤ n ∧ n ≤ 9223372036854775807 := by
    obtain ⟨fuel, hf⟩ := h1
    rcases open_ints Tryd.underlying36 Tryd.underlying3 (by kernel_rfl) hf with ⟨hcs, _⟩ | ⟨x, l, c, zs, hcs, _, hl, hm, hz, hx, hcell, hwz⟩
    · simp [Value.cells] at hcs
      obtain ⟨rfl, rfl, rfl⟩ := hcs
      exact ⟨[], IntSl.nil_ _, by simp [reachBytes], by simp⟩
    · simp [Value.cells] at hcs
      obtain ⟨rfl, rfl, rfl⟩ := hcs
      simp only [Prod.mk.injEq] at hx
      have := sized_slice hsz1 (j := 1) (t := 36) (e := 3) rfl (by rw [hx.1]; rfl) Tryd.underlying36
      rw [bytesInt] at this
      simp only [lits, List.length_map, List.length_take, List.length_drop, reachBytes] at this
      refine ⟨zs.take len1, IntSl.of_row hl hm (by simpa using hz) hcell, by rw [List.length_take]; simp only [reachBytes]; omega, fun n hn => ?_⟩
      have := hwz n (List.mem_of_mem_take hn)
      simp only [Lit.wf, Bool.and_eq_true, decide_eq_true_eq] at this
      exact this
  clear hA0 hval0
  refine (encoderStrictTrue a0 _ z1 W s0 w1 s1 f1 (table hL)).mono fun e W' ⟨he, bel⟩ => ?_
  subst he
  exact ⟨_, rfl, _, _, _, [], _, [], hW', trodAll_mk1 (shut_bool Tryd.underlying4 _), (trodAll_cons_mk (shut_int Tryd.underlying3 w0) (trodAll_cons_mk (Below.trod laidOut (by kernel_rfl) (of_decide_eq_true (by kernel_rfl)) k1 bel lt1) trodAll_mk0)), rfl, bel.frame _, fun h => by cases h⟩

/-- A world for the witness: the listed variables hold what the program's text lays. -/
def setCells (cs : Array Value) : Obj → Obj
  | .cells _ t frozen => .cells cs t frozen
  | o => o
noncomputable def laidWorld (os : Os) : World :=
  { World.holding Tryd.prog os ⟨#[], #[], []⟩ with heap := ((((World.holding Tryd.prog os ⟨#[], #[], []⟩).heap).modify 4 (setCells (([0, 1, 28, 2, 29, 14, 24, 3, 30, 22, 20, 15, 25, 17, 4, 8, 31, 27, 13, 23, 21, 19, 16, 7, 26, 12, 18, 6, 11, 5, 10, 9] : List Nat).map (fun z : Nat => Value.int .u8 (z : Int))).toArray)).modify 5 (setCells (([0, 1, 56, 2, 57, 49, 28, 3, 61, 58, 42, 50, 38, 29, 17, 4, 62, 47, 59, 36, 45, 43, 51, 22, 53, 39, 33, 30, 24, 18, 12, 5, 63, 55, 48, 27, 60, 41, 37, 16, 46, 35, 44, 21, 52, 32, 23, 11, 54, 26, 40, 15, 34, 20, 31, 10, 25, 14, 19, 9, 13, 8, 7, 6] : List Nat).map (fun z : Nat => Value.int .u8 (z : Int))).toArray)).modify 3 (setCells (([1, 10, 100, 1000, 10000, 100000, 1000000, 10000000, 100000000, 1000000000, 10000000000, 100000000000, 1000000000000, 10000000000000, 100000000000000, 1000000000000000, 10000000000000000, 100000000000000000, 1000000000000000000, 10000000000000000000] : List Nat).map (fun z : Nat => Value.int .u64 (z : Int))).toArray) }
theorem laid_met (os : Os) : laidMet Tryd.prog Rows.encoderStrictRow.laid ((laidWorld os).forCall (fun _ _ => 0) ⟨#[], #[.int .i64 0, .slice none 0 0], []⟩).memory :=
  laidMet_of_run' 8 (by kernel_rfl) (by kernel_rfl)
theorem reads (os : Os) {H : Type} (enc : TypeId × Value → H) : ∃ places, DataW.whole enc Tryd.prog ((laidWorld os).forCall (fun _ _ => 0) ⟨#[], #[.int .i64 0, .slice none 0 0], []⟩).memory Tryd.f15.params.toList Rows.encoderStrictSpec.vars false (#[.int .i64 0, .slice none 0 0]).toList 8 = some ([.lit (.int .i64 0), .nil], [], places) :=
  ⟨[], by kernel_rfl⟩

set_option maxRecDepth 100000 in
theorem lifted (os : Os) (started : os.Started) (H : Type) (enc : TypeId × Value → H) (F : Stop.Interp) :
    ReturnsInHanded {} Tryd.checked os 15 .any ((OpenSpec.ofChange Rows.encoderStrictSpec).preRow enc Tryd.prog Tryd.f15 Rows.encoderStrictRow.domain false Rows.encoderStrictRow.laid) (((OpenSpec.ofChange Rows.encoderStrictSpec).at F).post enc Tryd.prog Tryd.f15 false true false false) := by
  obtain ⟨places, hx⟩ := reads os enc
  refine returnsInHanded_of_row (C := Tryd.checked) (s := OpenSpec.ofChange Rows.encoderStrictSpec) own started (by kernel_rfl) Tryd.func15
    (witness_row_at (enc := enc) (C := Tryd.checked) false (laidWorld os) #[.int .i64 0, .slice none 0 0] rfl (by kernel_rfl) (by kernel_rfl) (by kernel_rfl)
      (OpenSpec.preRow_of_cond 8 hx (by kernel_rfl) (fun k hk => by cases hk) (by kernel_rfl) (laid_met os))) ?_
  intro W base args ds gs before hval hW _ _ hsz hL hSh _
  exact contract H enc W base args ds gs before hval hW hsz hL hSh

theorem said : Rows.EncoderStrictSaid :=
  OpenClaim.holds_of_cond 15 Tryd.f15 rfl rfl rfl rfl rfl rfl rfl ⟨rfl, rfl, rfl, rfl, rfl⟩ rfl rfl rfl rfl rfl (by kernel_rfl) Tryd.func15 (by kernel_rfl)
    (of_decide_eq_true (by kernel_rfl)) (by unfold Func.isWrapper; first | (rw [if_pos (by decide +kernel)]; kernel_rfl) | (rw [if_neg (by decide +kernel)]; exact ⟨rfl, rfl⟩))
    (fun os started H enc _ F => by rw [OpenClaim.pre_eq_preRow]; exact lifted os started H enc F)

/-- No parameter wants a stand-in; the program's own looks are off. -/
theorem plain (f : FuncId) (fn : Func) (hf : Tryd.pinned.checked.prog.funcNamed "cartouche/cartouchelaw.EncoderStrict" = some f) (hfn : Tryd.pinned.checked.prog.funcs[f]? = some fn) :
    false = Tryd.pinned.checked.prog.looks [] ∧ ∀ (j : Nat) t, fn.params[j]? = some t → Tryd.pinned.checked.prog.wantsStandIn t = false := by
  obtain rfl : f = 15 := Option.some.inj ((show Tryd.prog.funcNamed "cartouche/cartouchelaw.EncoderStrict" = some 15 by kernel_rfl).symm.trans hf) |>.symm
  obtain rfl : fn = Tryd.f15 := (Option.some.inj (Tryd.func15.symm.trans hfn)).symm
  refine ⟨by kernel_rfl, fun j t ht => ?_⟩
  rw [Tryd.params15] at ht
  have ht2 := Array.mem_of_getElem? ht
  simp only [List.mem_toArray, List.mem_cons, List.not_mem_nil, or_false] at ht2
  rcases ht2 with rfl | rfl
  · exact (show Tryd.prog.wantsStandIn 3 = false by kernel_rfl)
  · exact (show Tryd.prog.wantsStandIn 36 = false by kernel_rfl)

/-- The statement. -/
theorem proved : Rows.EncoderStrictCardSaid :=
  Claim7.holds_tied_plain_at .later [] _ _ _ _ said (fun _ h => by cases h) (by kernel_rfl) (fun _ h => by cases h) encoderStrict_row_tie rfl ⟨rfl, rfl⟩ (by kernel_rfl) rfl plain (by kernel_rfl)
#print axioms proved
end Go.Proofs.YtbddfefcgfenfaaDoor.encoderStrict
